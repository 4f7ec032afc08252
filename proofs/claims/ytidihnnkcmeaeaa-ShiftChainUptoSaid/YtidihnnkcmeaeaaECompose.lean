/- delta.Compose: the tape, pieces, and what it answers (five texts in one). No condition but that the lists can be read. -/
import Derived.Test.YtidihnnkcmeaeaaMG2
namespace Go.Proofs.Ytidihnnkcmeaeaa.A
open Go.RowKit Go.Proofs.YtidihnnkcmeaeaaW.PrintWords Go.Proofs.YtidihnnkcmeaeaaW.PrintLast Go.Proofs.YtidihnnkcmeaeaaW.PrintMore
set_option linter.unusedVariables false
set_option linter.unusedSimpArgs false
theorem blk_typ {w : World} {g g' : Nat} {c c' : Array Value} {t t' : TypeId} (h : w.heap[g]? = some (.cells c t (0, 0))) (h' : w.heap[g']? = some (.cells c' t' (0, 0))) (hne : t ≠ t') : g ≠ g' := by
 intro e
 subst e
 rw [h] at h'
 simp only [Option.some.injEq, Obj.cells.injEq] at h'
 exact hne h'.2.1
@[go_sem] theorem run_store_fn (P : Program) (w : World) (a : Addr) (m : Mode) (fn : Fn) (x y : Array Value) : (store a (.func fn x y) m).run P w = stored P w a (.func fn x y) m := run_store P w a _ m rfl
structure IsT (w : World) (gt : Nat) (A : Option Addr) (N c : Nat) (ops : List S70) : Prop where
 blk : w.heap[gt]? = some (.cells #[.slice A N c] 106 (0, 0))
 row : Kd.C k70 w A N ops
 cap : N ≤ c
theorem IsT.first {w : World} {gt : Nat} {A : Option Addr} {N c : Nat} {o : S70} {ops : List S70} (h : IsT w gt A N c (o :: ops)) : ∃ gr of, A = some ⟨gr, of, none⟩ ∧ N = ops.length + 1 ∧ w.cell? ⟨gr, of, none⟩ = some (.int .i64 o.f0) ∧ w.cell? ⟨gr, of + 1, none⟩ = some (.int .i64 o.f1) ∧ w.cell? ⟨gr, of + 2, none⟩ = some (.string o.f2) := by
 have hN := Kd.C_len h.row
 obtain ⟨ad, hx, hx0, hx1, hx2⟩ := at_T70 h.row 0 (by omega) (by rw [← hN]; simp)
 obtain ⟨gr, of, sp⟩ := ad
 have ha : ∀ n, (Addr.add ⟨gr, of, sp⟩ (n * 3)).block = gr := fun n => by unfold Addr.add; split <;> rfl
 cases sp with
 | some x =>
  exfalso
  simp [Addr.add, World.cell?] at hx0
  split at hx0 <;> simp at hx0
 | none =>
  refine ⟨gr, of, hx, by rw [← hN]; simp, ?_, ?_, ?_⟩
  ·
   simpa [Addr.add, rd_T70] using hx0
  ·
   simpa [Addr.add, rd_T70] using hx1
  ·
   simpa [Addr.add, rd_T70] using hx2
end Go.Proofs.Ytidihnnkcmeaeaa.A
namespace Go.Proofs.Ytidihnnkcmeaeaa.A
open Go.RowKit Go.Proofs.YtidihnnkcmeaeaaW.PrintWords Go.Proofs.YtidihnnkcmeaeaaW.PrintLast Go.Proofs.YtidihnnkcmeaeaaW.PrintMore
set_option linter.unusedVariables false
set_option linter.unusedSimpArgs false
theorem thr_zero (keep : Bool) (n : Int) (ops : List S70) (h : n ≤ 0) : thr keep n ops = ([], ops) := by
 cases ops with
 | nil => rfl
 | cons o a => rw [thr, if_pos h]
structure ThI (ops : List S70) (n m : Int) (T : List S70 × List S70) : Prop where
 left : toOf T.2 = toOf ops - n
 ok : ∀ o ∈ T.2, opOk o = true
 small : ∀ o ∈ T.2, opw o ≤ m
 pos : ∀ o ∈ T.1, posN o
 sum : opws T.1 + opws T.2 ≤ opws ops
theorem thr_inv (keep : Bool) {m : Int} : ∀ (ops : List S70) (n : Int), (∀ o ∈ ops, opOk o = true) → (∀ o ∈ ops, opw o ≤ m) → 0 ≤ n → n ≤ toOf ops → ThI ops n m (thr keep n ops)
 | [], n, _, _, h0, h1 => by
  have : n = 0 := by simp only [toOf] at h1; omega
  subst this
  exact ⟨rfl, by simp [thr], by simp [thr], by simp [thr], Int.le_refl _⟩
 | o :: ops, n, hok, hm, h0, h1 => by
  by_cases hn : n = 0
  ·
   subst hn
   rw [thr_zero _ _ _ (Int.le_refl 0)]
   exact ⟨by simp, hok, hm, by simp, by simp [opws]⟩
  ·
   have ho := hok o List.mem_cons_self
   have hmo := hm o List.mem_cons_self
   have hok' : ∀ x ∈ ops, opOk x = true := fun x hx => hok x (List.mem_cons_of_mem _ hx)
   have hm' : ∀ x ∈ ops, opw x ≤ m := fun x hx => hm x (List.mem_cons_of_mem _ hx)
   have hpw := opw_pos ho
   rw [toOf_cons] at h1
   rw [thr, if_neg (by omega)]
   rcases opOk_cases ho with ⟨k1, k2, k3⟩ | ⟨k1, k2, k3⟩
   ·
    have hopw : opw o = o.f1 := by unfold opw; rw [if_neg (by omega)]
    rw [if_neg (by omega)] at h1
    by_cases c3 : o.f0 = 3
    ·
     rw [if_pos c3] at h1
     rw [if_pos c3]
     obtain ⟨t1, t2, t3, t4, t5⟩ := thr_inv keep ops n hok' hm' h0 (by omega)
     refine ⟨?_, t2, t3, ?_, ?_⟩
     ·
      rw [toOf_cons, if_neg (by omega), if_pos c3, t1]; omega
     ·
      intro x hx
      rcases List.mem_cons.1 hx with rfl | hx
      ·
       exact fun _ => by show 0 ≤ o.f1; omega
      ·
       exact t4 x hx
     ·
      simp only [opws]
      have : opw (⟨3, o.f1, noText⟩ : S70) = o.f1 := rfl
      omega
    ·
     rw [if_neg c3] at h1
     rw [if_neg c3, if_neg (by omega)]
     have hx3 : ∀ y : Int, opw (⟨if keep then 1 else 3, y, noText⟩ : S70) = y := fun y => by cases keep <;> rfl
     have hx4 : ∀ y : Int, 0 ≤ y → posN (⟨if keep then 1 else 3, y, noText⟩ : S70) := fun y hy _ => hy
     by_cases hle : o.f1 ≤ n
     ·
      rw [if_pos hle]
      obtain ⟨t1, t2, t3, t4, t5⟩ := thr_inv keep ops (n - o.f1) hok' hm' (by omega) (by omega)
      refine ⟨?_, t2, t3, ?_, ?_⟩
      ·
       show toOf (thr keep (n - o.f1) ops).2 = _
       rw [toOf_cons, if_neg (by omega), if_neg c3, t1]; omega
      ·
       intro x hx
       rcases List.mem_cons.1 hx with rfl | hx
       ·
        exact hx4 _ (by omega)
       ·
        exact t4 x hx
      ·
       simp only [opws]
       have := hx3 o.f1
       omega
     ·
      rw [if_neg hle]
      have hr : opw (⟨1, o.f1 - n, noText⟩ : S70) = o.f1 - n := rfl
      refine ⟨?_, ?_, ?_, ?_, ?_⟩
      ·
       show (if (1 : Int) = 2 then ((noText.size : Nat) : Int) else if (1 : Int) = 3 then 0 else o.f1 - n) + toOf ops = _
       rw [toOf_cons, if_neg (show ¬ o.f0 = 2 by omega), if_neg c3, if_neg (by decide), if_neg (by decide)]
       omega
      ·
       intro x hx
       rcases List.mem_cons.1 hx with rfl | hx
       ·
        exact opOk_num (.inl rfl) (by omega)
       ·
        exact hok' x hx
      ·
       intro x hx
       rcases List.mem_cons.1 hx with rfl | hx
       ·
        rw [hr]; omega
       ·
        exact hm' x hx
      ·
       intro x hx
       rw [List.mem_singleton.1 hx]
       exact hx4 _ (by omega)
      ·
       simp only [opws]
       have := hx3 n
       omega
   ·
    have hopw : opw o = (o.f2.size : Int) := by unfold opw; rw [if_pos k1]
    rw [if_pos k1] at h1
    rw [if_neg (by omega), if_pos k1]
    have hput : ∀ t : ByteArray, opw (⟨2, 0, t⟩ : S70) = (t.size : Int) := fun t => rfl
    have hpp : ∀ t : ByteArray, posN (⟨2, 0, t⟩ : S70) := fun t hc => absurd rfl hc
    by_cases hle : (o.f2.size : Int) ≤ n
    ·
     rw [if_pos hle]
     obtain ⟨t1, t2, t3, t4, t5⟩ := thr_inv keep ops (n - (o.f2.size : Int)) hok' hm' (by omega) (by omega)
     refine ⟨?_, t2, t3, ?_, ?_⟩
     ·
      rw [toOf_cons, if_pos k1, t1]; omega
     ·
      intro x hx
      rcases List.mem_cons.1 hx with rfl | hx
      ·
       cases keep <;> exact hpp _
      ·
       exact t4 x hx
     ·
      simp only [opws]
      cases keep
      ·
       have := hput noText
       rw [noText_size] at this
       simp only [Bool.false_eq_true, if_false]
       omega
      ·
       have := hput o.f2
       simp only [if_true]
       omega
    ·
     rw [if_neg hle]
     have hs1 : (o.f2.extract 0 n.toNat).size = n.toNat := by simp only [ByteArray.size_extract]; omega
     have hs2 : ((o.f2.extract n.toNat o.f2.size).size : Int) = (o.f2.size : Int) - n := by simp only [ByteArray.size_extract]; omega
     have hr := hput (o.f2.extract n.toNat o.f2.size)
     refine ⟨?_, ?_, ?_, ?_, ?_⟩
     ·
      rw [toOf_cons, toOf_cons, if_pos k1]
      show (if (2 : Int) = 2 then ((o.f2.extract n.toNat o.f2.size).size : Int) else _) + toOf ops = _
      rw [if_pos rfl]
      omega
     ·
      intro x hx
      rcases List.mem_cons.1 hx with rfl | hx
      ·
       exact opOk_put (by omega)
      ·
       exact hok' x hx
     ·
      intro x hx
      rcases List.mem_cons.1 hx with rfl | hx
      ·
       rw [hr]; omega
      ·
       exact hm' x hx
     ·
      intro x hx
      rw [List.mem_singleton.1 hx]
      cases keep <;> exact hpp _
     ·
      simp only [opws]
      cases keep
      ·
       have := hput noText
       rw [noText_size] at this
       simp only [Bool.false_eq_true, if_false]
       omega
      ·
       have := hput (o.f2.extract 0 n.toNat)
       simp only [if_true]
       omega
def leftOps (a : List S70) : List S70 := a.map fun o => (⟨3, o.f1, noText⟩ : S70)
end Go.Proofs.Ytidihnnkcmeaeaa.A
namespace Go.Proofs.Ytidihnnkcmeaeaa.A
open Go.RowKit Go.Proofs.YtidihnnkcmeaeaaW.PrintWords Go.Proofs.YtidihnnkcmeaeaaW.PrintLast Go.Proofs.YtidihnnkcmeaeaaW.PrintMore
set_option linter.unusedVariables false
set_option linter.unusedSimpArgs false
section
structure CpQ (W0 : World) (gp gf gt g gc : Nat) (P : Nat → Prop) (A : Option Addr) (N c : Nat) (b : Bs) (ops : List S70) (W : World) : Prop where
 below : Below W0.heap.size W0 W
 bp : W.heap[gp]? = some (.cells #[.pointer (some ⟨g, 0, none⟩)] 97 (0, 0))
 bf : W.heap[gf]? = some (.cells #[.pointer (some ⟨gt, 0, none⟩)] 104 (0, 0))
 bc : W.heap[gc]? = some (.cells #[.func (.func 83) #[] #[.pointer (some ⟨gf, 0, none⟩), .pointer (some ⟨gp, 0, none⟩)]] 107 (0, 0))
 tape : IsT W gt A N c ops
 isb : IsB W W0.heap.size P g b
 own : ∀ q, P q → W0.heap.size ≤ q
 fresh : ∀ q, W.heap.size ≤ q → P q
 np : ¬ P gp
 nf : ¬ P gf
 nt : ¬ P gt
 nc : ¬ P gc
 na : 0 < N → ∀ a, A = some a → ¬ P a.block
 nw : W0.heap.size ≤ gt
def CpS (W0 : World) (gp gf gt g gc : Nat) (b : Bs) (ops : List S70) (W : World) : Prop := ∃ P A N c, CpQ W0 gp gf gt g gc P A N c b ops W
section
variable {W0 W W' : World} {gp gf gt g gc N c : Nat} {P : Nat → Prop} {A : Option Addr} {b b' : Bs} {ops : List S70}
theorem CpS.cp (h : CpS W0 gp gf gt g gc b ops W) : W.cell? ⟨gp, 0, none⟩ = some (.pointer (some ⟨g, 0, none⟩)) := by
 obtain ⟨P, A, N, c, h⟩ := h
 exact (blk_cell h.bp 0).trans rfl
theorem CpS.cc (h : CpS W0 gp gf gt g gc b ops W) : W.cell? ⟨gc, 0, none⟩ = some (.func (.func 83) #[] #[.pointer (some ⟨gf, 0, none⟩), .pointer (some ⟨gp, 0, none⟩)]) := by
 obtain ⟨P, A, N, c, h⟩ := h
 exact (blk_cell h.bc 0).trans rfl
theorem CpQ.ty (h : CpQ W0 gp gf gt g gc P A N c b ops W) : gp ≠ gt ∧ gf ≠ gt ∧ gc ≠ gt := ⟨blk_typ h.bp h.tape.blk (by decide), blk_typ h.bf h.tape.blk (by decide), blk_typ h.bc h.tape.blk (by decide)⟩
end
end
end Go.Proofs.Ytidihnnkcmeaeaa.A
namespace Go.Proofs.Ytidihnnkcmeaeaa.A
open Go.RowKit Go.Proofs.YtidihnnkcmeaeaaW.PrintWords Go.Proofs.YtidihnnkcmeaeaaW.PrintLast Go.Proofs.YtidihnnkcmeaeaaW.PrintMore
set_option linter.unusedVariables false
set_option linter.unusedSimpArgs false
end Go.Proofs.Ytidihnnkcmeaeaa.A
namespace Go.Proofs.Ytidihnnkcmeaeaa.A
open Go.RowKit Go.Proofs.YtidihnnkcmeaeaaW.PrintWords Go.Proofs.YtidihnnkcmeaeaaW.PrintLast Go.Proofs.YtidihnnkcmeaeaaW.PrintMore
set_option linter.unusedVariables false
set_option linter.unusedSimpArgs false
end Go.Proofs.Ytidihnnkcmeaeaa.A
