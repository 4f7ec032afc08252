/- delta.Compose: the tape, pieces, and what it answers (five texts in one). No condition but that the lists can be read. -/
import Derived.Test.YtidihnnkcmeaeaaQ
import Derived.Test.YtidihnnkcmeaeaaV0
import Derived.Test.YtidihnnkcmeaeaaEInvert
namespace Go.Proofs.Ytidihnnkcmeaeaa.A
open Go.RowKit Go.Proofs.YtidihnnkcmeaeaaW.PrintWords Go.Proofs.YtidihnnkcmeaeaaW.PrintLast Go.Proofs.YtidihnnkcmeaeaaW.PrintMore
set_option linter.unusedVariables false
set_option linter.unusedSimpArgs false
theorem opws_ge2 : ∀ {d : List S70}, (∀ o ∈ d, opOk o = true) → (d.length : Int) ≤ opws d
 | [], _ => by simp [opws]
 | o :: d, h => by
  have h1 := opws_ge2 (d := d) (fun x hx => h x (List.mem_cons_of_mem _ hx))
  have h2 := h o List.mem_cons_self
  simp only [opOk, Bool.or_eq_true, Bool.and_eq_true, beq_iff_eq, decide_eq_true_eq, bne_iff_ne] at h2
  simp only [List.length_cons, opws, opw]
  split <;> omega

theorem blk_typ {w : World} {g g' : Nat} {c c' : Array Value} {t t' : TypeId} (h : w.heap[g]? = some (.cells c t (0, 0))) (h' : w.heap[g']? = some (.cells c' t' (0, 0))) (hne : t ≠ t') : g ≠ g' := by
 intro e
 subst e
 rw [h] at h'
 simp only [Option.some.injEq, Obj.cells.injEq] at h'
 exact hne h'.2.1
/-- a function is one cell -/
@[go_sem] theorem run_store_fn (P : Program) (w : World) (a : Addr) (m : Mode) (fn : Fn) (x y : Array Value) : (store a (.func fn x y) m).run P w = stored P w a (.func fn x y) m := run_store P w a _ m rfl

theorem C_kp {P : Nat → Prop} {w w1 : World} {A : Option Addr} {n : Nat} {xs : List S70} (h : Kd.C k70 w A n xs) (hk : Kp P w w1) (hn : 0 < n → ∀ a, A = some a → ¬ P a.block) : Kd.C k70 w1 A n xs := by
 refine ⟨h.1, h.2.1, fun hp => ?_⟩
 obtain ⟨ad, e, hc⟩ := h.2.2 hp
 refine ⟨ad, e, fun j p hj => ?_⟩
 obtain ⟨c, hl, hK, hcell⟩ := hc j p hj
 refine ⟨c, hl, ?_, fun i u hu => ?_⟩
 ·
  have := k70_open hK
  subst this
  exact k70_mk _ _
 ·
  have h1 := hcell i u hu
  have hlt := block_lt_of_cell h1
  have hb : (ad.add (j * k70.sz + i)).block = ad.block := by unfold Addr.add; split <;> rfl
  rw [hb] at hlt
  rw [← h1]
  exact World.cell?_of_block (by rw [hb]; exact hk.block _ hlt (hn hp ad e))

/-- a tape: the block that holds the list -/
structure IsT (w : World) (gt : Nat) (A : Option Addr) (N c : Nat) (ops : List S70) : Prop where
 blk : w.heap[gt]? = some (.cells #[.slice A N c] 106 (0, 0))
 row : Kd.C k70 w A N ops
 cap : N ≤ c

/-- the first operation's cells -/
theorem IsT.first {w : World} {gt : Nat} {A : Option Addr} {N c : Nat} {o : S70} {ops : List S70} (h : IsT w gt A N c (o :: ops)) : ∃ gr of, A = some ⟨gr, of, none⟩ ∧ N = ops.length + 1 ∧ w.cell? ⟨gr, of, none⟩ = some (.int .i64 o.f0) ∧ w.cell? ⟨gr, of + 1, none⟩ = some (.int .i64 o.f1) ∧ w.cell? ⟨gr, of + 2, none⟩ = some (.string o.f2) := by
 have hN := Kd.C_len h.row
 obtain ⟨ad, hx, hx0, hx1, hx2⟩ := at_T70 h.row 0 (by omega) (by rw [← hN]; simp)
 obtain ⟨gr, of, sp⟩ := ad
 have ha : ∀ n, (Addr.add ⟨gr, of, sp⟩ (n * 3)).block = gr := fun n => by unfold Addr.add; split <;> rfl
 cases sp with
 | some x => 
  exfalso
  simp [Addr.add, World.cell?] at hx0
  split at hx0 <;> simp at hx0
 | none =>
  refine ⟨gr, of, hx, by rw [← hN]; simp, ?_, ?_, ?_⟩
  ·
   simpa [Addr.add, rd_T70] using hx0
  ·
   simpa [Addr.add, rd_T70] using hx1
  ·
   simpa [Addr.add, rd_T70] using hx2

/-- where the rest begins -/
def cut70 (A : Option Addr) (c : Nat) : Option Addr := if c = 1 then A else A.map (·.add (1 * 3))
theorem cut70_run {A : Option Addr} {N c : Nat} : ∀ W : World, (Instr.slice 25 (.slice A (N + 1) c) (some (.int .i64 1)) none none).run Try.prog W = .ok (.slice (cut70 A c) N (c - 1)) W := by
 obtain ⟨i0, hi0, hz0, hz1, hz2⟩ := info_parts info70
 exact cut_from (P := Try.prog) 25 70 .i64 Try.underlying25 hi0 3 hz1 A (N + 1) c 1 (by decide) (by omega)
theorem cut70_C {W : World} {A : Option Addr} {N c : Nat} {o : S70} {ops : List S70} (h : Kd.C k70 W A (N + 1) (o :: ops)) (hc : N + 1 ≤ c) : Kd.C k70 W (cut70 A c) N ops := by
 have hN := Kd.C_len h
 simp only [List.length_cons] at hN
 have : ops.length = N := by omega
 subst this
 exact Kd.C_drop (c := c) (m := 1) h (by simp) hc
theorem cut70_block {A : Option Addr} {c : Nat} {a : Addr} (h : cut70 A c = some a) : ∃ a0, A = some a0 ∧ a.block = a0.block := by
 unfold cut70 at h
 split at h
 ·
  exact ⟨a, h, rfl⟩
 ·
  obtain ⟨a0, e, h1⟩ := Option.map_eq_some_iff.1 h
  refine ⟨a0, e, ?_⟩
  rw [← h1]
  unfold Addr.add
  split <;> rfl

set_option maxHeartbeats 4000000 in
set_option maxRecDepth 100000 in
theorem take_all (w : World) (gt : Nat) (A : Option Addr) (N c : Nat) (o : S70) (ops : List S70) (n : Int) (h : IsT w gt A N c (o :: ops)) (hn : (if o.f0 = 2 then (o.f2.size : Int) else o.f1) ≤ n) : Calls Try.prog 84 #[.pointer (some ⟨gt, 0, none⟩), .int .i64 n] w fun e w' => e = .returned (.agg #[.int .i64 o.f0, .int .i64 o.f1, .string o.f2]) ∧ (∃ A' N' c', IsT w' gt A' N' c' ops ∧ (∀ a, A' = some a → ∃ a0, A = some a0 ∧ a.block = a0.block)) ∧ Kp (fun k => k = gt) w w' := by
 obtain ⟨gr, of, rfl, rfl, h0, h1, h2⟩ := h.first
 have HT := Aside0.mk h
 have c0 : w.cell? ⟨gt, 0, none⟩ = some (.slice (some ⟨gr, of, none⟩) (ops.length + 1) c) := (blk_cell h.blk 0).trans rfl
 have f0 := blk_frozen h.blk 0
 have hgt : gt < w.heap.size := blk_lt h.blk
 have hgr : gr < w.heap.size := block_lt_of_cell h0
 have hgt1 : gt < w.heap.size + 1 := by omega
 have hgr1 : gr < w.heap.size + 1 := by omega
 have hgt2 : gt < w.heap.size + 1 + 1 := by omega
 have hgr2 : gr < w.heap.size + 1 + 1 := by omega
 have hgt3 : gt < w.heap.size + 1 + 1 + 1 := by omega
 have hgr3 : gr < w.heap.size + 1 + 1 + 1 := by omega
 have hcut := cut70_run (A := some ⟨gr, of, none⟩) (N := ops.length) (c := c)
 have HCT := Aside0.mk (cut70_C h.row h.cap)
 have HCB : Aside0 (∀ a, cut70 (some ⟨gr, of, none⟩) c = some a → ∃ a0, some (⟨gr, of, none⟩ : Addr) = some a0 ∧ a.block = a0.block) := ⟨fun a ha => cut70_block ha⟩
 generalize cut70 (some ⟨gr, of, none⟩) c = A' at hcut HCT HCB
 have HCP := Aside0.mk h.cap
 have hne : gr ≠ gt := by
  intro e
  subst e
  have h3 := (blk_cell h.blk of).symm.trans h0
  rcases of with _ | of
  ·
   simp at h3
  ·
   simp at h3
 have HNE := Aside0.mk hne
 clear h
 by_cases k2 : o.f0 = 2
 ·
  have k2b : (o.f0 == 2) = true := beq_iff_eq.mpr k2
  rw [if_pos k2] at hn
  have hnb : decide ((o.f2.size : Int) ≤ n) = true := decide_eq_true hn
  have K2 := Aside0.mk k2
  clear k2
  go_enter Try.func84, Try.ntmps84
  go_wp2
  have hss : (w.setCell ⟨gt, 0, none⟩ (.slice A' ops.length (c - 1))).heap.size = w.heap.size := by simp
  have hbn := blk_new (w.setCell ⟨gt, 0, none⟩ (.slice A' ops.length (c - 1))) (.cells #[.int .i64 o.f0, .int .i64 o.f1, .string o.f2] 70)
  rw [hss] at hbn
  refine bodyPost_ret (results_cell_row rfl _ _ w.heap.size 70 #[.int .i64 o.f0, .int .i64 o.f1, .string o.f2] (0, 0) _ rfl (blk_alloc hbn _) Try.underlying70 rfl (by kernel_rfl)) rfl ?_
  have hk := (Kp.refl (fun k => k = gt) w).setCell (p := ⟨gt, 0, none⟩) rfl (.slice A' ops.length (c - 1))
  refine ⟨rfl, ⟨A', ops.length, c - 1, ⟨blk_alloc (blk_alloc (blk_put HT.out.blk 0 _ rfl) _) _, C_kp HCT.out ((hk.alloc _).alloc _) (fun _ a ha e => ?_), by have := HCP.out; omega⟩, HCB.out⟩, (hk.alloc _).alloc _⟩
  obtain ⟨a0, e0, e1⟩ := HCB.out a ha
  simp only [Option.some.injEq] at e0
  subst e0
  exact HNE.out (by rw [← e, e1])
 ·
  have k2b : (o.f0 == 2) = false := beq_eq_false_iff_ne.mpr k2
  rw [if_neg k2] at hn
  have hnb : decide (o.f1 ≤ n) = true := decide_eq_true hn
  have K2 := Aside0.mk k2
  clear k2
  go_enter Try.func84, Try.ntmps84
  go_wp2
  have hss : (w.setCell ⟨gt, 0, none⟩ (.slice A' ops.length (c - 1))).heap.size = w.heap.size := by simp
  have hbn := blk_new (w.setCell ⟨gt, 0, none⟩ (.slice A' ops.length (c - 1))) (.cells #[.int .i64 o.f0, .int .i64 o.f1, .string o.f2] 70)
  rw [hss] at hbn
  refine bodyPost_ret (results_cell_row rfl _ _ w.heap.size 70 #[.int .i64 o.f0, .int .i64 o.f1, .string o.f2] (0, 0) _ rfl (blk_alloc hbn _) Try.underlying70 rfl (by kernel_rfl)) rfl ?_
  have hk := (Kp.refl (fun k => k = gt) w).setCell (p := ⟨gt, 0, none⟩) rfl (.slice A' ops.length (c - 1))
  refine ⟨rfl, ⟨A', ops.length, c - 1, ⟨blk_alloc (blk_alloc (blk_put HT.out.blk 0 _ rfl) _) _, C_kp HCT.out ((hk.alloc _).alloc _) (fun _ a ha e => ?_), by have := HCP.out; omega⟩, HCB.out⟩, (hk.alloc _).alloc _⟩
  obtain ⟨a0, e0, e1⟩ := HCB.out a ha
  simp only [Option.some.injEq] at e0
  subst e0
  exact HNE.out (by rw [← e, e1])

/-- A cut -/
theorem cutword : True := trivial
set_option maxHeartbeats 4000000 in
set_option maxRecDepth 100000 in
theorem take_num (w : World) (gt : Nat) (A : Option Addr) (N c : Nat) (o : S70) (ops : List S70) (n : Int) (h : IsT w gt A N c (o :: ops)) (k2 : o.f0 ≠ 2) (h00 : 0 ≤ n) (hn : n < o.f1) (hbd : o.f1 ≤ 1000000000) (hl : ops.length ≤ 4000000000000) :
  Calls Try.prog 84 #[.pointer (some ⟨gt, 0, none⟩), .int .i64 n] w fun e w' => e = .returned (.agg #[.int .i64 o.f0, .int .i64 n, .string o.f2]) ∧ (∃ g2 c2, w.heap.size ≤ g2 ∧ IsT w' gt (some ⟨g2, 0, none⟩) (ops.length + 1) c2 ((⟨o.f0, o.f1 - n, o.f2⟩ : S70) :: ops)) ∧ Kp (fun k => k = gt) w w' := by
 obtain ⟨gr, of, rfl, rfl, h0, h1, h2⟩ := h.first
 have HT := Aside0.mk h
 have hgt : gt < w.heap.size := blk_lt h.blk
 have hgr : gr < w.heap.size := block_lt_of_cell h0
 have hgt1 : gt < w.heap.size + 1 := by omega
 have hgr1 : gr < w.heap.size + 1 := by omega
 have hgt2 : gt < w.heap.size + 1 + 1 := by omega
 have hgr2 : gr < w.heap.size + 1 + 1 := by omega
 have hgt3 : gt < w.heap.size + 1 + 1 + 1 := by omega
 have hgr3 : gr < w.heap.size + 1 + 1 + 1 := by omega
 have c0 : w.cell? ⟨gt, 0, none⟩ = some (.slice (some ⟨gr, of, none⟩) (ops.length + 1) c) := (blk_cell h.blk 0).trans rfl
 have hcut := cut70_run (A := some ⟨gr, of, none⟩) (N := ops.length) (c := c)
 have HCT := Aside0.mk (cut70_C h.row h.cap)
 have HCB : Aside0 (∀ a, cut70 (some ⟨gr, of, none⟩) c = some a → ∃ a0, some (⟨gr, of, none⟩ : Addr) = some a0 ∧ a.block = a0.block) := ⟨fun a ha => cut70_block ha⟩
 generalize cut70 (some ⟨gr, of, none⟩) c = A' at hcut HCT HCB
 have HCP := Aside0.mk h.cap
 have hne : gr ≠ gt := by
  intro e
  subst e
  have h3 := (blk_cell h.blk of).symm.trans h0
  rcases of with _ | of
  ·
   simp at h3
  ·
   simp at h3
 have HNE := Aside0.mk hne
 clear h
 have K2 := Aside0.mk k2
 have k2b : (o.f0 == 2) = false := beq_eq_false_iff_ne.mpr k2
 have hnb : decide (o.f1 ≤ n) = false := decide_eq_false (by omega)
 have hws : wrap64 (o.f1 - n) = o.f1 - n := by unfold wrap64; omega
 clear k2
 go_enter Try.func84, Try.ntmps84
 go_wp2
 have hz1 : (w.alloc (.cells #[.int .i64 0, .int .i64 0, .string ⟨#[]⟩] 70)).heap.size = w.heap.size + 1 := by simp
 have hz2 : ((w.alloc (.cells #[.int .i64 0, .int .i64 0, .string ⟨#[]⟩] 70)).alloc (.cells #[.int .i64 o.f0, .int .i64 n, .string o.f2] 70)).heap.size = w.heap.size + 1 + 1 := by simp
 have hz3 : (((w.alloc (.cells #[.int .i64 0, .int .i64 0, .string ⟨#[]⟩] 70)).alloc (.cells #[.int .i64 o.f0, .int .i64 n, .string o.f2] 70)).alloc (.cells #[.int .i64 o.f0, .int .i64 (o.f1 - n), .string o.f2] 70)).heap.size = w.heap.size + 1 + 1 + 1 := by simp
 have hb4 := blk_new w (.cells #[.int .i64 0, .int .i64 0, .string ⟨#[]⟩] 70)
 have hb5 := blk_new (w.alloc (.cells #[.int .i64 0, .int .i64 0, .string ⟨#[]⟩] 70)) (.cells #[.int .i64 o.f0, .int .i64 n, .string o.f2] 70)
 have hb7 := blk_new ((w.alloc (.cells #[.int .i64 0, .int .i64 0, .string ⟨#[]⟩] 70)).alloc (.cells #[.int .i64 o.f0, .int .i64 n, .string o.f2] 70)) (.cells #[.int .i64 o.f0, .int .i64 (o.f1 - n), .string o.f2] 70)
 rw [hz1] at hb5
 rw [hz2] at hb7
 have HB4 := Aside0.mk (blk_alloc (blk_alloc hb4 (.cells #[.int .i64 o.f0, .int .i64 n, .string o.f2] 70)) (.cells #[.int .i64 o.f0, .int .i64 (o.f1 - n), .string o.f2] 70))
 have HB5 := Aside0.mk (blk_alloc hb5 (.cells #[.int .i64 o.f0, .int .i64 (o.f1 - n), .string o.f2] 70))
 have HBT := Aside0.mk (blk_alloc (blk_alloc (blk_alloc HT.out.blk (.cells #[.int .i64 0, .int .i64 0, .string ⟨#[]⟩] 70)) (.cells #[.int .i64 o.f0, .int .i64 n, .string o.f2] 70)) (.cells #[.int .i64 o.f0, .int .i64 (o.f1 - n), .string o.f2] 70))
 have HK := Aside0.mk ((((Kp.refl (fun k => k = gt) w).alloc (.cells #[.int .i64 0, .int .i64 0, .string ⟨#[]⟩] 70)).alloc (.cells #[.int .i64 o.f0, .int .i64 n, .string o.f2] 70)).alloc (.cells #[.int .i64 o.f0, .int .i64 (o.f1 - n), .string o.f2] 70))
 have HZ := Aside0.mk hz3
 have HB7 := Aside0.mk hb7
 have HBW := Aside0.mk (below_alloc (below_alloc (below_alloc (Below.refl w.heap.size w) (.cells #[.int .i64 0, .int .i64 0, .string ⟨#[]⟩] 70)) (.cells #[.int .i64 o.f0, .int .i64 n, .string o.f2] 70)) (.cells #[.int .i64 o.f0, .int .i64 (o.f1 - n), .string o.f2] 70))
 have hs0 : ((((w.alloc (.cells #[.int .i64 0, .int .i64 0, .string ⟨#[]⟩] 70)).alloc (.cells #[.int .i64 o.f0, .int .i64 n, .string o.f2] 70)).alloc (.cells #[.int .i64 o.f0, .int .i64 (o.f1 - n), .string o.f2] 70))).drew.cell? ⟨gt, 0, none⟩ = some (.slice (some ⟨gr, of, none⟩) (ops.length + 1) c) ∧ ((((w.alloc (.cells #[.int .i64 0, .int .i64 0, .string ⟨#[]⟩] 70)).alloc (.cells #[.int .i64 o.f0, .int .i64 n, .string o.f2] 70)).alloc (.cells #[.int .i64 o.f0, .int .i64 (o.f1 - n), .string o.f2] 70))).drew.cell? ⟨w.heap.size + 1 + 1, 0, none⟩ = some (.int .i64 o.f0) ∧ ((((w.alloc (.cells #[.int .i64 0, .int .i64 0, .string ⟨#[]⟩] 70)).alloc (.cells #[.int .i64 o.f0, .int .i64 n, .string o.f2] 70)).alloc (.cells #[.int .i64 o.f0, .int .i64 (o.f1 - n), .string o.f2] 70))).drew.cell? ⟨w.heap.size + 1 + 1, 1, none⟩ = some (.int .i64 (o.f1 - n)) ∧ ((((w.alloc (.cells #[.int .i64 0, .int .i64 0, .string ⟨#[]⟩] 70)).alloc (.cells #[.int .i64 o.f0, .int .i64 n, .string o.f2] 70)).alloc (.cells #[.int .i64 o.f0, .int .i64 (o.f1 - n), .string o.f2] 70))).drew.cell? ⟨w.heap.size + 1 + 1, 2, none⟩ = some (.string o.f2) := ⟨(blk_cell HBT.out 0).trans rfl, (blk_cell hb7 0).trans rfl, (blk_cell hb7 1).trans rfl, (blk_cell hb7 2).trans rfl⟩
 have HS0 := Aside0.mk hs0
 clear hz1 hz2 hz3 hb4 hb5 hb7 hs0
 generalize (((w.alloc (.cells #[.int .i64 0, .int .i64 0, .string ⟨#[]⟩] 70)).alloc (.cells #[.int .i64 o.f0, .int .i64 n, .string o.f2] 70)).alloc (.cells #[.int .i64 o.f0, .int .i64 (o.f1 - n), .string o.f2] 70)) = W at *
 refine start_ (n := 12) (S := fun w' => w'.cell? ⟨gt, 0, none⟩ = some (.slice (some ⟨gr, of, none⟩) (ops.length + 1) c) ∧ w'.cell? ⟨w.heap.size + 1 + 1, 0, none⟩ = some (.int .i64 o.f0) ∧ w'.cell? ⟨w.heap.size + 1 + 1, 1, none⟩ = some (.int .i64 (o.f1 - n)) ∧ w'.cell? ⟨w.heap.size + 1 + 1, 2, none⟩ = some (.string o.f2)) (ds := [11]) #[false, false, false, false, false, false, false, false, false, false, false, false] (by kernel_rfl) rfl rfl ⟨HS0.out.1, HS0.out.2.1, HS0.out.2.2.1, HS0.out.2.2.2⟩ (fun hHeld => ?_)
 refine pure_ (i := 0) (N := some 54) (v := ?_) (a' := ?_) #[true, false, false, false, false, false, false, false, false, false, false, false] rfl rfl (by kernel_rfl) (fun _ _ _ h => h) (Or.inl ⟨by rfl, ?_⟩) ?_ ?_
 rotate_left
 ·
  intro w'
  go_simp
  with_reducible rfl
 rotate_left
 ·
  simp only [Act.put, List.setIfInBounds_toArray, List.set_cons_zero, List.set_cons_succ, i64_w, i32_w]
  rfl
 refine pure_ (i := 3) (N := some 57) (v := ?_) (a' := ?_) #[true, false, false, true, false, false, false, false, false, false, false, false] rfl rfl (by kernel_rfl) (fun _ _ _ h => h) (Or.inl ⟨by rfl, ?_⟩) ?_ ?_
 rotate_left
 ·
  intro w'
  go_simp
  with_reducible rfl
 rotate_left
 ·
  simp only [Act.put, List.setIfInBounds_toArray, List.set_cons_zero, List.set_cons_succ, i64_w, i32_w]
  rfl
 refine pure_ (i := 4) (N := some 58) (v := ?_) (a' := ?_) #[true, false, false, true, true, false, false, false, false, false, false, false] rfl rfl (by kernel_rfl) (fun _ _ _ h => h) (Or.inl ⟨by rfl, ?_⟩) ?_ ?_
 rotate_left
 ·
  intro w'
  go_simp
  with_reducible rfl
 rotate_left
 ·
  simp only [Act.put, List.setIfInBounds_toArray, List.set_cons_zero, List.set_cons_succ, i64_w, i32_w]
  rfl
 refine pure_ (i := 5) (N := some 59) (v := ?_) (a' := ?_) #[true, false, false, true, true, true, false, false, false, false, false, false] rfl rfl (by kernel_rfl) (fun _ _ _ h => h) (Or.inl ⟨by rfl, ?_⟩) ?_ ?_
 rotate_left
 ·
  intro w'
  go_simp
  with_reducible rfl
 rotate_left
 ·
  simp only [Act.put, List.setIfInBounds_toArray, List.set_cons_zero, List.set_cons_succ, i64_w, i32_w]
  rfl
 refine take_ (i := 1) (N := some 55) (v := ?_) (a' := ?_) #[true, true, false, true, true, true, false, false, false, false, false, false] rfl rfl (by kernel_rfl) (fun _ _ _ h => h) (Or.inl ⟨by rfl, ?_⟩) hHeld ?_ ?_
 rotate_left
 ·
  rintro w' ⟨s0, s1, s2, s3⟩
  go_simp
  with_reducible rfl
 rotate_left
 ·
  simp only [Act.put, List.setIfInBounds_toArray, List.set_cons_zero, List.set_cons_succ, i64_w, i32_w]
  rfl
 refine take_ (i := 6) (N := some 60) (v := ?_) (a' := ?_) #[true, true, false, true, true, true, true, false, false, false, false, false] rfl rfl (by kernel_rfl) (fun _ _ _ h => h) (Or.inl ⟨by rfl, ?_⟩) hHeld ?_ ?_
 rotate_left
 ·
  rintro w' ⟨s0, s1, s2, s3⟩
  go_simp
  with_reducible rfl
 rotate_left
 ·
  simp only [Act.put, List.setIfInBounds_toArray, List.set_cons_zero, List.set_cons_succ, i64_w, i32_w]
  rfl
 refine pure_ (i := 7) (N := some 61) (v := ?_) (a' := ?_) #[true, true, false, true, true, true, true, true, false, false, false, false] rfl rfl (by kernel_rfl) (fun _ _ _ h => h) (Or.inl ⟨by rfl, ?_⟩) ?_ ?_
 rotate_left
 ·
  intro w'
  go_simp
  with_reducible rfl
 rotate_left
 ·
  simp only [Act.put, List.setIfInBounds_toArray, List.set_cons_zero, List.set_cons_succ, i64_w, i32_w]
  rfl
 refine one_ (i := 2) (N := some 56) #[true, true, true, true, true, true, true, true, false, false, false, false] rfl rfl (by kernel_rfl) (by decide) (fun K hK => ?_)
 refine Kd.R_lit_step k70 (w0 := w) (W := W.drew) w.heap.size 70 (by rfl) (N := 56) (by rfl) (xs := [(⟨o.f0, o.f1 - n, o.f2⟩ : S70)]) (inner := [.int .i64 o.f0, .int .i64 (o.f1 - n), .string o.f2]) (ok := fun k => W.heap.size ≤ k) (okp := fun _ => False) ?hr (Reps.c3 (k70_mkM _ _ _ _) (Reps.none _ _)) (fun _ hk => hk.elim) (Nat.le_refl _) (show Below w.heap.size w W.drew from HBW.out.drew) (show w.heap.size ≤ W.heap.size by have := HZ.out; omega) (by simp) ?_
 case hr => first | (go_simp; done) | (go_simp; rfl)
 intro v1 w1 hr1 hbl1 hg1 ho1
 have HR1 := Aside0.mk hr1
 have HBL1 := Aside0.mk hbl1
 have HBT1 := Aside0.mk (blk_grown (w := W.drew) HBT.out hg1 (by simp))
 have HB71 := Aside0.mk (blk_grown (w := W.drew) HB7.out hg1 (by simp))
 have HB41 := Aside0.mk (blk_grown (w := W.drew) HB4.out hg1 (by simp))
 have HB51 := Aside0.mk (blk_grown (w := W.drew) HB5.out hg1 (by simp))
 have HK1 := Aside0.mk ((HK.out.drew).grown hg1 (by simp))
 have HN1 : Aside0 (∀ q, q < W.heap.size → some q ≠ v1.ownBlock) := ⟨fun q hq e => by obtain ⟨b, hb1, hb2⟩ := ho1; rw [hb1] at e; simp only [Option.some.injEq] at e; have hb3 : W.heap.size ≤ b := hb2; omega⟩
 have HS1 : Aside0 (W.heap.size ≤ w1.heap.size) := ⟨hg1.size⟩
 have HCT1 := Aside0.mk (C_kp HCT.out HK1.out (fun _ a ha e => by obtain ⟨a0, e0, e1⟩ := HCB.out a ha; simp only [Option.some.injEq] at e0; subst e0; exact HNE.out (by rw [← e, e1])))
 clear hr1 hbl1 hg1 ho1
 refine hK.out _ _ ⟨(blk_cell HBT1.out 0).trans rfl, (blk_cell HB71.out 0).trans rfl, (blk_cell HB71.out 1).trans rfl, (blk_cell HB71.out 2).trans rfl⟩ (fun hHeld => ?_)
 clear hK K
 refine norm_ (a' := ?_) ?_ ?_
 rotate_left
 ·
  show Act.put _ (some 56) _ = _
  simp only [Act.put, List.setIfInBounds_toArray, List.set_cons_zero, List.set_cons_succ, i64_w, i32_w]
  rfl
 refine one_ (i := 8) (N := some 62) #[true, true, true, true, true, true, true, true, true, false, false, false] rfl rfl (by kernel_rfl) (by decide) (fun K hK => ?_)
 refine Kd.R_append_rows_step k70 (w0 := w) (W := w1) (Rr := k70.K w1) w.heap.size (by rfl) (.tmp 56) (.tmp 61) 25 70 (.agg #[.int .i64 0, .int .i64 0, .string ⟨#[]⟩]) 32 (by rfl) Try.underlying25 info70' (by rfl) (by decide) (by omega) v1 [(⟨o.f0, o.f1 - n, o.f2⟩ : S70)] ops A' ops.length (c - 1) (fun k => W.heap.size ≤ k) (fun _ => False) (by rfl) (by rfl) HR1.out HCT1.out (fun x cs h => by have := k70_open h; subst this; exact k70_mkM _ _ _ _) (fun _ h => h.elim) (fun k hk => Nat.le_trans HS1.out hk) HBL1.out (show w.heap.size ≤ w1.heap.size by have := HZ.out; have := HS1.out; omega) (by simp only [List.length_singleton]; omega) ?_
 intro v2 w2 hr2 hbl2 hg2 hat2
 have HBT2 := Aside0.mk (blk_grown HBT1.out hg2 (HN1.out _ (by have := HZ.out; omega)))
 have HB72 := Aside0.mk (blk_grown HB71.out hg2 (HN1.out _ (by have := HZ.out; omega)))
 have HB42 := Aside0.mk (blk_grown HB41.out hg2 (HN1.out _ (by have := HZ.out; omega)))
 have HB52 := Aside0.mk (blk_grown HB51.out hg2 (HN1.out _ (by have := HZ.out; omega)))
 have HK2 := Aside0.mk (HK1.out.grown hg2 (fun k e hk => absurd e.symm (HN1.out k (by have := HZ.out; omega))))
 obtain ⟨g2, c2, hv2, hgb2, hgl2, _, _⟩ := Kd.R_form hr2 (by simp)
 have hl2 : ([(⟨o.f0, o.f1 - n, o.f2⟩ : S70)] ++ ops).length = ops.length + 1 := by simp
 rw [hl2] at hv2
 subst hv2
 have HR2 := Aside0.mk hr2
 have HG2 : Aside0 (W.heap.size ≤ g2) := ⟨hr2.1 g2 rfl⟩
 clear hr2 hbl2 hg2 hat2
 have d0 : w2.cell? ⟨gt, 0, none⟩ = some (.slice (some ⟨gr, of, none⟩) (ops.length + 1) c) := (blk_cell HBT2.out 0).trans rfl
 have e0 := blk_frozen HBT2.out 0
 have HB5x := Aside0.mk (blk_far HB52.out (p := ⟨gt, 0, none⟩) (by show w.heap.size + 1 ≠ gt; omega) (.slice (some ⟨g2, 0, none⟩) (ops.length + 1) c2))
 have HB4x := Aside0.mk (blk_far HB42.out (p := ⟨gt, 0, none⟩) (by show w.heap.size ≠ gt; omega) (.slice (some ⟨g2, 0, none⟩) (ops.length + 1) c2))
 have HBTx := Aside0.mk (blk_put HBT2.out 0 (.slice (some ⟨g2, 0, none⟩) (ops.length + 1) c2) rfl)
 have x50 : (w2.setCell ⟨gt, 0, none⟩ (.slice (some ⟨g2, 0, none⟩) (ops.length + 1) c2)).cell? ⟨w.heap.size + 1, 0, none⟩ = some (.int .i64 o.f0) := (blk_cell HB5x.out 0).trans rfl
 have x51 : (w2.setCell ⟨gt, 0, none⟩ (.slice (some ⟨g2, 0, none⟩) (ops.length + 1) c2)).cell? ⟨w.heap.size + 1, 1, none⟩ = some (.int .i64 n) := (blk_cell HB5x.out 1).trans rfl
 have x52 : (w2.setCell ⟨gt, 0, none⟩ (.slice (some ⟨g2, 0, none⟩) (ops.length + 1) c2)).cell? ⟨w.heap.size + 1, 2, none⟩ = some (.string o.f2) := (blk_cell HB5x.out 2).trans rfl
 have x40 : (w2.setCell ⟨gt, 0, none⟩ (.slice (some ⟨g2, 0, none⟩) (ops.length + 1) c2)).cell? ⟨w.heap.size, 0, none⟩ = some (.int .i64 0) := (blk_cell HB4x.out 0).trans rfl
 have x41 : (w2.setCell ⟨gt, 0, none⟩ (.slice (some ⟨g2, 0, none⟩) (ops.length + 1) c2)).cell? ⟨w.heap.size, 1, none⟩ = some (.int .i64 0) := (blk_cell HB4x.out 1).trans rfl
 have x42 : (w2.setCell ⟨gt, 0, none⟩ (.slice (some ⟨g2, 0, none⟩) (ops.length + 1) c2)).cell? ⟨w.heap.size, 2, none⟩ = some (.string ⟨#[]⟩) := (blk_cell HB4x.out 2).trans rfl
 have y40 := blk_frozen HB4x.out 0
 have y41 := blk_frozen HB4x.out 1
 have y42 := blk_frozen HB4x.out 2
 refine hK.out _ _ ⟨(blk_cell HBT2.out 0).trans rfl, (blk_cell HB72.out 0).trans rfl, (blk_cell HB72.out 1).trans rfl, (blk_cell HB72.out 2).trans rfl⟩ (fun hHeld => ?_)
 clear hK K
 refine norm_ (a' := ?_) ?_ ?_
 rotate_left
 ·
  show Act.put _ (some 62) _ = _
  simp only [Act.put, List.setIfInBounds_toArray, List.set_cons_zero, List.set_cons_succ, i64_w, i32_w]
  rfl
 refine pure_ (i := 9) (N := some 63) (v := ?_) (a' := ?_) #[true, true, true, true, true, true, true, true, true, true, false, false] rfl rfl (by kernel_rfl) (fun _ _ _ h => h) (Or.inl ⟨by rfl, ?_⟩) ?_ ?_
 rotate_left
 ·
  intro w'
  go_simp
  with_reducible rfl
 rotate_left
 ·
  simp only [Act.put, List.setIfInBounds_toArray, List.set_cons_zero, List.set_cons_succ, i64_w, i32_w]
  rfl
 refine pure_ (i := 10) (N := some 64) (v := ?_) (a' := ?_) #[true, true, true, true, true, true, true, true, true, true, true, false] rfl rfl (by kernel_rfl) (fun _ _ _ h => h) (Or.inl ⟨by rfl, ?_⟩) ?_ ?_
 rotate_left
 ·
  intro w'
  go_simp
  with_reducible rfl
 rotate_left
 ·
  simp only [Act.put, List.setIfInBounds_toArray, List.set_cons_zero, List.set_cons_succ, i64_w, i32_w]
  rfl
 refine last_ (i := 11) (N := none) #[true, true, true, true, true, true, true, true, true, true, true, true] rfl rfl (by kernel_rfl) (by decide) (fun K hK => ?_)
 refine skip_ (w1 := ?_) (by rfl) rfl ?_ ?_
 rotate_left
 ·
  go_simp
  rfl
 refine hK.out _ _ ?_
 clear hK K
 refine done_ (by kernel_rfl) ?_
 go_wp2
 have hp3 := blk_put (blk_put (blk_put HB4x.out 0 (.int .i64 o.f0) rfl) 1 (.int .i64 n) rfl) 2 (.string o.f2) rfl
 refine bodyPost_ret (results_cell_row rfl _ _ w.heap.size 70 #[.int .i64 o.f0, .int .i64 n, .string o.f2] (0, 0) _ rfl hp3 Try.underlying70 rfl (by kernel_rfl)) rfl ?_
 have k1 := HK2.out.setCell (p := ⟨gt, 0, none⟩) rfl (.slice (some ⟨g2, 0, none⟩) (ops.length + 1) c2)
 have k3 := (((Kp.refl (fun k => k = w.heap.size) (w2.setCell ⟨gt, 0, none⟩ (.slice (some ⟨g2, 0, none⟩) (ops.length + 1) c2))).setCell (p := ⟨w.heap.size, 0, none⟩) rfl (.int .i64 o.f0)).setCell (p := ⟨w.heap.size, 1, none⟩) rfl (.int .i64 n)).setCell (p := ⟨w.heap.size, 2, none⟩) rfl (.string o.f2)
 have hgz : w.heap.size + 1 + 1 + 1 ≤ g2 := by have := HG2.out; have := HZ.out; omega
 obtain ⟨_, hcap2, hC2⟩ := Kd.R_reads' HR2.out
 have hC3 : Kd.C k70 w2 (some ⟨g2, 0, none⟩) (ops.length + 1) ((⟨o.f0, o.f1 - n, o.f2⟩ : S70) :: ops) := hC2
 have hC4 := C_kp (C_kp hC3 ((Kp.refl (fun k => k = gt) w2).setCell (p := ⟨gt, 0, none⟩) rfl (.slice (some ⟨g2, 0, none⟩) (ops.length + 1) c2)) (fun _ a ha e => by simp only [Option.some.injEq] at ha; subst ha; simp only at e; omega)) k3 (fun _ a ha e => by simp only [Option.some.injEq] at ha; subst ha; simp only at e; omega)
 exact ⟨rfl, ⟨g2, c2, by omega, ⟨k3.blk HBTx.out (by omega), hC4, hcap2⟩⟩, k1.trans k3 (fun i hi hlt => by omega)⟩

set_option maxHeartbeats 4000000 in
set_option maxRecDepth 100000 in
theorem take_text (w : World) (gt : Nat) (A : Option Addr) (N c : Nat) (o : S70) (ops : List S70) (n : Int) (h : IsT w gt A N c (o :: ops)) (k2 : o.f0 = 2) (h00 : 0 ≤ n) (hn : n < (o.f2.size : Int)) (hbd : (o.f2.size : Int) ≤ 1000000000) (hl : ops.length ≤ 4000000000000) :
  Calls Try.prog 84 #[.pointer (some ⟨gt, 0, none⟩), .int .i64 n] w fun e w' => e = .returned (.agg #[.int .i64 o.f0, .int .i64 o.f1, .string (o.f2.extract 0 n.toNat)]) ∧ (∃ g2 c2, w.heap.size ≤ g2 ∧ IsT w' gt (some ⟨g2, 0, none⟩) (ops.length + 1) c2 ((⟨o.f0, o.f1, o.f2.extract n.toNat o.f2.size⟩ : S70) :: ops)) ∧ Kp (fun k => k = gt) w w' := by
 obtain ⟨gr, of, rfl, rfl, h0, h1, h2⟩ := h.first
 have HT := Aside0.mk h
 have hgt : gt < w.heap.size := blk_lt h.blk
 have hgr : gr < w.heap.size := block_lt_of_cell h0
 have hgt1 : gt < w.heap.size + 1 := by omega
 have hgr1 : gr < w.heap.size + 1 := by omega
 have hgt2 : gt < w.heap.size + 1 + 1 := by omega
 have hgr2 : gr < w.heap.size + 1 + 1 := by omega
 have hgt3 : gt < w.heap.size + 1 + 1 + 1 := by omega
 have hgr3 : gr < w.heap.size + 1 + 1 + 1 := by omega
 have c0 : w.cell? ⟨gt, 0, none⟩ = some (.slice (some ⟨gr, of, none⟩) (ops.length + 1) c) := (blk_cell h.blk 0).trans rfl
 have hcut := cut70_run (A := some ⟨gr, of, none⟩) (N := ops.length) (c := c)
 have HCT := Aside0.mk (cut70_C h.row h.cap)
 have HCB : Aside0 (∀ a, cut70 (some ⟨gr, of, none⟩) c = some a → ∃ a0, some (⟨gr, of, none⟩ : Addr) = some a0 ∧ a.block = a0.block) := ⟨fun a ha => cut70_block ha⟩
 generalize cut70 (some ⟨gr, of, none⟩) c = A' at hcut HCT HCB
 have HCP := Aside0.mk h.cap
 have hne : gr ≠ gt := by
  intro e
  subst e
  have h3 := (blk_cell h.blk of).symm.trans h0
  rcases of with _ | of
  ·
   simp at h3
  ·
   simp at h3
 have HNE := Aside0.mk hne
 clear h
 have K2 := Aside0.mk k2
 have k2b : (o.f0 == 2) = true := beq_iff_eq.mpr k2
 have hnb : decide ((o.f2.size : Int) ≤ n) = false := decide_eq_false (by omega)
 have hle : n ≤ (o.f2.size : Int) := by omega
 clear k2
 go_enter Try.func84, Try.ntmps84
 go_wp2
 have hz1 : (w.alloc (.cells #[.int .i64 0, .int .i64 0, .string ⟨#[]⟩] 70)).heap.size = w.heap.size + 1 := by simp
 have hz2 : ((w.alloc (.cells #[.int .i64 0, .int .i64 0, .string ⟨#[]⟩] 70)).alloc (.cells #[.int .i64 o.f0, .int .i64 o.f1, .string o.f2] 70)).heap.size = w.heap.size + 1 + 1 := by simp
 have hz3 : (((w.alloc (.cells #[.int .i64 0, .int .i64 0, .string ⟨#[]⟩] 70)).alloc (.cells #[.int .i64 o.f0, .int .i64 o.f1, .string o.f2] 70)).alloc (.cells #[.int .i64 o.f0, .int .i64 o.f1, .string o.f2] 70)).heap.size = w.heap.size + 1 + 1 + 1 := by simp
 have hb4 := blk_new w (.cells #[.int .i64 0, .int .i64 0, .string ⟨#[]⟩] 70)
 have hb5 := blk_new (w.alloc (.cells #[.int .i64 0, .int .i64 0, .string ⟨#[]⟩] 70)) (.cells #[.int .i64 o.f0, .int .i64 o.f1, .string o.f2] 70)
 have hb7 := blk_new ((w.alloc (.cells #[.int .i64 0, .int .i64 0, .string ⟨#[]⟩] 70)).alloc (.cells #[.int .i64 o.f0, .int .i64 o.f1, .string o.f2] 70)) (.cells #[.int .i64 o.f0, .int .i64 o.f1, .string o.f2] 70)
 rw [hz1] at hb5
 rw [hz2] at hb7
 have GB4 := Aside0.mk (blk_alloc (blk_alloc hb4 (.cells #[.int .i64 o.f0, .int .i64 o.f1, .string o.f2] 70)) (.cells #[.int .i64 o.f0, .int .i64 o.f1, .string o.f2] 70))
 have GB5 := Aside0.mk (blk_alloc hb5 (.cells #[.int .i64 o.f0, .int .i64 o.f1, .string o.f2] 70))
 have GB7 := Aside0.mk hb7
 have GBT := Aside0.mk (blk_alloc (blk_alloc (blk_alloc HT.out.blk (.cells #[.int .i64 0, .int .i64 0, .string ⟨#[]⟩] 70)) (.cells #[.int .i64 o.f0, .int .i64 o.f1, .string o.f2] 70)) (.cells #[.int .i64 o.f0, .int .i64 o.f1, .string o.f2] 70))
 have GK := Aside0.mk ((((Kp.refl (fun _ => False) w).alloc (.cells #[.int .i64 0, .int .i64 0, .string ⟨#[]⟩] 70)).alloc (.cells #[.int .i64 o.f0, .int .i64 o.f1, .string o.f2] 70)).alloc (.cells #[.int .i64 o.f0, .int .i64 o.f1, .string o.f2] 70))
 have GZ := Aside0.mk hz3
 clear hz1 hz2 hz3 hb4 hb5 hb7
 generalize (((w.alloc (.cells #[.int .i64 0, .int .i64 0, .string ⟨#[]⟩] 70)).alloc (.cells #[.int .i64 o.f0, .int .i64 o.f1, .string o.f2] 70)).alloc (.cells #[.int .i64 o.f0, .int .i64 o.f1, .string o.f2] 70)) = Wa at *
 have a5 : Wa.drew.cell? ⟨w.heap.size + 1, 2, none⟩ = some (.string o.f2) := (blk_cell GB5.out 2).trans rfl
 have a5w : Wa.cell? ⟨w.heap.size + 1, 2, none⟩ = some (.string o.f2) := (blk_cell GB5.out 2).trans rfl
 have a5f : Wa.frozen? ⟨w.heap.size + 1, 2, none⟩ = false := blk_frozen GB5.out 2
 have a7 : Wa.cell? ⟨w.heap.size + 1 + 1, 2, none⟩ = some (.string o.f2) := (blk_cell GB7.out 2).trans rfl
 have a7f : Wa.frozen? ⟨w.heap.size + 1 + 1, 2, none⟩ = false := blk_frozen GB7.out 2
 have GB5' := Aside0.mk (blk_put GB5.out 2 (.string (o.f2.extract 0 n.toNat)) rfl)
 have GB7' := Aside0.mk (blk_far GB7.out (p := ⟨w.heap.size + 1, 2, none⟩) (by show w.heap.size + 1 + 1 ≠ w.heap.size + 1; omega) (.string (o.f2.extract 0 n.toNat)))
 refine start_ (n := 12) (S := fun w' => w'.cell? ⟨w.heap.size + 1, 2, none⟩ = some (.string o.f2)) (ds := [9, 11]) #[false, false, false, false, false, false, false, false, false, false, false, false] (by kernel_rfl) rfl rfl (a5) (fun hHeld => ?_)
 refine pure_ (i := 0) (N := some 38) (v := ?_) (a' := ?_) #[true, false, false, false, false, false, false, false, false, false, false, false] rfl rfl (by kernel_rfl) (fun _ _ _ h => h) (Or.inl ⟨by rfl, ?_⟩) ?_ ?_
 rotate_left
 ·
  intro w'
  go_simp
  with_reducible rfl
 rotate_left
 ·
  simp only [Act.put, List.setIfInBounds_toArray, List.set_cons_zero, List.set_cons_succ, i64_w, i32_w]
  rfl
 refine pure_ (i := 2) (N := some 40) (v := ?_) (a' := ?_) #[true, false, true, false, false, false, false, false, false, false, false, false] rfl rfl (by kernel_rfl) (fun _ _ _ h => h) (Or.inl ⟨by rfl, ?_⟩) ?_ ?_
 rotate_left
 ·
  intro w'
  go_simp
  with_reducible rfl
 rotate_left
 ·
  simp only [Act.put, List.setIfInBounds_toArray, List.set_cons_zero, List.set_cons_succ, i64_w, i32_w]
  rfl
 refine pure_ (i := 4) (N := some 42) (v := ?_) (a' := ?_) #[true, false, true, false, true, false, false, false, false, false, false, false] rfl rfl (by kernel_rfl) (fun _ _ _ h => h) (Or.inl ⟨by rfl, ?_⟩) ?_ ?_
 rotate_left
 ·
  intro w'
  go_simp
  with_reducible rfl
 rotate_left
 ·
  simp only [Act.put, List.setIfInBounds_toArray, List.set_cons_zero, List.set_cons_succ, i64_w, i32_w]
  rfl
 refine pure_ (i := 6) (N := some 44) (v := ?_) (a' := ?_) #[true, false, true, false, true, false, true, false, false, false, false, false] rfl rfl (by kernel_rfl) (fun _ _ _ h => h) (Or.inl ⟨by rfl, ?_⟩) ?_ ?_
 rotate_left
 ·
  intro w'
  go_simp
  with_reducible rfl
 rotate_left
 ·
  simp only [Act.put, List.setIfInBounds_toArray, List.set_cons_zero, List.set_cons_succ, i64_w, i32_w]
  rfl
 refine take_ (i := 1) (N := some 39) (v := ?_) (a' := ?_) #[true, true, true, false, true, false, true, false, false, false, false, false] rfl rfl (by kernel_rfl) (fun _ _ _ h => h) (Or.inl ⟨by rfl, ?_⟩) hHeld ?_ ?_
 rotate_left
 ·
  intro w' s0
  go_simp
  with_reducible rfl
 rotate_left
 ·
  simp only [Act.put, List.setIfInBounds_toArray, List.set_cons_zero, List.set_cons_succ, i64_w, i32_w]
  rfl
 refine pure_ (i := 3) (N := some 41) (v := ?_) (a' := ?_) #[true, true, true, true, true, false, true, false, false, false, false, false] rfl rfl (by kernel_rfl) (fun _ _ _ h => h) (Or.inl ⟨by rfl, ?_⟩) ?_ ?_
 rotate_left
 ·
  intro w'
  go_simp
  with_reducible rfl
 rotate_left
 ·
  simp only [Act.put, List.setIfInBounds_toArray, List.set_cons_zero, List.set_cons_succ, i64_w, i32_w]
  rfl
 refine take_ (i := 5) (N := some 43) (v := ?_) (a' := ?_) #[true, true, true, true, true, true, true, false, false, false, false, false] rfl rfl (by kernel_rfl) (fun _ _ _ h => h) (Or.inl ⟨by rfl, ?_⟩) hHeld ?_ ?_
 rotate_left
 ·
  intro w' s0
  go_simp
  with_reducible rfl
 rotate_left
 ·
  simp only [Act.put, List.setIfInBounds_toArray, List.set_cons_zero, List.set_cons_succ, i64_w, i32_w]
  rfl
 refine pure_ (i := 7) (N := some 45) (v := ?_) (a' := ?_) #[true, true, true, true, true, true, true, true, false, false, false, false] rfl rfl (by kernel_rfl) (fun _ _ _ h => h) (Or.inl ⟨by rfl, ?_⟩) ?_ ?_
 rotate_left
 ·
  intro w'
  go_simp
  with_reducible rfl
 rotate_left
 ·
  simp only [Act.put, List.setIfInBounds_toArray, List.set_cons_zero, List.set_cons_succ, i64_w, i32_w]
  rfl
 refine pure_ (i := 8) (N := some 46) (v := ?_) (a' := ?_) #[true, true, true, true, true, true, true, true, true, false, false, false] rfl rfl (by kernel_rfl) (fun _ _ _ h => h) (Or.inl ⟨by rfl, ?_⟩) ?_ ?_
 rotate_left
 ·
  intro w'
  go_simp
  with_reducible rfl
 rotate_left
 ·
  simp only [Act.put, List.setIfInBounds_toArray, List.set_cons_zero, List.set_cons_succ, i64_w, i32_w]
  rfl
 refine last_ (i := 9) (N := none) #[true, true, true, true, true, true, true, true, true, true, false, false] rfl rfl (by kernel_rfl) (by decide) (fun K hK => ?_)
 refine skip_ (w1 := ?_) (by rfl) rfl ?_ ?_
 rotate_left
 ·
  go_simp
  rfl
 refine hK.out _ _ ?_
 clear hK K
 refine pure_ (i := 10) (N := some 47) (v := ?_) (a' := ?_) #[true, true, true, true, true, true, true, true, true, true, true, false] rfl rfl (by kernel_rfl) (fun _ _ _ h => h) (Or.inl ⟨by rfl, ?_⟩) ?_ ?_
 rotate_left
 ·
  intro w'
  go_simp
  with_reducible rfl
 rotate_left
 ·
  simp only [Act.put, List.setIfInBounds_toArray, List.set_cons_zero, List.set_cons_succ, i64_w, i32_w]
  rfl
 refine last_ (i := 11) (N := none) #[true, true, true, true, true, true, true, true, true, true, true, true] rfl rfl (by kernel_rfl) (by decide) (fun K hK => ?_)
 refine skip_ (w1 := ?_) (by rfl) rfl ?_ ?_
 rotate_left
 ·
  go_simp
  rfl
 refine hK.out _ _ ?_
 clear hK K
 refine done_ (by kernel_rfl) ?_
 go_wp2
 have hz3 : ((Wa.setCell ⟨w.heap.size + 1, 2, none⟩ (.string (o.f2.extract 0 n.toNat))).setCell ⟨w.heap.size + 1 + 1, 2, none⟩ (.string (o.f2.extract n.toNat o.f2.size))).drew.heap.size = w.heap.size + 1 + 1 + 1 := by have := GZ.out; simpa using this
 have hb7 : ((Wa.setCell ⟨w.heap.size + 1, 2, none⟩ (.string (o.f2.extract 0 n.toNat))).setCell ⟨w.heap.size + 1 + 1, 2, none⟩ (.string (o.f2.extract n.toNat o.f2.size))).drew.heap[w.heap.size + 1 + 1]? = some _ := blk_put GB7'.out 2 (.string (o.f2.extract n.toNat o.f2.size)) rfl
 have HB4 := Aside0.mk (show ((Wa.setCell ⟨w.heap.size + 1, 2, none⟩ (.string (o.f2.extract 0 n.toNat))).setCell ⟨w.heap.size + 1 + 1, 2, none⟩ (.string (o.f2.extract n.toNat o.f2.size))).drew.heap[w.heap.size]? = some _ from blk_far (blk_far GB4.out (p := ⟨w.heap.size + 1, 2, none⟩) (by show w.heap.size ≠ w.heap.size + 1; omega) (.string (o.f2.extract 0 n.toNat))) (p := ⟨w.heap.size + 1 + 1, 2, none⟩) (by show w.heap.size ≠ w.heap.size + 1 + 1; omega) (.string (o.f2.extract n.toNat o.f2.size)))
 have HB5 := Aside0.mk (show ((Wa.setCell ⟨w.heap.size + 1, 2, none⟩ (.string (o.f2.extract 0 n.toNat))).setCell ⟨w.heap.size + 1 + 1, 2, none⟩ (.string (o.f2.extract n.toNat o.f2.size))).drew.heap[w.heap.size + 1]? = some _ from blk_far GB5'.out (p := ⟨w.heap.size + 1 + 1, 2, none⟩) (by show w.heap.size + 1 ≠ w.heap.size + 1 + 1; omega) (.string (o.f2.extract n.toNat o.f2.size)))
 have HBT := Aside0.mk (show ((Wa.setCell ⟨w.heap.size + 1, 2, none⟩ (.string (o.f2.extract 0 n.toNat))).setCell ⟨w.heap.size + 1 + 1, 2, none⟩ (.string (o.f2.extract n.toNat o.f2.size))).drew.heap[gt]? = some _ from blk_far (blk_far GBT.out (p := ⟨w.heap.size + 1, 2, none⟩) (by show gt ≠ w.heap.size + 1; omega) (.string (o.f2.extract 0 n.toNat))) (p := ⟨w.heap.size + 1 + 1, 2, none⟩) (by show gt ≠ w.heap.size + 1 + 1; omega) (.string (o.f2.extract n.toNat o.f2.size)))
 have gk2 := ((Kp.refl (fun k => k = w.heap.size + 1 ∨ k = w.heap.size + 1 + 1) Wa).setCell (p := ⟨w.heap.size + 1, 2, none⟩) (.inl rfl) (.string (o.f2.extract 0 n.toNat))).setCell (p := ⟨w.heap.size + 1 + 1, 2, none⟩) (.inr rfl) (.string (o.f2.extract n.toNat o.f2.size))
 have gk3 := (GK.out.trans gk2 (fun i hi hlt => by omega)).drew
 have HK := Aside0.mk (gk3.mono (P' := fun k => k = gt) (fun _ h => h.elim))
 have HBW := Aside0.mk (gk3.below (fun _ h => h.elim) (Nat.le_refl _))
 have HZ := Aside0.mk hz3
 have HB7 := Aside0.mk hb7
 clear gk2 gk3 hz3 a5 a5w a5f a7 a7f GB4 GB5 GB7 GBT GK GZ GB5' GB7'
 have hs0 : ((Wa.setCell ⟨w.heap.size + 1, 2, none⟩ (.string (o.f2.extract 0 n.toNat))).setCell ⟨w.heap.size + 1 + 1, 2, none⟩ (.string (o.f2.extract n.toNat o.f2.size))).drew.drew.cell? ⟨gt, 0, none⟩ = some (.slice (some ⟨gr, of, none⟩) (ops.length + 1) c) ∧ ((Wa.setCell ⟨w.heap.size + 1, 2, none⟩ (.string (o.f2.extract 0 n.toNat))).setCell ⟨w.heap.size + 1 + 1, 2, none⟩ (.string (o.f2.extract n.toNat o.f2.size))).drew.drew.cell? ⟨w.heap.size + 1 + 1, 0, none⟩ = some (.int .i64 o.f0) ∧ ((Wa.setCell ⟨w.heap.size + 1, 2, none⟩ (.string (o.f2.extract 0 n.toNat))).setCell ⟨w.heap.size + 1 + 1, 2, none⟩ (.string (o.f2.extract n.toNat o.f2.size))).drew.drew.cell? ⟨w.heap.size + 1 + 1, 1, none⟩ = some (.int .i64 o.f1) ∧ ((Wa.setCell ⟨w.heap.size + 1, 2, none⟩ (.string (o.f2.extract 0 n.toNat))).setCell ⟨w.heap.size + 1 + 1, 2, none⟩ (.string (o.f2.extract n.toNat o.f2.size))).drew.drew.cell? ⟨w.heap.size + 1 + 1, 2, none⟩ = some (.string (o.f2.extract n.toNat o.f2.size)) := ⟨(blk_cell HBT.out 0).trans rfl, (blk_cell hb7 0).trans rfl, (blk_cell hb7 1).trans rfl, (blk_cell hb7 2).trans rfl⟩
 have HS0 := Aside0.mk hs0
 clear hs0 hb7
 generalize ((Wa.setCell ⟨w.heap.size + 1, 2, none⟩ (.string (o.f2.extract 0 n.toNat))).setCell ⟨w.heap.size + 1 + 1, 2, none⟩ (.string (o.f2.extract n.toNat o.f2.size))).drew = W at *
 refine start_ (n := 12) (S := fun w' => w'.cell? ⟨gt, 0, none⟩ = some (.slice (some ⟨gr, of, none⟩) (ops.length + 1) c) ∧ w'.cell? ⟨w.heap.size + 1 + 1, 0, none⟩ = some (.int .i64 o.f0) ∧ w'.cell? ⟨w.heap.size + 1 + 1, 1, none⟩ = some (.int .i64 o.f1) ∧ w'.cell? ⟨w.heap.size + 1 + 1, 2, none⟩ = some (.string (o.f2.extract n.toNat o.f2.size))) (ds := [11]) #[false, false, false, false, false, false, false, false, false, false, false, false] (by kernel_rfl) rfl rfl ⟨HS0.out.1, HS0.out.2.1, HS0.out.2.2.1, HS0.out.2.2.2⟩ (fun hHeld => ?_)
 refine pure_ (i := 0) (N := some 54) (v := ?_) (a' := ?_) #[true, false, false, false, false, false, false, false, false, false, false, false] rfl rfl (by kernel_rfl) (fun _ _ _ h => h) (Or.inl ⟨by rfl, ?_⟩) ?_ ?_
 rotate_left
 ·
  intro w'
  go_simp
  with_reducible rfl
 rotate_left
 ·
  simp only [Act.put, List.setIfInBounds_toArray, List.set_cons_zero, List.set_cons_succ, i64_w, i32_w]
  rfl
 refine pure_ (i := 3) (N := some 57) (v := ?_) (a' := ?_) #[true, false, false, true, false, false, false, false, false, false, false, false] rfl rfl (by kernel_rfl) (fun _ _ _ h => h) (Or.inl ⟨by rfl, ?_⟩) ?_ ?_
 rotate_left
 ·
  intro w'
  go_simp
  with_reducible rfl
 rotate_left
 ·
  simp only [Act.put, List.setIfInBounds_toArray, List.set_cons_zero, List.set_cons_succ, i64_w, i32_w]
  rfl
 refine pure_ (i := 4) (N := some 58) (v := ?_) (a' := ?_) #[true, false, false, true, true, false, false, false, false, false, false, false] rfl rfl (by kernel_rfl) (fun _ _ _ h => h) (Or.inl ⟨by rfl, ?_⟩) ?_ ?_
 rotate_left
 ·
  intro w'
  go_simp
  with_reducible rfl
 rotate_left
 ·
  simp only [Act.put, List.setIfInBounds_toArray, List.set_cons_zero, List.set_cons_succ, i64_w, i32_w]
  rfl
 refine pure_ (i := 5) (N := some 59) (v := ?_) (a' := ?_) #[true, false, false, true, true, true, false, false, false, false, false, false] rfl rfl (by kernel_rfl) (fun _ _ _ h => h) (Or.inl ⟨by rfl, ?_⟩) ?_ ?_
 rotate_left
 ·
  intro w'
  go_simp
  with_reducible rfl
 rotate_left
 ·
  simp only [Act.put, List.setIfInBounds_toArray, List.set_cons_zero, List.set_cons_succ, i64_w, i32_w]
  rfl
 refine take_ (i := 1) (N := some 55) (v := ?_) (a' := ?_) #[true, true, false, true, true, true, false, false, false, false, false, false] rfl rfl (by kernel_rfl) (fun _ _ _ h => h) (Or.inl ⟨by rfl, ?_⟩) hHeld ?_ ?_
 rotate_left
 ·
  rintro w' ⟨s0, s1, s2, s3⟩
  go_simp
  with_reducible rfl
 rotate_left
 ·
  simp only [Act.put, List.setIfInBounds_toArray, List.set_cons_zero, List.set_cons_succ, i64_w, i32_w]
  rfl
 refine take_ (i := 6) (N := some 60) (v := ?_) (a' := ?_) #[true, true, false, true, true, true, true, false, false, false, false, false] rfl rfl (by kernel_rfl) (fun _ _ _ h => h) (Or.inl ⟨by rfl, ?_⟩) hHeld ?_ ?_
 rotate_left
 ·
  rintro w' ⟨s0, s1, s2, s3⟩
  go_simp
  with_reducible rfl
 rotate_left
 ·
  simp only [Act.put, List.setIfInBounds_toArray, List.set_cons_zero, List.set_cons_succ, i64_w, i32_w]
  rfl
 refine pure_ (i := 7) (N := some 61) (v := ?_) (a' := ?_) #[true, true, false, true, true, true, true, true, false, false, false, false] rfl rfl (by kernel_rfl) (fun _ _ _ h => h) (Or.inl ⟨by rfl, ?_⟩) ?_ ?_
 rotate_left
 ·
  intro w'
  go_simp
  with_reducible rfl
 rotate_left
 ·
  simp only [Act.put, List.setIfInBounds_toArray, List.set_cons_zero, List.set_cons_succ, i64_w, i32_w]
  rfl
 refine one_ (i := 2) (N := some 56) #[true, true, true, true, true, true, true, true, false, false, false, false] rfl rfl (by kernel_rfl) (by decide) (fun K hK => ?_)
 refine Kd.R_lit_step k70 (w0 := w) (W := W.drew) w.heap.size 70 (by rfl) (N := 56) (by rfl) (xs := [(⟨o.f0, o.f1, o.f2.extract n.toNat o.f2.size⟩ : S70)]) (inner := [.int .i64 o.f0, .int .i64 o.f1, .string (o.f2.extract n.toNat o.f2.size)]) (ok := fun k => W.heap.size ≤ k) (okp := fun _ => False) ?hr (Reps.c3 (k70_mkM _ _ _ _) (Reps.none _ _)) (fun _ hk => hk.elim) (Nat.le_refl _) (show Below w.heap.size w W.drew from HBW.out.drew) (show w.heap.size ≤ W.heap.size by have := HZ.out; omega) (by simp) ?_
 case hr => first | (go_simp; done) | (go_simp; rfl)
 intro v1 w1 hr1 hbl1 hg1 ho1
 have HR1 := Aside0.mk hr1
 have HBL1 := Aside0.mk hbl1
 have HBT1 := Aside0.mk (blk_grown (w := W.drew) HBT.out hg1 (by simp))
 have HB71 := Aside0.mk (blk_grown (w := W.drew) HB7.out hg1 (by simp))
 have HB41 := Aside0.mk (blk_grown (w := W.drew) HB4.out hg1 (by simp))
 have HB51 := Aside0.mk (blk_grown (w := W.drew) HB5.out hg1 (by simp))
 have HK1 := Aside0.mk ((HK.out.drew).grown hg1 (by simp))
 have HN1 : Aside0 (∀ q, q < W.heap.size → some q ≠ v1.ownBlock) := ⟨fun q hq e => by obtain ⟨b, hb1, hb2⟩ := ho1; rw [hb1] at e; simp only [Option.some.injEq] at e; have hb3 : W.heap.size ≤ b := hb2; omega⟩
 have HS1 : Aside0 (W.heap.size ≤ w1.heap.size) := ⟨hg1.size⟩
 have HCT1 := Aside0.mk (C_kp HCT.out HK1.out (fun _ a ha e => by obtain ⟨a0, e0, e1⟩ := HCB.out a ha; simp only [Option.some.injEq] at e0; subst e0; exact HNE.out (by rw [← e, e1])))
 clear hr1 hbl1 hg1 ho1
 refine hK.out _ _ ⟨(blk_cell HBT1.out 0).trans rfl, (blk_cell HB71.out 0).trans rfl, (blk_cell HB71.out 1).trans rfl, (blk_cell HB71.out 2).trans rfl⟩ (fun hHeld => ?_)
 clear hK K
 refine norm_ (a' := ?_) ?_ ?_
 rotate_left
 ·
  show Act.put _ (some 56) _ = _
  simp only [Act.put, List.setIfInBounds_toArray, List.set_cons_zero, List.set_cons_succ, i64_w, i32_w]
  rfl
 refine one_ (i := 8) (N := some 62) #[true, true, true, true, true, true, true, true, true, false, false, false] rfl rfl (by kernel_rfl) (by decide) (fun K hK => ?_)
 refine Kd.R_append_rows_step k70 (w0 := w) (W := w1) (Rr := k70.K w1) w.heap.size (by rfl) (.tmp 56) (.tmp 61) 25 70 (.agg #[.int .i64 0, .int .i64 0, .string ⟨#[]⟩]) 32 (by rfl) Try.underlying25 info70' (by rfl) (by decide) (by omega) v1 [(⟨o.f0, o.f1, o.f2.extract n.toNat o.f2.size⟩ : S70)] ops A' ops.length (c - 1) (fun k => W.heap.size ≤ k) (fun _ => False) (by rfl) (by rfl) HR1.out HCT1.out (fun x cs h => by have := k70_open h; subst this; exact k70_mkM _ _ _ _) (fun _ h => h.elim) (fun k hk => Nat.le_trans HS1.out hk) HBL1.out (show w.heap.size ≤ w1.heap.size by have := HZ.out; have := HS1.out; omega) (by simp only [List.length_singleton]; omega) ?_
 intro v2 w2 hr2 hbl2 hg2 hat2
 have HBT2 := Aside0.mk (blk_grown HBT1.out hg2 (HN1.out _ (by have := HZ.out; omega)))
 have HB72 := Aside0.mk (blk_grown HB71.out hg2 (HN1.out _ (by have := HZ.out; omega)))
 have HB42 := Aside0.mk (blk_grown HB41.out hg2 (HN1.out _ (by have := HZ.out; omega)))
 have HB52 := Aside0.mk (blk_grown HB51.out hg2 (HN1.out _ (by have := HZ.out; omega)))
 have HK2 := Aside0.mk (HK1.out.grown hg2 (fun k e hk => absurd e.symm (HN1.out k (by have := HZ.out; omega))))
 obtain ⟨g2, c2, hv2, hgb2, hgl2, _, _⟩ := Kd.R_form hr2 (by simp)
 have hl2 : ([(⟨o.f0, o.f1, o.f2.extract n.toNat o.f2.size⟩ : S70)] ++ ops).length = ops.length + 1 := by simp
 rw [hl2] at hv2
 subst hv2
 have HR2 := Aside0.mk hr2
 have HG2 : Aside0 (W.heap.size ≤ g2) := ⟨hr2.1 g2 rfl⟩
 clear hr2 hbl2 hg2 hat2
 have d0 : w2.cell? ⟨gt, 0, none⟩ = some (.slice (some ⟨gr, of, none⟩) (ops.length + 1) c) := (blk_cell HBT2.out 0).trans rfl
 have e0 := blk_frozen HBT2.out 0
 have HB5x := Aside0.mk (blk_far HB52.out (p := ⟨gt, 0, none⟩) (by show w.heap.size + 1 ≠ gt; omega) (.slice (some ⟨g2, 0, none⟩) (ops.length + 1) c2))
 have HB4x := Aside0.mk (blk_far HB42.out (p := ⟨gt, 0, none⟩) (by show w.heap.size ≠ gt; omega) (.slice (some ⟨g2, 0, none⟩) (ops.length + 1) c2))
 have HBTx := Aside0.mk (blk_put HBT2.out 0 (.slice (some ⟨g2, 0, none⟩) (ops.length + 1) c2) rfl)
 have x50 : (w2.setCell ⟨gt, 0, none⟩ (.slice (some ⟨g2, 0, none⟩) (ops.length + 1) c2)).cell? ⟨w.heap.size + 1, 0, none⟩ = some (.int .i64 o.f0) := (blk_cell HB5x.out 0).trans rfl
 have x51 : (w2.setCell ⟨gt, 0, none⟩ (.slice (some ⟨g2, 0, none⟩) (ops.length + 1) c2)).cell? ⟨w.heap.size + 1, 1, none⟩ = some (.int .i64 o.f1) := (blk_cell HB5x.out 1).trans rfl
 have x52 : (w2.setCell ⟨gt, 0, none⟩ (.slice (some ⟨g2, 0, none⟩) (ops.length + 1) c2)).cell? ⟨w.heap.size + 1, 2, none⟩ = some (.string (o.f2.extract 0 n.toNat)) := (blk_cell HB5x.out 2).trans rfl
 have x40 : (w2.setCell ⟨gt, 0, none⟩ (.slice (some ⟨g2, 0, none⟩) (ops.length + 1) c2)).cell? ⟨w.heap.size, 0, none⟩ = some (.int .i64 0) := (blk_cell HB4x.out 0).trans rfl
 have x41 : (w2.setCell ⟨gt, 0, none⟩ (.slice (some ⟨g2, 0, none⟩) (ops.length + 1) c2)).cell? ⟨w.heap.size, 1, none⟩ = some (.int .i64 0) := (blk_cell HB4x.out 1).trans rfl
 have x42 : (w2.setCell ⟨gt, 0, none⟩ (.slice (some ⟨g2, 0, none⟩) (ops.length + 1) c2)).cell? ⟨w.heap.size, 2, none⟩ = some (.string ⟨#[]⟩) := (blk_cell HB4x.out 2).trans rfl
 have y40 := blk_frozen HB4x.out 0
 have y41 := blk_frozen HB4x.out 1
 have y42 := blk_frozen HB4x.out 2
 refine hK.out _ _ ⟨(blk_cell HBT2.out 0).trans rfl, (blk_cell HB72.out 0).trans rfl, (blk_cell HB72.out 1).trans rfl, (blk_cell HB72.out 2).trans rfl⟩ (fun hHeld => ?_)
 clear hK K
 refine norm_ (a' := ?_) ?_ ?_
 rotate_left
 ·
  show Act.put _ (some 62) _ = _
  simp only [Act.put, List.setIfInBounds_toArray, List.set_cons_zero, List.set_cons_succ, i64_w, i32_w]
  rfl
 refine pure_ (i := 9) (N := some 63) (v := ?_) (a' := ?_) #[true, true, true, true, true, true, true, true, true, true, false, false] rfl rfl (by kernel_rfl) (fun _ _ _ h => h) (Or.inl ⟨by rfl, ?_⟩) ?_ ?_
 rotate_left
 ·
  intro w'
  go_simp
  with_reducible rfl
 rotate_left
 ·
  simp only [Act.put, List.setIfInBounds_toArray, List.set_cons_zero, List.set_cons_succ, i64_w, i32_w]
  rfl
 refine pure_ (i := 10) (N := some 64) (v := ?_) (a' := ?_) #[true, true, true, true, true, true, true, true, true, true, true, false] rfl rfl (by kernel_rfl) (fun _ _ _ h => h) (Or.inl ⟨by rfl, ?_⟩) ?_ ?_
 rotate_left
 ·
  intro w'
  go_simp
  with_reducible rfl
 rotate_left
 ·
  simp only [Act.put, List.setIfInBounds_toArray, List.set_cons_zero, List.set_cons_succ, i64_w, i32_w]
  rfl
 refine last_ (i := 11) (N := none) #[true, true, true, true, true, true, true, true, true, true, true, true] rfl rfl (by kernel_rfl) (by decide) (fun K hK => ?_)
 refine skip_ (w1 := ?_) (by rfl) rfl ?_ ?_
 rotate_left
 ·
  go_simp
  rfl
 refine hK.out _ _ ?_
 clear hK K
 refine done_ (by kernel_rfl) ?_
 go_wp2
 have hp3 := blk_put (blk_put (blk_put HB4x.out 0 (.int .i64 o.f0) rfl) 1 (.int .i64 o.f1) rfl) 2 (.string (o.f2.extract 0 n.toNat)) rfl
 refine bodyPost_ret (results_cell_row rfl _ _ w.heap.size 70 #[.int .i64 o.f0, .int .i64 o.f1, .string (o.f2.extract 0 n.toNat)] (0, 0) _ rfl hp3 Try.underlying70 rfl (by kernel_rfl)) rfl ?_
 have k1 := HK2.out.setCell (p := ⟨gt, 0, none⟩) rfl (.slice (some ⟨g2, 0, none⟩) (ops.length + 1) c2)
 have k3 := (((Kp.refl (fun k => k = w.heap.size) (w2.setCell ⟨gt, 0, none⟩ (.slice (some ⟨g2, 0, none⟩) (ops.length + 1) c2))).setCell (p := ⟨w.heap.size, 0, none⟩) rfl (.int .i64 o.f0)).setCell (p := ⟨w.heap.size, 1, none⟩) rfl (.int .i64 o.f1)).setCell (p := ⟨w.heap.size, 2, none⟩) rfl (.string (o.f2.extract 0 n.toNat))
 have hgz : w.heap.size + 1 + 1 + 1 ≤ g2 := by have := HG2.out; have := HZ.out; omega
 obtain ⟨_, hcap2, hC2⟩ := Kd.R_reads' HR2.out
 have hC3 : Kd.C k70 w2 (some ⟨g2, 0, none⟩) (ops.length + 1) ((⟨o.f0, o.f1, o.f2.extract n.toNat o.f2.size⟩ : S70) :: ops) := hC2
 have hC4 := C_kp (C_kp hC3 ((Kp.refl (fun k => k = gt) w2).setCell (p := ⟨gt, 0, none⟩) rfl (.slice (some ⟨g2, 0, none⟩) (ops.length + 1) c2)) (fun _ a ha e => by simp only [Option.some.injEq] at ha; subst ha; simp only at e; omega)) k3 (fun _ a ha e => by simp only [Option.some.injEq] at ha; subst ha; simp only at e; omega)
 exact ⟨rfl, ⟨g2, c2, by omega, ⟨k3.blk HBTx.out (by omega), hC4, hcap2⟩⟩, k1.trans k3 (fun i hi hlt => by omega)⟩

end Go.Proofs.Ytidihnnkcmeaeaa.A
namespace Go.Proofs.Ytidihnnkcmeaeaa.A
open Go.RowKit Go.Proofs.YtidihnnkcmeaeaaW.PrintWords Go.Proofs.YtidihnnkcmeaeaaW.PrintLast Go.Proofs.YtidihnnkcmeaeaaW.PrintMore
set_option linter.unusedVariables false
set_option linter.unusedSimpArgs false
/-- at most n of the first operation -/
def tkO (o : S70) (n : Int) : S70 := if opw o ≤ n then o else if o.f0 = 2 then ⟨o.f0, o.f1, o.f2.extract 0 n.toNat⟩ else ⟨o.f0, n, o.f2⟩
def tkR (o : S70) (n : Int) (ops : List S70) : List S70 := if opw o ≤ n then ops else (if o.f0 = 2 then ⟨o.f0, o.f1, o.f2.extract n.toNat o.f2.size⟩ else ⟨o.f0, o.f1 - n, o.f2⟩) :: ops
theorem tkO_f0 (o : S70) (n : Int) : (tkO o n).f0 = o.f0 := by
 unfold tkO
 split
 ·
  rfl
 ·
  split <;> rfl
theorem tkO_weight {o : S70} {n : Int} (h : opOk o = true) (hn : 1 ≤ n) : (tkO o n).f1 + ((tkO o n).f2.size : Int) = (if opw o ≤ n then opw o else n) ∧ 0 ≤ (tkO o n).f1 := by
 unfold tkO
 by_cases hw : opw o ≤ n
 ·
  simp only [if_pos hw]
  rcases opOk_cases h with ⟨h1, h2, h3⟩ | ⟨h1, h2, h3⟩
  ·
   rw [opw, if_neg (by omega), h3, noText_size]
   exact ⟨by omega, by omega⟩
  ·
   rw [opw, if_pos h1]
   omega
 ·
  simp only [if_neg hw]
  rcases opOk_cases h with ⟨h1, h2, h3⟩ | ⟨h1, h2, h3⟩
  ·
   rw [if_neg (by omega), h3]
   show n + ((noText.size : Nat) : Int) = n ∧ 0 ≤ n
   rw [noText_size]
   omega
  ·
   rw [opw, if_pos h1] at hw
   rw [if_pos h1]
   simp only [ByteArray.size_extract]
   omega
theorem tkO_opOk {o : S70} {n : Int} (h : opOk o = true) (hn : 1 ≤ n) : opOk (tkO o n) = true := by
 unfold tkO
 by_cases hw : opw o ≤ n
 ·
  rw [if_pos hw]
  exact h
 ·
  rw [if_neg hw]
  rcases opOk_cases h with ⟨h1, h2, h3⟩ | ⟨h1, h2, h3⟩
  ·
   rw [if_neg (by omega), h3]
   exact opOk_num h1 hn
  ·
   rw [if_pos h1, h1, h2]
   rw [opw, if_pos h1] at hw
   refine opOk_put ?_
   simp only [ByteArray.size_extract]
   omega
theorem tkR_opOk {o : S70} {n : Int} {ops : List S70} (h : opOk o = true) (hn : 1 ≤ n) (ha : ∀ x ∈ ops, opOk x = true) : ∀ x ∈ tkR o n ops, opOk x = true := by
 unfold tkR
 by_cases hw : opw o ≤ n
 ·
  rw [if_pos hw]
  exact ha
 ·
  rw [if_neg hw]
  intro x hx
  rcases List.mem_cons.1 hx with rfl | hx
  ·
   rcases opOk_cases h with ⟨h1, h2, h3⟩ | ⟨h1, h2, h3⟩
   ·
    rw [opw, if_neg (by omega)] at hw
    rw [if_neg (by omega), h3]
    exact opOk_num h1 (by omega)
   ·
    rw [opw, if_pos h1] at hw
    rw [if_pos h1, h1, h2]
    refine opOk_put ?_
    simp only [ByteArray.size_extract]
    omega
  ·
   exact ha x hx
theorem tkR_opws {o : S70} {n : Int} {ops : List S70} (h : opOk o = true) (hn : 1 ≤ n) : opws (tkR o n ops) = opws (o :: ops) - (if opw o ≤ n then opw o else n) := by
 unfold tkR
 by_cases hw : opw o ≤ n
 ·
  rw [if_pos hw, if_pos hw]
  simp only [opws]
  omega
 ·
  rw [if_neg hw, if_neg hw]
  simp only [opws]
  rcases opOk_cases h with ⟨h1, h2, h3⟩ | ⟨h1, h2, h3⟩
  ·
   simp only [opw, if_neg (show ¬ o.f0 = 2 by omega)]
   omega
  ·
   rw [opw, if_pos h1] at hw
   simp only [opw, if_pos h1, ByteArray.size_extract]
   omega
/-- each weighs at most -/
theorem tkR_small {o : S70} {n m : Int} {ops : List S70} (h : opOk o = true) (hn : 1 ≤ n) (ho : opw o ≤ m) (ha : ∀ x ∈ ops, opw x ≤ m) : ∀ x ∈ tkR o n ops, opw x ≤ m := by
 unfold tkR
 by_cases hw : opw o ≤ n
 ·
  rw [if_pos hw]
  exact ha
 ·
  rw [if_neg hw]
  intro x hx
  rcases List.mem_cons.1 hx with rfl | hx
  ·
   rcases opOk_cases h with ⟨h1, h2, h3⟩ | ⟨h1, h2, h3⟩
   ·
    rw [opw, if_neg (by omega)] at hw ho
    rw [if_neg (by omega), opw, if_neg (by show ¬ o.f0 = 2; omega)]
    show o.f1 - n ≤ m
    omega
   ·
    rw [opw, if_pos h1] at hw ho
    rw [if_pos h1, opw, if_pos h1]
    simp only [ByteArray.size_extract]
    omega
  ·
   exact ha x hx

/-- what one piece does to the builder -/
def pcB (keep : Bool) (b : Bs) (o : S70) : Bs := if o.f0 = 3 then b.onDrop o.f1 else if o.f0 = 2 then (if keep then b.onPut o.f2 else b) else (if keep then b.onKeep o.f1 else b.onDrop o.f1)
theorem onDrop_add {b : Bs} {x y : Int} (hx : 0 < x) (hy : 0 < y) : (b.onDrop x).onDrop y = b.onDrop (x + y) := by
 simp [Bs.onDrop, hx, hy, show 0 < x + y by omega, Int.add_assoc]
theorem thr_zero (keep : Bool) (n : Int) (ops : List S70) (h : n ≤ 0) : thr keep n ops = ([], ops) := by
 cases ops with
 | nil => rfl
 | cons o a => rw [thr, if_pos h]

/-- one piece further -/
theorem thr_step {keep : Bool} {n : Int} {o : S70} {ops : List S70} {b : Bs} (h : opOk o = true) (hn : 0 < n) :
  (thr keep n (o :: ops)).1.foldl Bs.step b = (thr keep (if o.f0 = 3 then n else n - ((tkO o n).f1 + ((tkO o n).f2.size : Int))) (tkR o n ops)).1.foldl Bs.step (pcB keep b (tkO o n)) ∧
  (thr keep n (o :: ops)).2 = (thr keep (if o.f0 = 3 then n else n - ((tkO o n).f1 + ((tkO o n).f2.size : Int))) (tkR o n ops)).2 := by
 have hw := (tkO_weight h (show 1 ≤ n by omega)).1
 rw [thr, if_neg (by omega)]
 rcases opOk_cases h with ⟨h1, h2, h3⟩ | ⟨h1, h2, h3⟩
 ·
  by_cases c3 : o.f0 = 3
  ·
   rw [if_pos c3, if_pos c3]
   by_cases hle : opw o ≤ n
   ·
    simp only [tkO, tkR, if_pos hle, pcB, if_pos c3, List.foldl_cons, step_drop]
    trivial
   ·
    have hle' := hle
    rw [opw, if_neg (by omega)] at hle'
    simp only [tkO, tkR, if_neg hle, if_neg (show ¬ o.f0 = 2 by omega), pcB, if_pos c3, List.foldl_cons, step_drop]
    rw [thr, if_neg (by omega), if_pos c3]
    simp only [List.foldl_cons, step_drop]
    rw [onDrop_add hn (by omega), show n + (o.f1 - n) = o.f1 by omega]
    trivial
  ·
   have c1 : o.f0 = 1 := by omega
   rw [if_neg c3, if_neg (by omega), if_neg c3]
   have hopw : opw o = o.f1 := by unfold opw; rw [if_neg (by omega)]
   by_cases hle : opw o ≤ n
   ·
    rw [if_pos hle] at hw
    rw [if_pos (by omega)]
    rw [hw, hopw]
    simp only [tkO, tkR, if_pos hle, pcB, if_neg c3, if_neg (show ¬ o.f0 = 2 by omega), List.foldl_cons]
    cases keep
    ·
     simp [step_drop]
    ·
     simp [step_keep]
   ·
    rw [if_neg hle] at hw
    rw [if_neg (by omega)]
    rw [hw, Int.sub_self, thr_zero _ _ _ (Int.le_refl 0)]
    simp only [tkO, tkR, if_neg hle, pcB, if_neg c3, if_neg (show ¬ o.f0 = 2 by omega), List.foldl_cons, List.foldl_nil]
    rw [c1, h3]
    cases keep
    ·
     simp [step_drop]
    ·
     simp [step_keep]
 ·
  have c3 : ¬ o.f0 = 3 := by omega
  rw [if_neg c3, if_pos h1, if_neg c3]
  have hopw : opw o = (o.f2.size : Int) := by unfold opw; rw [if_pos h1]
  by_cases hle : opw o ≤ n
  ·
   rw [if_pos hle] at hw
   rw [if_pos (by omega)]
   rw [hw, hopw]
   simp only [tkO, tkR, if_pos hle, pcB, if_neg c3, if_pos h1, List.foldl_cons]
   cases keep
   ·
    simp [step_put, onPut_noText]
   ·
    simp [step_put]
  ·
   rw [if_neg hle] at hw
   rw [if_neg (by omega)]
   rw [hw, Int.sub_self, thr_zero _ _ _ (Int.le_refl 0)]
   simp only [tkO, tkR, if_neg hle, pcB, if_neg c3, if_pos h1, List.foldl_cons, List.foldl_nil]
   rw [h1, h2]
   cases keep
   ·
    simp [step_put, onPut_noText]
   ·
    simp [step_put]

structure ThI (ops : List S70) (n m : Int) (T : List S70 × List S70) : Prop where
 left : toOf T.2 = toOf ops - n
 ok : ∀ o ∈ T.2, opOk o = true
 small : ∀ o ∈ T.2, opw o ≤ m
 pos : ∀ o ∈ T.1, posN o
 sum : opws T.1 + opws T.2 ≤ opws ops
theorem thr_inv (keep : Bool) {m : Int} : ∀ (ops : List S70) (n : Int), (∀ o ∈ ops, opOk o = true) → (∀ o ∈ ops, opw o ≤ m) → 0 ≤ n → n ≤ toOf ops → ThI ops n m (thr keep n ops)
 | [], n, _, _, h0, h1 => by
  have : n = 0 := by simp only [toOf] at h1; omega
  subst this
  exact ⟨rfl, by simp [thr], by simp [thr], by simp [thr], Int.le_refl _⟩
 | o :: ops, n, hok, hm, h0, h1 => by
  by_cases hn : n = 0
  ·
   subst hn
   rw [thr_zero _ _ _ (Int.le_refl 0)]
   exact ⟨by simp, hok, hm, by simp, by simp [opws]⟩
  ·
   have ho := hok o List.mem_cons_self
   have hmo := hm o List.mem_cons_self
   have hok' : ∀ x ∈ ops, opOk x = true := fun x hx => hok x (List.mem_cons_of_mem _ hx)
   have hm' : ∀ x ∈ ops, opw x ≤ m := fun x hx => hm x (List.mem_cons_of_mem _ hx)
   have hpw := opw_pos ho
   rw [toOf_cons] at h1
   rw [thr, if_neg (by omega)]
   rcases opOk_cases ho with ⟨k1, k2, k3⟩ | ⟨k1, k2, k3⟩
   ·
    have hopw : opw o = o.f1 := by unfold opw; rw [if_neg (by omega)]
    rw [if_neg (by omega)] at h1
    by_cases c3 : o.f0 = 3
    ·
     rw [if_pos c3] at h1
     rw [if_pos c3]
     obtain ⟨t1, t2, t3, t4, t5⟩ := thr_inv keep ops n hok' hm' h0 (by omega)
     refine ⟨?_, t2, t3, ?_, ?_⟩
     ·
      rw [toOf_cons, if_neg (by omega), if_pos c3, t1]; omega
     ·
      intro x hx
      rcases List.mem_cons.1 hx with rfl | hx
      ·
       exact fun _ => by show 0 ≤ o.f1; omega
      ·
       exact t4 x hx
     ·
      simp only [opws]
      have : opw (⟨3, o.f1, noText⟩ : S70) = o.f1 := rfl
      omega
    ·
     rw [if_neg c3] at h1
     rw [if_neg c3, if_neg (by omega)]
     have hx3 : ∀ y : Int, opw (⟨if keep then 1 else 3, y, noText⟩ : S70) = y := fun y => by cases keep <;> rfl
     have hx4 : ∀ y : Int, 0 ≤ y → posN (⟨if keep then 1 else 3, y, noText⟩ : S70) := fun y hy _ => hy
     by_cases hle : o.f1 ≤ n
     ·
      rw [if_pos hle]
      obtain ⟨t1, t2, t3, t4, t5⟩ := thr_inv keep ops (n - o.f1) hok' hm' (by omega) (by omega)
      refine ⟨?_, t2, t3, ?_, ?_⟩
      ·
       show toOf (thr keep (n - o.f1) ops).2 = _
       rw [toOf_cons, if_neg (by omega), if_neg c3, t1]; omega
      ·
       intro x hx
       rcases List.mem_cons.1 hx with rfl | hx
       ·
        exact hx4 _ (by omega)
       ·
        exact t4 x hx
      ·
       simp only [opws]
       have := hx3 o.f1
       omega
     ·
      rw [if_neg hle]
      have hr : opw (⟨1, o.f1 - n, noText⟩ : S70) = o.f1 - n := rfl
      refine ⟨?_, ?_, ?_, ?_, ?_⟩
      ·
       show (if (1 : Int) = 2 then ((noText.size : Nat) : Int) else if (1 : Int) = 3 then 0 else o.f1 - n) + toOf ops = _
       rw [toOf_cons, if_neg (show ¬ o.f0 = 2 by omega), if_neg c3, if_neg (by decide), if_neg (by decide)]
       omega
      ·
       intro x hx
       rcases List.mem_cons.1 hx with rfl | hx
       ·
        exact opOk_num (.inl rfl) (by omega)
       ·
        exact hok' x hx
      ·
       intro x hx
       rcases List.mem_cons.1 hx with rfl | hx
       ·
        rw [hr]; omega
       ·
        exact hm' x hx
      ·
       intro x hx
       rw [List.mem_singleton.1 hx]
       exact hx4 _ (by omega)
      ·
       simp only [opws]
       have := hx3 n
       omega
   ·
    have hopw : opw o = (o.f2.size : Int) := by unfold opw; rw [if_pos k1]
    rw [if_pos k1] at h1
    rw [if_neg (by omega), if_pos k1]
    have hput : ∀ t : ByteArray, opw (⟨2, 0, t⟩ : S70) = (t.size : Int) := fun t => rfl
    have hpp : ∀ t : ByteArray, posN (⟨2, 0, t⟩ : S70) := fun t hc => absurd rfl hc
    by_cases hle : (o.f2.size : Int) ≤ n
    ·
     rw [if_pos hle]
     obtain ⟨t1, t2, t3, t4, t5⟩ := thr_inv keep ops (n - (o.f2.size : Int)) hok' hm' (by omega) (by omega)
     refine ⟨?_, t2, t3, ?_, ?_⟩
     ·
      rw [toOf_cons, if_pos k1, t1]; omega
     ·
      intro x hx
      rcases List.mem_cons.1 hx with rfl | hx
      ·
       cases keep <;> exact hpp _
      ·
       exact t4 x hx
     ·
      simp only [opws]
      cases keep
      ·
       have := hput noText
       rw [noText_size] at this
       simp only [Bool.false_eq_true, if_false]
       omega
      ·
       have := hput o.f2
       simp only [if_true]
       omega
    ·
     rw [if_neg hle]
     have hs1 : (o.f2.extract 0 n.toNat).size = n.toNat := by simp only [ByteArray.size_extract]; omega
     have hs2 : ((o.f2.extract n.toNat o.f2.size).size : Int) = (o.f2.size : Int) - n := by simp only [ByteArray.size_extract]; omega
     have hr := hput (o.f2.extract n.toNat o.f2.size)
     refine ⟨?_, ?_, ?_, ?_, ?_⟩
     ·
      rw [toOf_cons, toOf_cons, if_pos k1]
      show (if (2 : Int) = 2 then ((o.f2.extract n.toNat o.f2.size).size : Int) else _) + toOf ops = _
      rw [if_pos rfl]
      omega
     ·
      intro x hx
      rcases List.mem_cons.1 hx with rfl | hx
      ·
       exact opOk_put (by omega)
      ·
       exact hok' x hx
     ·
      intro x hx
      rcases List.mem_cons.1 hx with rfl | hx
      ·
       rw [hr]; omega
      ·
       exact hm' x hx
     ·
      intro x hx
      rw [List.mem_singleton.1 hx]
      cases keep <;> exact hpp _
     ·
      simp only [opws]
      cases keep
      ·
       have := hput noText
       rw [noText_size] at this
       simp only [Bool.false_eq_true, if_false]
       omega
      ·
       have := hput (o.f2.extract 0 n.toNat)
       simp only [if_true]
       omega

/-- Compose's builder and what is left of the first delta -/
def cpStep (st : Bs × List S70) (o : S70) : Bs × List S70 := if o.f0 = 2 then (st.1.onPut o.f2, st.2) else ((thr (o.f0 == 1) o.f1 st.2).1.foldl Bs.step st.1, (thr (o.f0 == 1) o.f1 st.2).2)
def leftOps (a : List S70) : List S70 := a.map fun o => (⟨3, o.f1, noText⟩ : S70)
theorem cp_fold : ∀ (d : List S70) (st : Bs × List S70), (leftOps (d.foldl cpStep st).2).foldl Bs.step (d.foldl cpStep st).1 = (compOps st.2 d).foldl Bs.step st.1
 | [], st => by simp [compOps, leftOps]
 | o :: d, st => by
  rw [List.foldl_cons, cp_fold d]
  unfold cpStep
  by_cases h2 : o.f0 = 2
  ·
   simp only [if_pos h2, compOps, List.foldl_cons, step_put]
  ·
   simp only [if_neg h2, compOps, List.foldl_append]
def cpAt (a d : List S70) (k : Nat) : Bs × List S70 := (d.take k).foldl cpStep (Bs.new, a)
theorem cpAt_succ {a d : List S70} {k : Nat} (h : k < d.length) : cpAt a d (k + 1) = cpStep (cpAt a d k) (rd_T70 d (k : Int)) := by
 unfold cpAt
 rw [take_succ_rd h, List.foldl_append]
 rfl
structure CpI (a d : List S70) (k : Nat) (st : Bs × List S70) : Prop where
 left : toOf st.2 = toOf a - fromOf (d.take k)
 ok : ∀ o ∈ st.2, opOk o = true
 small : ∀ o ∈ st.2, opw o ≤ 268435456
 sum : ∃ m, BI st.1 m ∧ m + opws st.2 ≤ opws a + opws (d.take k)
theorem cpAt_I {a d : List S70} (ha : ∀ o ∈ a, opOk o = true) (hs : ∀ o ∈ a, opw o ≤ 268435456) (hok : ∀ o ∈ d, opOk o = true) (hf : fromOf d ≤ toOf a) : ∀ k, k ≤ d.length → CpI a d k (cpAt a d k)
 | 0, _ => ⟨by simp [cpAt, fromOf], ha, hs, 0, BI.new, by simp [cpAt, opws]⟩
 | k + 1, hk => by
  have hp : ∀ o ∈ d, posN o := fun o ho => kindOk_posN (opOk_kindOk (hok o ho))
  obtain ⟨h1, h2, h3, m, h4, h5⟩ := cpAt_I ha hs hok hf k (by omega)
  have hlt : k < d.length := by omega
  have hle := (from_take_le hp (k + 1)).1
  have ho := hok _ (rd_mem_at hlt)
  have hpo := hp _ (rd_mem_at hlt)
  rw [cpAt_succ hlt, cpStep]
  rw [take_succ_rd hlt, fromOf_append, fromOf_cons] at hle
  simp only [fromOf] at hle
  by_cases c2 : (rd_T70 d (k : Int)).f0 = 2
  ·
   rw [if_pos c2]
   refine ⟨?_, h2, h3, _, h4.putS _, ?_⟩
   ·
    rw [take_succ_rd hlt, fromOf_append, fromOf_cons, if_pos c2]
    simp only [fromOf]
    omega
   ·
    rw [take_succ_rd hlt, opws_append, opws_one, opw, if_pos c2]
    show _ + opws (cpAt a d k).2 ≤ _
    omega
  ·
   rw [if_neg c2]
   rw [if_neg c2] at hle
   have hn := hpo c2
   obtain ⟨t1, t2, t3, t4, t5⟩ := thr_inv ((rd_T70 d (k : Int)).f0 == 1) (cpAt a d k).2 (rd_T70 d (k : Int)).f1 h2 h3 hn (by omega)
   refine ⟨?_, t2, t3, _, BI.fold t4 h4, ?_⟩
   ·
    rw [take_succ_rd hlt, fromOf_append, fromOf_cons, if_neg c2]
    simp only [fromOf]
    show toOf (thr _ _ _).2 = _
    omega
   ·
    rw [take_succ_rd hlt, opws_append, opws_one, opw, if_neg c2]
    show _ + opws (thr _ _ _).2 ≤ _
    omega
end Go.Proofs.Ytidihnnkcmeaeaa.A
namespace Go.Proofs.Ytidihnnkcmeaeaa.A
open Go.RowKit Go.Proofs.YtidihnnkcmeaeaaW.PrintWords Go.Proofs.YtidihnnkcmeaeaaW.PrintLast Go.Proofs.YtidihnnkcmeaeaaW.PrintMore
set_option linter.unusedVariables false
set_option linter.unusedSimpArgs false
section

/-- Compose's variables: the builder (at g, by gp), the tape (at gt, by gf), the function (at gc) -/
structure CpQ (W0 : World) (gp gf gt g gc : Nat) (P : Nat → Prop) (A : Option Addr) (N c : Nat) (b : Bs) (ops : List S70) (W : World) : Prop where
 below : Below W0.heap.size W0 W
 bp : W.heap[gp]? = some (.cells #[.pointer (some ⟨g, 0, none⟩)] 97 (0, 0))
 bf : W.heap[gf]? = some (.cells #[.pointer (some ⟨gt, 0, none⟩)] 104 (0, 0))
 bc : W.heap[gc]? = some (.cells #[.func (.func 83) #[] #[.pointer (some ⟨gf, 0, none⟩), .pointer (some ⟨gp, 0, none⟩)]] 107 (0, 0))
 tape : IsT W gt A N c ops
 isb : IsB W W0.heap.size P g b
 own : ∀ q, P q → W0.heap.size ≤ q
 fresh : ∀ q, W.heap.size ≤ q → P q
 np : ¬ P gp
 nf : ¬ P gf
 nt : ¬ P gt
 nc : ¬ P gc
 na : 0 < N → ∀ a, A = some a → ¬ P a.block
 nw : W0.heap.size ≤ gt
def CpS (W0 : World) (gp gf gt g gc : Nat) (b : Bs) (ops : List S70) (W : World) : Prop := ∃ P A N c, CpQ W0 gp gf gt g gc P A N c b ops W
section
variable {W0 W W' : World} {gp gf gt g gc N c : Nat} {P : Nat → Prop} {A : Option Addr} {b b' : Bs} {ops : List S70}
theorem CpQ.later (h : CpQ W0 gp gf gt g gc P A N c b ops W) (hb : Below W.heap.size W W') : CpQ W0 gp gf gt g gc P A N c b ops W' :=
 ⟨h.below.trans (hb.mono h.below.size), blk_below h.bp hb, blk_below h.bf hb, blk_below h.bc hb, ⟨blk_below h.tape.blk hb, Kd.C_below h.tape.row hb, h.tape.cap⟩, h.isb.below hb, h.own, fun q hq => h.fresh q (Nat.le_trans hb.size hq), h.np, h.nf, h.nt, h.nc, h.na, h.nw⟩
theorem CpS.later (h : CpS W0 gp gf gt g gc b ops W) (hb : Below W.heap.size W W') : CpS W0 gp gf gt g gc b ops W' := by
 obtain ⟨P, A, N, c, h⟩ := h
 exact ⟨P, A, N, c, h.later hb⟩
theorem CpS.cf (h : CpS W0 gp gf gt g gc b ops W) : W.cell? ⟨gf, 0, none⟩ = some (.pointer (some ⟨gt, 0, none⟩)) := by
 obtain ⟨P, A, N, c, h⟩ := h
 exact (blk_cell h.bf 0).trans rfl
theorem CpS.cp (h : CpS W0 gp gf gt g gc b ops W) : W.cell? ⟨gp, 0, none⟩ = some (.pointer (some ⟨g, 0, none⟩)) := by
 obtain ⟨P, A, N, c, h⟩ := h
 exact (blk_cell h.bp 0).trans rfl
theorem CpS.plt (h : CpS W0 gp gf gt g gc b ops W) : gp < W.heap.size := by
 obtain ⟨P, A, N, c, h⟩ := h
 exact blk_lt h.bp
theorem CpS.cc (h : CpS W0 gp gf gt g gc b ops W) : W.cell? ⟨gc, 0, none⟩ = some (.func (.func 83) #[] #[.pointer (some ⟨gf, 0, none⟩), .pointer (some ⟨gp, 0, none⟩)]) := by
 obtain ⟨P, A, N, c, h⟩ := h
 exact (blk_cell h.bc 0).trans rfl
theorem CpQ.reads (h : CpQ W0 gp gf gt g gc P A N c b ops W) : ops.length = N := Kd.C_len h.tape.row
/-- a new block, which the builder has not -/
theorem CpQ.keepNew (h : CpQ W0 gp gf gt g gc P A N c b ops W) (o : Obj) : CpQ W0 gp gf gt g gc (fun q => P q ∧ q ≠ W.heap.size) A N c b ops (W.alloc o) := by
 have hb : Below W.heap.size W (W.alloc o) := below_alloc (Below.refl _ _) o
 have hs : (W.alloc o).heap.size = W.heap.size + 1 := by simp
 exact ⟨h.below.trans (hb.mono h.below.size), blk_below h.bp hb, blk_below h.bf hb, blk_below h.bc hb, ⟨blk_below h.tape.blk hb, Kd.C_below h.tape.row hb, h.tape.cap⟩, (h.isb.tight.mono (P' := fun q => P q ∧ q ≠ W.heap.size) (fun q hq => ⟨hq.1, by have := hq.2; omega⟩)).below hb, fun q hq => h.own q hq.1, fun q hq => ⟨h.fresh q (by omega), by omega⟩, fun hq => h.np hq.1, fun hq => h.nf hq.1, fun hq => h.nt hq.1, fun hq => h.nc hq.1, fun h0 a e hq => h.na h0 a e hq.1, h.nw⟩
/-- the builder has changed -/
theorem CpQ.built (h : CpQ W0 gp gf gt g gc P A N c b ops W) (hb : IsB W' W0.heap.size P g b') (hk : Kp P W W') : CpQ W0 gp gf gt g gc P A N c b' ops W' :=
 ⟨h.below.trans (hk.below h.own h.below.size), hk.blk h.bp h.np, hk.blk h.bf h.nf, hk.blk h.bc h.nc, ⟨hk.blk h.tape.blk h.nt, C_kp h.tape.row hk h.na, h.tape.cap⟩, hb, h.own, fun q hq => h.fresh q (Nat.le_trans hk.size hq), h.np, h.nf, h.nt, h.nc, h.na, h.nw⟩
theorem CpQ.ty (h : CpQ W0 gp gf gt g gc P A N c b ops W) : gp ≠ gt ∧ gf ≠ gt ∧ gc ≠ gt := ⟨blk_typ h.bp h.tape.blk (by decide), blk_typ h.bf h.tape.blk (by decide), blk_typ h.bc h.tape.blk (by decide)⟩
/-- the tape has changed: no new row -/
theorem CpQ.cut (h : CpQ W0 gp gf gt g gc P A N c b ops W) (hN : 0 < N) {A' : Option Addr} {N' c' : Nat} {ops' : List S70} (ht : IsT W' gt A' N' c' ops') (ha : ∀ a, A' = some a → ∃ a0, A = some a0 ∧ a.block = a0.block) (hk : Kp (fun k => k = gt) W W') : CpQ W0 gp gf gt g gc P A' N' c' b ops' W' :=
 ⟨h.below.trans (hk.below (fun q hq => by rw [hq]; exact h.nw) h.below.size), hk.blk h.bp h.ty.1, hk.blk h.bf h.ty.2.1, hk.blk h.bc h.ty.2.2, ht, h.isb.kp hk (fun q hq e => h.nt (e ▸ hq)), h.own, fun q hq => h.fresh q (Nat.le_trans hk.size hq), h.np, h.nf, h.nt, h.nc, fun _ a e hp => by
  obtain ⟨a0, e0, e1⟩ := ha a e
  rw [e1] at hp
  exact h.na hN a0 e0 hp, h.nw⟩
/-- the tape has changed: a new row -/
theorem CpQ.grew (h : CpQ W0 gp gf gt g gc P A N c b ops W) {g2 N' c' : Nat} {o : S70} {ops' : List S70} (ht : IsT W' gt (some ⟨g2, 0, none⟩) N' c' (o :: ops')) (ha : W.heap.size ≤ g2) (hk : Kp (fun k => k = gt) W W') : CpS W0 gp gf gt g gc b (o :: ops') W' := by
 have hlt : g2 < W'.heap.size := by
  obtain ⟨gr, of, e, _, h0, _, _⟩ := ht.first
  simp only [Option.some.injEq, Addr.mk.injEq] at e
  have := block_lt_of_cell h0
  rw [e.1]
  exact this
 have hs := hk.size
 have hbp := blk_lt h.bp
 have hbf := blk_lt h.bf
 have hbc := blk_lt h.bc
 have hbt := blk_lt h.tape.blk
 refine ⟨fun q => (P q ∧ q < W.heap.size) ∨ W'.heap.size ≤ q, _, _, _, h.below.trans (hk.below (fun q hq => by rw [hq]; exact h.nw) h.below.size), hk.blk h.bp h.ty.1, hk.blk h.bf h.ty.2.1, hk.blk h.bc h.ty.2.2, ht, (h.isb.tight.kp hk (fun q hq e => h.nt (e ▸ hq.1))).mono (fun q hq => .inl hq), ?_, fun q hq => .inr hq, ?_, ?_, ?_, ?_, ?_, h.nw⟩
 ·
  rintro q (hq | hq)
  ·
   exact h.own q hq.1
  ·
   exact Nat.le_trans h.below.size (Nat.le_trans hs hq)
 ·
  rintro (hq | hq)
  ·
   exact h.np hq.1
  ·
   omega
 ·
  rintro (hq | hq)
  ·
   exact h.nf hq.1
  ·
   omega
 ·
  rintro (hq | hq)
  ·
   exact h.nt hq.1
  ·
   omega
 ·
  rintro (hq | hq)
  ·
   exact h.nc hq.1
  ·
   omega
 ·
  intro _ a e
  simp only [Option.some.injEq] at e
  subst e
  rintro (hq | hq)
  ·
   have := hq.2; simp only at this; omega
  ·
   simp only at hq; omega
end

/-- take, on Compose's tape -/
theorem take_calls {W0 W : World} {gp gf gt g gc : Nat} {b : Bs} {o : S70} {ops : List S70} {n : Int} (h : CpS W0 gp gf gt g gc b (o :: ops) W) (ho : opOk o = true) (hn : 1 ≤ n) (hs : opw o ≤ 268435456) (hl : ops.length ≤ 4000000000000) :
  Calls Try.prog 84 #[.pointer (some ⟨gt, 0, none⟩), .int .i64 n] W fun e w' => e = .returned (.agg #[.int .i64 (tkO o n).f0, .int .i64 (tkO o n).f1, .string (tkO o n).f2]) ∧ CpS W0 gp gf gt g gc b (tkR o n ops) w' := by
 obtain ⟨P, A, N, c, h⟩ := h
 unfold tkO tkR
 by_cases hw : opw o ≤ n
 ·
  rw [if_pos hw, if_pos hw]
  refine (take_all W gt A N c o ops n h.tape hw).mono ?_
  rintro e w' ⟨rfl, ⟨A', N', c', q1, q2⟩, q3⟩
  exact ⟨rfl, P, A', N', c', h.cut (by have := h.reads; simp only [List.length_cons] at this; omega) q1 q2 q3⟩
 ·
  rw [if_neg hw, if_neg hw]
  by_cases h2 : o.f0 = 2
  ·
   rw [if_pos h2, if_pos h2]
   rw [opw, if_pos h2] at hw hs
   refine (take_text W gt A N c o ops n h.tape h2 (by omega) (by omega) (by omega) hl).mono ?_
   rintro e w' ⟨rfl, ⟨g2, c2, q0, q1⟩, q3⟩
   exact ⟨rfl, h.grew q1 q0 q3⟩
  ·
   rw [if_neg h2, if_neg h2]
   rw [opw, if_neg h2] at hw hs
   refine (take_num W gt A N c o ops n h.tape h2 (by omega) (by omega) (by omega) hl).mono ?_
   rintro e w' ⟨rfl, ⟨g2, c2, q0, q1⟩, q3⟩
   exact ⟨rfl, h.grew q1 q0 q3⟩

/-- what through's loop keeps -/
structure ThL (keep : Bool) (B : Bs) (R : List S70) (n : Int) (b : Bs) (ops : List S70) : Prop where
 n0 : 0 ≤ n
 n1 : n ≤ toOf ops
 n2 : n ≤ 268435456
 ok : ∀ o ∈ ops, opOk o = true
 small : ∀ o ∈ ops, opw o ≤ 268435456
 bi : ∃ m, BI b m ∧ m + opws ops ≤ 2000000000
 bs : (thr keep n ops).1.foldl Bs.step b = B
 rs : (thr keep n ops).2 = R
theorem ThL.next {keep : Bool} {B : Bs} {R : List S70} {n : Int} {b : Bs} {o : S70} {ops : List S70} (h : ThL keep B R n b (o :: ops)) (hn : 0 < n) :
  ThL keep B R (if o.f0 = 3 then n else n - ((tkO o n).f1 + ((tkO o n).f2.size : Int))) (pcB keep b (tkO o n)) (tkR o n ops) ∧ opws (tkR o n ops) < opws (o :: ops) ∧ 0 ≤ opws (tkR o n ops) := by
 have ho := h.ok o List.mem_cons_self
 have hso := h.small o List.mem_cons_self
 have hpw := opw_pos ho
 have hw := tkO_weight ho (show 1 ≤ n by omega)
 have hok := tkR_opOk (ops := ops) ho (show 1 ≤ n by omega) (fun x hx => h.ok x (List.mem_cons_of_mem _ hx))
 have hR := tkR_opws (ops := ops) ho (show 1 ≤ n by omega)
 have hst := thr_step (keep := keep) (ops := ops) (b := b) ho hn
 have hR0 := opws_nonneg (d := tkR o n ops) (fun x hx => kindOk_posN (opOk_kindOk (hok x hx)))
 have h0 := tkO_f0 o n
 have hok' := tkO_opOk ho (show 1 ≤ n by omega)
 have h1 := h.n1
 have h2 := h.n2
 rw [toOf_cons] at h1
 refine ⟨⟨?_, ?_, ?_, hok, tkR_small ho (by omega) hso (fun x hx => h.small x (List.mem_cons_of_mem _ hx)), ?_, ?_, ?_⟩, ?_, hR0⟩
 ·
  split
  ·
   omega
  ·
   rw [hw.1]; split <;> omega
 ·
  unfold tkR
  rcases opOk_cases ho with ⟨k1, k2, k3⟩ | ⟨k1, k2, k3⟩
  ·
   have hopw : opw o = o.f1 := by unfold opw; rw [if_neg (by omega)]
   by_cases c3 : o.f0 = 3
   ·
    rw [if_neg (by omega), if_pos c3] at h1
    rw [if_pos c3]
    split
    ·
     omega
    ·
     rw [if_neg (by omega), toOf_cons, if_neg (by show ¬ o.f0 = 2; omega), if_pos (by show o.f0 = 3; exact c3)]
     omega
   ·
    rw [if_neg (by omega), if_neg c3] at h1
    rw [if_neg c3, hw.1]
    split
    ·
     omega
    ·
     rw [if_neg (by omega), toOf_cons, if_neg (by show ¬ o.f0 = 2; omega), if_neg (by show ¬ o.f0 = 3; exact c3)]
     show n - n ≤ o.f1 - n + toOf ops
     omega
  ·
   have hopw : opw o = (o.f2.size : Int) := by unfold opw; rw [if_pos k1]
   rw [if_pos k1] at h1
   rw [if_neg (by omega), hw.1]
   split
   ·
    omega
   ·
    rw [toOf_cons, if_pos (by show o.f0 = 2; exact k1)]
    show n - n ≤ ((o.f2.extract n.toNat o.f2.size).size : Int) + toOf ops
    simp only [ByteArray.size_extract]
    omega
 ·
  split
  ·
   omega
  ·
   rw [hw.1]; split <;> omega
 ·
  obtain ⟨m, hm, hs⟩ := h.bi
  have hpc : BI (pcB keep b (tkO o n)) (m + ((tkO o n).f1 + ((tkO o n).f2.size : Int))) := by
   have e1 : 0 ≤ ((tkO o n).f2.size : Int) := by omega
   unfold pcB
   split
   ·
    exact (hm.dropN hw.2).mono (by omega)
   ·
    split
    ·
     cases keep
     ·
      simp only [Bool.false_eq_true, if_false]
      exact hm.mono (by omega)
     ·
      simp only [if_true]
      exact (hm.putS _).mono (by omega)
    ·
     cases keep
     ·
      simp only [Bool.false_eq_true, if_false]
      exact (hm.dropN hw.2).mono (by omega)
     ·
      simp only [if_true]
      exact (hm.keep hw.2).mono (by omega)
  refine ⟨_, hpc, ?_⟩
  rw [hw.1, hR]
  omega
 ·
  rw [← hst.1]
  exact h.bs
 ·
  rw [← hst.2]
  exact h.rs
 ·
  rw [hR]
  split <;> omega
end
end Go.Proofs.Ytidihnnkcmeaeaa.A
namespace Go.Proofs.Ytidihnnkcmeaeaa.A
open Go.RowKit Go.Proofs.YtidihnnkcmeaeaaW.PrintWords Go.Proofs.YtidihnnkcmeaeaaW.PrintLast Go.Proofs.YtidihnnkcmeaeaaW.PrintMore
set_option linter.unusedVariables false
set_option linter.unusedSimpArgs false

set_option maxHeartbeats 8000000 in
set_option maxRecDepth 100000 in
theorem through_calls (W0 w : World) (gp gf gt g gc : Nat) (keep : Bool) (n : Int) (B : Bs) (R : List S70) (b : Bs) (ops : List S70) (hcp : CpS W0 gp gf gt g gc b ops w) (hL : ThL keep B R n b ops) :
  Calls Try.prog 83 #[.int .i64 n, .bool keep, .pointer (some ⟨gf, 0, none⟩), .pointer (some ⟨gp, 0, none⟩)] w fun e w' => e = .returned (.tuple #[]) ∧ CpS W0 gp gf gt g gc B R w' := by
 have HC0 := Aside0.mk hcp
 have HL0 := Aside0.mk hL
 clear hcp hL
 go_enter Try.func83, Try.ntmps83
 go_wp2
 go_loopg [0] (opws ops).toNat (fun k v wr => ∃ (n1 : Int) (b1 : Bs) (ops1 : List S70), v = .int .i64 n1 ∧ Aside0 (CpS W0 gp gf gt g gc b1 ops1 wr) ∧ Aside0 (ThL keep B R n1 b1 ops1) ∧ Aside0 ((opws ops1).toNat ≤ k))
 case atStart => exact ⟨n, b, ops, rfl, HC0, HL0, ⟨Nat.le_refl _⟩⟩
 case round =>
  obtain ⟨n1, b1, ops1, rfl, HC, HL, HK⟩ := hrel
  have x0 := HC.out.cf
  by_cases hn : 0 < n1
  ·
   have hne : ops1 ≠ [] := by
    intro e
    have := HL.out.n1
    rw [e] at this
    simp only [toOf] at this
    omega
   obtain ⟨o, rest, rfl⟩ : ∃ o rest, ops1 = o :: rest := by
    cases ops1 with
    | nil => exact absurd rfl hne
    | cons o rest => exact ⟨o, rest, rfl⟩
   have hn1 : 1 ≤ n1 := by omega
   have hn2 : n1 ≤ 268435456 := HL.out.n2
   have HO := Aside0.mk (HL.out.ok o List.mem_cons_self)
   have HSM := Aside0.mk (HL.out.small o List.mem_cons_self)
   obtain ⟨m, hbi, hms⟩ := HL.out.bi
   have hrest := opws_ge2 (d := rest) (fun x hx => HL.out.ok x (List.mem_cons_of_mem _ hx))
   have hop := opws_nonneg (d := o :: rest) (fun x hx => kindOk_posN (opOk_kindOk (HL.out.ok x hx)))
   have HLN : Aside0 (rest.length ≤ 4000000000000) := ⟨by
    have h1 : opws (o :: rest) = opw o + opws rest := rfl
    have := opw_pos HO.out
    have := hbi.put_le
    omega⟩
   have HBI := Aside0.mk (hbi.mono (m' := 2000000000) (by omega))
   have HNX := HL.out.next hn
   have hwt := tkO_weight HO.out hn1
   have hokp := opOk_cases (tkO_opOk HO.out hn1)
   have h00 := tkO_f0 o n1
   have HT0 := Aside0.mk h00
   have hm : (opws (tkR o n1 rest)).toNat < gk := by have := HK.out; have := HNX.2.1; have := HNX.2.2; omega
   have HM := Aside0.mk hm
   have hN := HNX.1
   rw [← h00] at hN
   have hwle : (tkO o n1).f1 + ((tkO o n1).f2.size : Int) ≤ n1 := by rw [hwt.1]; split <;> omega
   have hf1 := hwt.2
   have HTC := Aside0.mk (take_calls HC.out HO.out hn1 HSM.out HLN.out)
   clear hwt h00 HT0 hm HNX hbi hms hrest hop hne
   generalize tkO o n1 = o' at *
   generalize tkR o n1 rest = ops2 at *
   have HN := Aside0.mk hN
   have hw1 : wrap64 (o'.f1 + (o'.f2.size : Int)) = o'.f1 + (o'.f2.size : Int) := by unfold wrap64; omega
   clear hN
   by_cases t3 : o'.f0 = 3
   ·
    have t3b : (o'.f0 == 3) = true := beq_iff_eq.mpr t3
    rw [if_pos t3, pcB, if_pos t3] at HN
    clear hokp t3
    go_wp2_with (first | (go_at_call 84; refine (HTC.out).mono ?_; rintro e w2 ⟨rfl, hc2⟩; have HC2 := Aside0.mk hc2; have x1 := hc2.cp; have x2 := hc2.plt; clear hc2) | (go_at_call 73; obtain ⟨P, A, N, c, hq⟩ := HC2.out; have hq := hq.keepNew (.cells #[.int .i64 o'.f0, .int .i64 o'.f1, .string o'.f2] 70); refine (onDrop_calls _ _ g _ b1 o'.f1 _ hq.isb HBI.out.drop (by have := HBI.out.drop_le; omega) (by omega) (by omega)).mono ?_; rintro e w3 ⟨rfl, hb3, hk3⟩; have HC3 := Aside0.mk (show CpS W0 gp gf gt g gc _ _ w3 from ⟨_, _, _, _, hq.built hb3 hk3⟩); have HB6 := Aside0.mk (hk3.blk (blk_new w2 (.cells #[.int .i64 o'.f0, .int .i64 o'.f1, .string o'.f2] 70)) (fun h => h.2 rfl)); clear hq hb3 hk3; have x61 : w3.cell? ⟨w2.heap.size, 1, none⟩ = some (.int .i64 o'.f1) := (blk_cell HB6.out 1).trans rfl; have x62 : w3.cell? ⟨w2.heap.size, 2, none⟩ = some (.string o'.f2) := (blk_cell HB6.out 2).trans rfl))
    go_roundg (opws ops2).toNat
    case measure => exact HM.out
    case rel => exact ⟨n1, _, _, by go_num, HC3, HN, ⟨Nat.le_refl _⟩⟩

   ·
    have t3b : (o'.f0 == 3) = false := beq_eq_false_iff_ne.mpr t3
    rw [if_neg t3, pcB, if_neg t3] at HN
    by_cases t2 : o'.f0 = 2
    ·
     have t2b : (o'.f0 == 2) = true := beq_iff_eq.mpr t2
     rw [if_pos t2] at HN
     have t1b : (o'.f0 == 1) = false := beq_eq_false_iff_ne.mpr (by omega)
     clear hokp t2 t3
     cases keep
     ·
      rw [if_neg (by decide)] at HN
      go_wp2_with (first | (go_at_call 84; refine (HTC.out).mono ?_; rintro e w2 ⟨rfl, hc2⟩; have HC2 := Aside0.mk hc2; have x1 := hc2.cp; have x2 := hc2.plt; clear hc2))
      go_roundg (opws ops2).toNat
      case measure => exact HM.out
      case rel => exact ⟨n1 - (o'.f1 + (o'.f2.size : Int)), _, _, by go_num, ⟨HC2.out.later (below_alloc (Below.refl _ _) _)⟩, HN, ⟨Nat.le_refl _⟩⟩

     ·
      rw [if_pos rfl] at HN
      go_wp2_with (first | (go_at_call 84; refine (HTC.out).mono ?_; rintro e w2 ⟨rfl, hc2⟩; have HC2 := Aside0.mk hc2; have x1 := hc2.cp; have x2 := hc2.plt; clear hc2) | (go_at_call 75; obtain ⟨P, A, N, c, hq⟩ := HC2.out; have hq := hq.keepNew (.cells #[.int .i64 o'.f0, .int .i64 o'.f1, .string o'.f2] 70); refine (onPut_calls _ _ g _ b1 _ o'.f2 hq.isb hq.below.size hq.fresh (by have := HBI.out.put_le; omega)).mono ?_; rintro e w3 ⟨rfl, hb3, hk3⟩; have HC3 := Aside0.mk (show CpS W0 gp gf gt g gc _ _ w3 from ⟨_, _, _, _, hq.built hb3 hk3⟩); have HB6 := Aside0.mk (hk3.blk (blk_new w2 (.cells #[.int .i64 o'.f0, .int .i64 o'.f1, .string o'.f2] 70)) (fun h => h.2 rfl)); clear hq hb3 hk3; have x61 : w3.cell? ⟨w2.heap.size, 1, none⟩ = some (.int .i64 o'.f1) := (blk_cell HB6.out 1).trans rfl; have x62 : w3.cell? ⟨w2.heap.size, 2, none⟩ = some (.string o'.f2) := (blk_cell HB6.out 2).trans rfl))
      go_roundg (opws ops2).toNat
      case measure => exact HM.out
      case rel => exact ⟨n1 - (o'.f1 + (o'.f2.size : Int)), _, _, by go_num, HC3, HN, ⟨Nat.le_refl _⟩⟩

    ·
     have t2b : (o'.f0 == 2) = false := beq_eq_false_iff_ne.mpr t2
     have t1 : o'.f0 = 1 := by omega
     have t1b : (o'.f0 == 1) = true := beq_iff_eq.mpr t1
     rw [if_neg t2] at HN
     clear hokp t1 t2 t3
     cases keep
     ·
      rw [if_neg (by decide)] at HN
      go_wp2_with (first | (go_at_call 84; refine (HTC.out).mono ?_; rintro e w2 ⟨rfl, hc2⟩; have HC2 := Aside0.mk hc2; have x1 := hc2.cp; have x2 := hc2.plt; clear hc2) | (go_at_call 73; obtain ⟨P, A, N, c, hq⟩ := HC2.out; have hq := hq.keepNew (.cells #[.int .i64 o'.f0, .int .i64 o'.f1, .string o'.f2] 70); refine (onDrop_calls _ _ g _ b1 o'.f1 _ hq.isb HBI.out.drop (by have := HBI.out.drop_le; omega) (by omega) (by omega)).mono ?_; rintro e w3 ⟨rfl, hb3, hk3⟩; have HC3 := Aside0.mk (show CpS W0 gp gf gt g gc _ _ w3 from ⟨_, _, _, _, hq.built hb3 hk3⟩); have HB6 := Aside0.mk (hk3.blk (blk_new w2 (.cells #[.int .i64 o'.f0, .int .i64 o'.f1, .string o'.f2] 70)) (fun h => h.2 rfl)); clear hq hb3 hk3; have x61 : w3.cell? ⟨w2.heap.size, 1, none⟩ = some (.int .i64 o'.f1) := (blk_cell HB6.out 1).trans rfl; have x62 : w3.cell? ⟨w2.heap.size, 2, none⟩ = some (.string o'.f2) := (blk_cell HB6.out 2).trans rfl))
      go_roundg (opws ops2).toNat
      case measure => exact HM.out
      case rel => exact ⟨n1 - (o'.f1 + (o'.f2.size : Int)), _, _, by go_num, HC3, HN, ⟨Nat.le_refl _⟩⟩

     ·
      rw [if_pos rfl] at HN
      go_wp2_with (first | (go_at_call 84; refine (HTC.out).mono ?_; rintro e w2 ⟨rfl, hc2⟩; have HC2 := Aside0.mk hc2; have x1 := hc2.cp; have x2 := hc2.plt; clear hc2) | (go_at_call 71; obtain ⟨P, A, N, c, hq⟩ := HC2.out; have hq := hq.keepNew (.cells #[.int .i64 o'.f0, .int .i64 o'.f1, .string o'.f2] 70); refine (onKeep_calls _ _ g _ b1 o'.f1 _ hq.isb hq.below.size hq.fresh (by have := HBI.out.len; omega) (fun hl => ⟨(HBI.out.lastN hl).1, by have := (HBI.out.lastN hl).2; omega, by have := (HBI.out.lastN hl).2; omega⟩) (by omega) (by omega)).mono ?_; rintro e w3 ⟨rfl, hb3, hk3⟩; have HC3 := Aside0.mk (show CpS W0 gp gf gt g gc _ _ w3 from ⟨_, _, _, _, hq.built hb3 hk3⟩); have HB6 := Aside0.mk (hk3.blk (blk_new w2 (.cells #[.int .i64 o'.f0, .int .i64 o'.f1, .string o'.f2] 70)) (fun h => h.2 rfl)); clear hq hb3 hk3; have x61 : w3.cell? ⟨w2.heap.size, 1, none⟩ = some (.int .i64 o'.f1) := (blk_cell HB6.out 1).trans rfl; have x62 : w3.cell? ⟨w2.heap.size, 2, none⟩ = some (.string o'.f2) := (blk_cell HB6.out 2).trans rfl))
      go_roundg (opws ops2).toNat
      case measure => exact HM.out
      case rel => exact ⟨n1 - (o'.f1 + (o'.f2.size : Int)), _, _, by go_num, HC3, HN, ⟨Nat.le_refl _⟩⟩

  ·
   have hz : n1 = 0 := by have := HL.out.n0; omega
   have hfin := Aside0.mk (show CpS W0 gp gf gt g gc B R wr from by
    have h1 := HL.out.bs
    have h2 := HL.out.rs
    rw [thr_zero _ _ _ (by omega)] at h1 h2
    simp only [List.foldl_nil] at h1
    rw [← h1, ← h2]
    exact HC.out)
   have hnb : ¬ 0 < n1 := hn
   clear hz
   go_wp2
   go_end0
   exact ⟨rfl, hfin.out⟩
end Go.Proofs.Ytidihnnkcmeaeaa.A
namespace Go.Proofs.Ytidihnnkcmeaeaa.A
open Go.RowKit Go.Proofs.YtidihnnkcmeaeaaW.PrintWords Go.Proofs.YtidihnnkcmeaeaaW.PrintLast Go.Proofs.YtidihnnkcmeaeaaW.PrintMore
set_option linter.unusedVariables false
set_option linter.unusedSimpArgs false

theorem enters85 : Go.Proofs.Enters Try.prog 85 := Go.Proofs.enters_of Try.func85 (by kernel_rfl) rfl
theorem enters86 : Go.Proofs.Enters Try.prog 86 := Go.Proofs.enters_of Try.func86 (by kernel_rfl) rfl

set_option maxHeartbeats 4000000 in
theorem cp85_calls (W0 w : World) (gp gf gt g gc : Nat) (n : Int) (s : ByteArray) (B : Bs) (R : List S70) (b : Bs) (ops : List S70) (hcp : CpS W0 gp gf gt g gc b ops w) (hL : ThL true B R n b ops) :
  Calls Try.prog 85 #[.int .i64 n, .string s, .pointer (some ⟨gc, 0, none⟩)] w fun e w' => e = .returned (.tuple #[]) ∧ CpS W0 gp gf gt g gc B R w' := by
 have c0 := hcp.cc
 have HT := Aside0.mk (through_calls W0 w gp gf gt g gc true n B R b ops hcp hL)
 clear hcp hL
 go_enter Try.func85, Try.ntmps85
 go_wp2_with (go_at_call 83; refine (HT.out).mono ?_; rintro e w1 ⟨rfl, hc1⟩; have HC1 := Aside0.mk hc1; clear hc1)
 go_end0
 exact ⟨rfl, HC1.out⟩
set_option maxHeartbeats 4000000 in
theorem cp86_calls (W0 w : World) (gp gf gt g gc : Nat) (n : Int) (s : ByteArray) (B : Bs) (R : List S70) (b : Bs) (ops : List S70) (hcp : CpS W0 gp gf gt g gc b ops w) (hL : ThL false B R n b ops) :
  Calls Try.prog 86 #[.int .i64 n, .string s, .pointer (some ⟨gc, 0, none⟩)] w fun e w' => e = .returned (.tuple #[]) ∧ CpS W0 gp gf gt g gc B R w' := by
 have c0 := hcp.cc
 have HT := Aside0.mk (through_calls W0 w gp gf gt g gc false n B R b ops hcp hL)
 clear hcp hL
 go_enter Try.func86, Try.ntmps86
 go_wp2_with (go_at_call 83; refine (HT.out).mono ?_; rintro e w1 ⟨rfl, hc1⟩; have HC1 := Aside0.mk hc1; clear hc1)
 go_end0
 exact ⟨rfl, HC1.out⟩

theorem small_of {d : List S70} (hok : ∀ o ∈ d, opOk o = true) (hf : fromOf d ≤ 268435456) (ht : toOf d ≤ 268435456) : ∀ o ∈ d, opw o ≤ 268435456 := by
 induction d with
 | nil => intro o ho; simp at ho
 | cons a d ih =>
  have hp : ∀ o ∈ d, posN o := fun o ho => kindOk_posN (opOk_kindOk (hok o (List.mem_cons_of_mem _ ho)))
  have h1 := fromOf_nonneg hp
  have h2 := toOf_nonneg hp
  rw [fromOf_cons] at hf
  rw [toOf_cons] at ht
  have ha := opOk_cases (hok a List.mem_cons_self)
  intro o ho
  rcases List.mem_cons.1 ho with rfl | ho
  ·
   unfold opw
   split
   ·
    rename_i h; rw [if_pos h] at ht; omega
   ·
    rename_i h; rw [if_neg h] at hf; omega
  ·
   refine ih (fun x hx => hok x (List.mem_cons_of_mem _ hx)) ?_ ?_ o ho
   ·
    split at hf <;> omega
   ·
    rcases ha with ⟨k1, k2, k3⟩ | ⟨k1, k2, k3⟩
    ·
     rw [if_neg (by omega)] at ht
     split at ht <;> omega
    ·
     rw [if_pos k1] at ht
     omega

theorem opw_ge_f1 {o : S70} (h : opOk o = true) : o.f1 ≤ opw o := by
 unfold opw
 rcases opOk_cases h with ⟨h1, h2, h3⟩ | ⟨h1, h2, h3⟩
 ·
  rw [if_neg (by omega)]
  exact Int.le_refl _
 ·
  rw [if_pos h1]
  omega
/-- each, with Compose's functions -/
theorem compose_each (A1 : Option Addr) (c1 : Nat) (a d : List S70) (W0 w : World) (gp gf gt g gc : Nat) (hc1 : d.length ≤ c1) (hC : Kd.C k70 W0 A1 d.length d) (ha : ∀ o ∈ a, opOk o = true) (has : ∀ o ∈ a, opw o ≤ 268435456) (haw : opws a ≤ 536870912) (hok : ∀ o ∈ d, opOk o = true) (hf : fromOf d = toOf a) (hf2 : fromOf d ≤ 268435456) (ht : toOf d ≤ 268435456)
  (hI : CpS W0 gp gf gt g gc Bs.new a w) :
  Calls Try.prog 65 #[.slice A1 d.length c1, .func (.func 85) #[] #[.pointer (some ⟨gc, 0, none⟩)], .func (.func 75) #[.pointer (some ⟨g, 0, none⟩)] #[], .func (.func 86) #[] #[.pointer (some ⟨gc, 0, none⟩)]] w fun e w' => e = .returned (.bool true) ∧ CpS W0 gp gf gt g gc (cpAt a d d.length).1 (cpAt a d d.length).2 w' := by
 have hp : ∀ o ∈ d, posN o := fun o ho => kindOk_posN (opOk_kindOk (hok o ho))
 have hw : opws d ≤ 536870912 := by have := opws_le hp; omega
 have hown : ∀ k, k < d.length → opw (rd_T70 d (k : Int)) ≤ 536870912 := fun k hk => Int.le_trans (opw_mem_le hp _ (rd_mem_at hk)) hw
 have key : ∀ k, k < d.length → (rd_T70 d (k : Int)).f0 ≠ 2 → ∀ keep : Bool, ThL keep ((thr keep (rd_T70 d (k : Int)).f1 (cpAt a d k).2).1.foldl Bs.step (cpAt a d k).1) (thr keep (rd_T70 d (k : Int)).f1 (cpAt a d k).2).2 (rd_T70 d (k : Int)).f1 (cpAt a d k).1 (cpAt a d k).2 := by
  intro k hk h2 keep
  obtain ⟨q1, q2, q3, m, q4, q5⟩ := cpAt_I ha has hok (Int.le_of_eq hf) k (by omega)
  have hn := hp _ (rd_mem_at hk) h2
  have hle := (from_take_le hp (k + 1)).1
  have hle0 := (from_take_le hp k).2
  rw [take_succ_rd hk, fromOf_append, fromOf_cons, if_neg h2] at hle
  simp only [fromOf] at hle
  have := opws_take hp k
  exact ⟨hn, by omega, by omega, q2, q3, ⟨m, q4, by omega⟩, rfl, rfl⟩
 refine each_calls 85 75 86 enters85 enters75 enters86 #[] #[.pointer (some ⟨gc, 0, none⟩)] #[.pointer (some ⟨g, 0, none⟩)] #[] #[] #[.pointer (some ⟨gc, 0, none⟩)] A1 c1 d w hc1 (fun o ho => opOk_kindOk (hok o ho))
  (fun k W => CpS W0 gp gf gt g gc (cpAt a d k).1 (cpAt a d k).2 W) hI (fun k W h => by obtain ⟨P, A, N, c, h⟩ := h; exact Kd.C_below hC h.below)
  (fun k W W' h hb => h.later hb)
  (fun k W hk h h1 => by
   refine (cp85_calls W0 W gp gf gt g gc _ _ _ _ _ _ h (key k hk (by omega) true)).mono ?_
   rintro e w' ⟨rfl, q1⟩
   refine ⟨rfl, ?_⟩
   rw [cpAt_succ hk, cpStep, if_neg (by omega), h1]
   exact q1)
  (fun k W hk h h1 => by
   obtain ⟨P, A, N, c, h⟩ := h
   obtain ⟨q1, q2, q3, m, q4, q5⟩ := cpAt_I ha has hok (Int.le_of_eq hf) k (by omega)
   have ho := hown k hk
   rw [opw, if_pos h1] at ho
   have hop := opws_nonneg (d := (cpAt a d k).2) (fun x hx => kindOk_posN (opOk_kindOk (q2 x hx)))
   have := opws_take hp k
   refine (onPut_calls W W0.heap.size g P (cpAt a d k).1 _ _ h.isb h.below.size h.fresh (by have := q4.put_le; omega)).mono ?_
   rintro e w' ⟨rfl, q6, q7⟩
   refine ⟨rfl, ?_⟩
   rw [cpAt_succ hk, cpStep, if_pos h1]
   exact ⟨_, _, _, _, h.built q6 q7⟩)
  (fun k W hk h h1 => by
   refine (cp86_calls W0 W gp gf gt g gc _ _ _ _ _ _ h (key k hk (by omega) false)).mono ?_
   rintro e w' ⟨rfl, q1⟩
   refine ⟨rfl, ?_⟩
   rw [cpAt_succ hk, cpStep, if_neg (by omega), h1]
   exact q1)

/-- where they begin -/
theorem cp_start (W0 w : World) (A0 : Option Addr) (N0 c0 : Nat) (a : List S70) (hB : Below W0.heap.size W0 w) (hC : Kd.C k70 W0 A0 N0 a) (hc : N0 ≤ c0) :
  CpS W0 (w.heap.size + 1 + 1) (w.heap.size + 1 + 1 + 1) (w.heap.size + 1) w.heap.size (w.heap.size + 1 + 1 + 1 + 1) Bs.new a (((((w.alloc (.cells #[.slice none 0 0, .int .i64 0, .slice none 0 0, .int .i64 0] 99)).alloc (.cells #[.slice A0 N0 c0] 106)).alloc (.cells #[.pointer (some ⟨w.heap.size, 0, none⟩)] 97)).alloc (.cells #[.pointer (some ⟨w.heap.size + 1, 0, none⟩)] 104)).alloc (.cells #[(.func (.func 83) #[] #[.pointer (some ⟨w.heap.size + 1 + 1 + 1, 0, none⟩), .pointer (some ⟨w.heap.size + 1 + 1, 0, none⟩)])] 107)) := by
 have hs := hB.size
 have b1 := blk_new w (.cells #[.slice none 0 0, .int .i64 0, .slice none 0 0, .int .i64 0] 99)
 have b2 := blk_new (w.alloc (.cells #[.slice none 0 0, .int .i64 0, .slice none 0 0, .int .i64 0] 99)) (.cells #[.slice A0 N0 c0] 106)
 have b3 := blk_new ((w.alloc (.cells #[.slice none 0 0, .int .i64 0, .slice none 0 0, .int .i64 0] 99)).alloc (.cells #[.slice A0 N0 c0] 106)) (.cells #[.pointer (some ⟨w.heap.size, 0, none⟩)] 97)
 have b4 := blk_new (((w.alloc (.cells #[.slice none 0 0, .int .i64 0, .slice none 0 0, .int .i64 0] 99)).alloc (.cells #[.slice A0 N0 c0] 106)).alloc (.cells #[.pointer (some ⟨w.heap.size, 0, none⟩)] 97)) (.cells #[.pointer (some ⟨w.heap.size + 1, 0, none⟩)] 104)
 have b5 := blk_new ((((w.alloc (.cells #[.slice none 0 0, .int .i64 0, .slice none 0 0, .int .i64 0] 99)).alloc (.cells #[.slice A0 N0 c0] 106)).alloc (.cells #[.pointer (some ⟨w.heap.size, 0, none⟩)] 97)).alloc (.cells #[.pointer (some ⟨w.heap.size + 1, 0, none⟩)] 104)) (.cells #[(.func (.func 83) #[] #[.pointer (some ⟨w.heap.size + 1 + 1 + 1, 0, none⟩), .pointer (some ⟨w.heap.size + 1 + 1, 0, none⟩)])] 107)
 have s1 : (w.alloc (.cells #[.slice none 0 0, .int .i64 0, .slice none 0 0, .int .i64 0] 99)).heap.size = w.heap.size + 1 := by simp
 have s2 : ((w.alloc (.cells #[.slice none 0 0, .int .i64 0, .slice none 0 0, .int .i64 0] 99)).alloc (.cells #[.slice A0 N0 c0] 106)).heap.size = w.heap.size + 1 + 1 := by simp
 have s3 : (((w.alloc (.cells #[.slice none 0 0, .int .i64 0, .slice none 0 0, .int .i64 0] 99)).alloc (.cells #[.slice A0 N0 c0] 106)).alloc (.cells #[.pointer (some ⟨w.heap.size, 0, none⟩)] 97)).heap.size = w.heap.size + 1 + 1 + 1 := by simp
 have s4 : ((((w.alloc (.cells #[.slice none 0 0, .int .i64 0, .slice none 0 0, .int .i64 0] 99)).alloc (.cells #[.slice A0 N0 c0] 106)).alloc (.cells #[.pointer (some ⟨w.heap.size, 0, none⟩)] 97)).alloc (.cells #[.pointer (some ⟨w.heap.size + 1, 0, none⟩)] 104)).heap.size = w.heap.size + 1 + 1 + 1 + 1 := by simp
 have s5 : (((((w.alloc (.cells #[.slice none 0 0, .int .i64 0, .slice none 0 0, .int .i64 0] 99)).alloc (.cells #[.slice A0 N0 c0] 106)).alloc (.cells #[.pointer (some ⟨w.heap.size, 0, none⟩)] 97)).alloc (.cells #[.pointer (some ⟨w.heap.size + 1, 0, none⟩)] 104)).alloc (.cells #[(.func (.func 83) #[] #[.pointer (some ⟨w.heap.size + 1 + 1 + 1, 0, none⟩), .pointer (some ⟨w.heap.size + 1 + 1, 0, none⟩)])] 107)).heap.size = w.heap.size + 1 + 1 + 1 + 1 + 1 := by simp
 rw [s1] at b2
 rw [s2] at b3
 rw [s3] at b4
 rw [s4] at b5
 have hB6 : Below W0.heap.size W0 (((((w.alloc (.cells #[.slice none 0 0, .int .i64 0, .slice none 0 0, .int .i64 0] 99)).alloc (.cells #[.slice A0 N0 c0] 106)).alloc (.cells #[.pointer (some ⟨w.heap.size, 0, none⟩)] 97)).alloc (.cells #[.pointer (some ⟨w.heap.size + 1, 0, none⟩)] 104)).alloc (.cells #[(.func (.func 83) #[] #[.pointer (some ⟨w.heap.size + 1 + 1 + 1, 0, none⟩), .pointer (some ⟨w.heap.size + 1 + 1, 0, none⟩)])] 107)) := below_alloc (below_alloc (below_alloc (below_alloc (below_alloc hB _) _) _) _) _
 refine ⟨fun q => W0.heap.size ≤ q ∧ q ≠ w.heap.size + 1 + 1 ∧ q ≠ w.heap.size + 1 + 1 + 1 ∧ q ≠ w.heap.size + 1 ∧ q ≠ w.heap.size + 1 + 1 + 1 + 1, A0, N0, c0, hB6, blk_alloc (blk_alloc b3 _) _, blk_alloc b4 _, b5, ⟨blk_alloc (blk_alloc (blk_alloc b2 _) _) _, Kd.C_below hC hB6, hc⟩, ⟨⟨hs, by omega, by omega, by omega, by omega⟩, _, _, blk_alloc (blk_alloc (blk_alloc (blk_alloc b1 _) _) _) _, Kd.R_nil _ _ _ _ _, Kd.R_nil _ _ _ _ _⟩, fun q hq => hq.1, ?_, fun h => h.2.1 rfl, fun h => h.2.2.1 rfl, fun h => h.2.2.2.1 rfl, fun h => h.2.2.2.2 rfl, ?_, by omega⟩
 ·
  intro q hq
  rw [s5] at hq
  exact ⟨by omega, by omega, by omega, by omega, by omega⟩
 ·
  intro h0 x e hx
  obtain ⟨ad, e1, h1, _, _⟩ := at_T70 hC 0 (by omega) (by omega)
  rw [e] at e1
  simp only [Option.some.injEq] at e1
  subst e1
  have hlt := block_lt_of_cell h1
  have hb : (x.add ((0 : Int).toNat * 3)).block = x.block := by unfold Addr.add; split <;> rfl
  rw [hb] at hlt
  have := hx.1
  omega

set_option maxHeartbeats 8000000 in
set_option maxRecDepth 100000 in
theorem delta_Compose.calls (A0 : Option Addr) (c0 : Nat) (l0 : List (S70)) (A1 : Option Addr) (c1 : Nat) (l1 : List (S70)) (r1 : List S70) (r2 : Int) (w : World) (hr0 : Kd.C k70 w A0 l0.length l0) (hc0 : l0.length ≤ c0) (hr1 : Kd.C k70 w A1 l1.length l1) (hc1 : l1.length ≤ c1) (h : delta_Compose.f l0 l1 = some (r1, r2)) :
  Calls Try.prog 42 #[.slice A0 l0.length c0, .slice A1 l1.length c1] w fun e w' => ∃ v0_ : Value, e = .returned (.tuple #[v0_, .int .i64 r2]) ∧ Kd.R k70 70 w' w.heap.size (fun _ => True) v0_ r1 ∧ Below w.heap.size w w' := by
 have HR0 := Aside0.mk hr0
 have HC0 := Aside0.mk hc0
 have HR1 := Aside0.mk hr1
 have HC1 := Aside0.mk hc1
 have hlen0 : l0.length ≤ 9223372036854775807 := Kd.C_max hr0
 have hlen1 : l1.length ≤ 9223372036854775807 := Kd.C_max hr1
 obtain ⟨ka, hka⟩ := (valid_ev l0 hlen0).rounds
 obtain ⟨kb, hkb⟩ := (valid_ev l1 hlen1).rounds
 have HVA := Aside0.mk hka
 have HVB := Aside0.mk hkb
 simp only [delta_Compose.f, Option.some.injEq] at h
 clear hr0 hc0 hr1 hc1 hka hkb
 by_cases hca : canB l0 = true
 ·
  rw [hca] at HVA
  by_cases hcb : canB l1 = true
  ·
   rw [hcb] at HVB
   rw [if_pos (by rw [hca, hcb]; rfl)] at h
   obtain ⟨la, hla⟩ := (lens_can hlen0 hca).rounds
   obtain ⟨lb, hlb⟩ := (lens_can hlen1 hcb).rounds
   have HLA := Aside0.mk hla
   have HLB := Aside0.mk hlb
   have HOA := Aside0.mk (chainOk_opOk (canB_lens hca).1)
   have HOB := Aside0.mk (chainOk_opOk (canB_lens hcb).1)
   have HA := Aside0.mk (canB_lens hca).2
   have HB := Aside0.mk (canB_lens hcb).2
   clear hla hlb hca hcb
   by_cases hfit : fromOf l1 = toOf l0
   ·
    rw [if_pos hfit] at h
    simp only [Prod.mk.injEq] at h
    obtain ⟨rfl, rfl⟩ := h
    have HFIT := Aside0.mk hfit
    have hne : (fromOf l1 != toOf l0) = false := bne_eq_false_iff_eq.mpr hfit
    have HAW := Aside0.mk (show opws l0 ≤ 536870912 by have := opws_le (fun o ho => kindOk_posN (opOk_kindOk (HOA.out o ho))); have := HA.out; omega)
    have HCPI := Aside0.mk (cpAt_I HOA.out (small_of HOA.out HA.out.1 HA.out.2) HOB.out (Int.le_of_eq hfit) l1.length (Nat.le_refl _))
    have hfold := cp_fold l1 (Bs.new, l0)
    have HFIN := Aside0.mk (show ((leftOps (cpAt l0 l1 l1.length).2).foldl Bs.step (cpAt l0 l1 l1.length).1).done = canon (compOps l0 l1) from by
     unfold cpAt canon
     rw [List.take_length, hfold])
    have HBD := Aside0.mk (show ∃ m, BI (cpAt l0 l1 l1.length).1 m ∧ m + opws (cpAt l0 l1 l1.length).2 ≤ 2000000000 from by
     obtain ⟨m, q4, q5⟩ := HCPI.out.sum
     have h1 := opws_le (fun o ho => kindOk_posN (opOk_kindOk (HOB.out o ho)))
     rw [List.take_length] at q5
     have := HAW.out
     have := HB.out
     exact ⟨m, q4, by omega⟩)
    clear hfit hfold
    go_enter Try.func42, Try.ntmps42
    go_wp2_with (first
     | (go_at_call 35; have hm_ := HM1.out; refine (delta_Valid.calls kb _ _ l1 _ _ (Kd.C_below HR1.out HB2.out) HC1.out HVB.out).mono ?_; rintro e w2 ⟨rfl, hb2⟩; have HB2 := Aside0.mk (HB2.out.trans (hb2.mono HB2.out.size)); clear hb2 hm_)
     | (go_at_call 35; refine (delta_Valid.calls ka _ _ l0 _ _ HR0.out HC0.out HVA.out).mono ?_; rintro e w2 ⟨rfl, hb2⟩; have HB2 := Aside0.mk hb2; have HM1 := Aside0.mk True.intro; clear hb2)
     | (go_at_call 64; have hm_ := HM2.out; refine (delta_lens.calls lb _ _ l1 _ _ _ _ (Kd.C_below HR1.out HB2.out) HC1.out HLB.out).mono ?_; rintro e w2 ⟨rfl, hb2⟩; have HB2 := Aside0.mk (HB2.out.trans (hb2.mono HB2.out.size)); clear hb2 hm_)
     | (go_at_call 64; refine (delta_lens.calls la _ _ l0 _ _ _ _ (Kd.C_below HR0.out HB2.out) HC0.out HLA.out).mono ?_; rintro e w2 ⟨rfl, hb2⟩; have HB2 := Aside0.mk (HB2.out.trans (hb2.mono HB2.out.size)); have HM2 := Aside0.mk True.intro; clear hb2)
     | (go_at_call 65; (refine (compose_each A1 c1 l0 l1 w _ (w2.heap.size + 1 + 1) (w2.heap.size + 1 + 1 + 1) (w2.heap.size + 1) w2.heap.size (w2.heap.size + 1 + 1 + 1 + 1) HC1.out HR1.out HOA.out (small_of HOA.out HA.out.1 HA.out.2) HAW.out HOB.out HFIT.out HB.out.1 HB.out.2 (cp_start w w2 A0 l0.length c0 l0 HB2.out HR0.out HC0.out)).mono ?_; rintro e w4 ⟨rfl, hc4⟩; have HC4 := Aside0.mk hc4; clear hc4)))
    clear hne
    go_loopg [] (cpAt l0 l1 l1.length).2.length (fun k wr => ∃ (b1 : Bs) (ops1 : List S70), Aside0 (CpS w (w2.heap.size + 1 + 1) (w2.heap.size + 1 + 1 + 1) (w2.heap.size + 1) w2.heap.size (w2.heap.size + 1 + 1 + 1 + 1) b1 ops1 wr) ∧ Aside0 (∀ o ∈ ops1, opOk o = true) ∧ Aside0 (∀ o ∈ ops1, opw o ≤ 268435456) ∧ Aside0 (∃ m, BI b1 m ∧ m + opws ops1 ≤ 2000000000) ∧ Aside0 (((leftOps ops1).foldl Bs.step b1).done = canon (compOps l0 l1)) ∧ Aside0 (ops1.length ≤ k))
    case atStart => exact ⟨_, _, HC4, ⟨HCPI.out.ok⟩, ⟨HCPI.out.small⟩, HBD, HFIN, ⟨Nat.le_refl _⟩⟩
    case round =>
     obtain ⟨b1, ops1, HC, HOK1, HSM1, HBD1, HFIN1, HK1⟩ := hrel
     have x0 := HC.out.cf
     obtain ⟨P, A, N, c, hq⟩ := HC.out
     have x1 : wr.cell? ⟨w2.heap.size + 1, 0, none⟩ = some (.slice A ops1.length c) := by rw [hq.reads]; exact (blk_cell hq.tape.blk 0).trans rfl
     clear hq
     cases ops1 with
     | nil =>
      have hfin := Aside0.mk (show b1.done = canon (compOps l0 l1) from HFIN1.out)
      have x2 := HC.out.cp
      have HCB := Aside0.mk HC.out
      go_wp2_with (go_at_call 76; obtain ⟨P1, A1', N1, c1', hq⟩ := HC.out; refine (done_calls _ w.heap.size _ P1 b1 hq.isb hq.below.size hq.fresh (by obtain ⟨m, h1, h2⟩ := HBD1.out; have := h1.len; simp only [opws] at h2; omega)).mono ?_; rintro e w5 ⟨v5, rfl, ho5, hk5⟩; have HO5 := Aside0.mk ho5; have HB5 := Aside0.mk (hq.below.trans (hk5.below hq.own hq.below.size)); clear ho5 hk5 hq)
      go_ret2
      refine ⟨_, rfl, ?_, HB5.out⟩
      rw [← hfin.out]
      exact Kd.R_mono HO5.out (fun _ _ => trivial)
     | cons o rest =>
      have hpos : (0 : Int) < ((rest.length + 1 : Nat) : Int) := by omega
      have x2 := HC.out.cp
      have HO := Aside0.mk (HOK1.out o List.mem_cons_self)
      have HSO := Aside0.mk (HSM1.out o List.mem_cons_self)
      obtain ⟨m, hbi, hms⟩ := HBD1.out
      have hrest := opws_ge2 (d := rest) (fun x hx => HOK1.out x (List.mem_cons_of_mem _ hx))
      have hop := opws_nonneg (d := o :: rest) (fun x hx => kindOk_posN (opOk_kindOk (HOK1.out x hx)))
      have hcons : opws (o :: rest) = opw o + opws rest := rfl
      have hpw := opw_pos HO.out
      have hmx := hbi.put_le
      have HTC := Aside0.mk (take_calls (HC.out.later (show Below wr.heap.size wr wr.drew from (Below.refl _ _).drew)) HO.out (show (1 : Int) ≤ 268435456 by decide) HSO.out (by omega))
      have hT1 : tkO o 268435456 = o := by unfold tkO; rw [if_pos HSO.out]
      have hT2 : tkR o 268435456 rest = rest := by unfold tkR; rw [if_pos HSO.out]
      rw [hT1, hT2] at HTC
      have HBI1 := Aside0.mk (hbi.mono (m' := 2000000000) (by omega))
      have hf1 : 0 ≤ o.f1 ∧ o.f1 ≤ 268435456 := by
       rcases opOk_cases HO.out with ⟨h1, h2, h3⟩ | ⟨h1, h2, h3⟩
       ·
        have := HSO.out; unfold opw at this; rw [if_neg (by omega)] at this; omega
       ·
        omega
      have HF1 := Aside0.mk hf1
      have HN1 : Aside0 (∃ m, BI (b1.onDrop o.f1) m ∧ m + opws rest ≤ 2000000000) := ⟨by
       have := opw_ge_f1 HO.out
       exact ⟨_, hbi.dropN hf1.1, by omega⟩⟩
      have HFN : Aside0 (((leftOps rest).foldl Bs.step (b1.onDrop o.f1)).done = canon (compOps l0 l1)) := ⟨by
       have := HFIN1.out
       simp only [leftOps, List.map_cons, List.foldl_cons, step_drop] at this
       exact this⟩
      clear hbi hms hrest hop hcons hpw hmx hT1 hT2 hf1
      have hu70 := Try.underlying70
      have hfld : ∀ W : World, (Instr.field 70 (.agg #[.int .i64 o.f0, .int .i64 o.f1, .string o.f2]) 1).run Try.prog W = .ok (.int .i64 o.f1) W := by intro W; simp [Instr.field, run_underlying Try.underlying70]; rfl
      go_wp2
      refine start_ (n := 5) (S := fun w' => w'.cell? ⟨w2.heap.size + 1 + 1, 0, none⟩ = some (.pointer (some ⟨w2.heap.size, 0, none⟩)) ∧ w'.cell? ⟨w2.heap.size + 1 + 1 + 1, 0, none⟩ = some (.pointer (some ⟨w2.heap.size + 1, 0, none⟩))) (ds := [4]) #[false, false, false, false, false] (by kernel_rfl) rfl rfl ⟨x2, x0⟩ (fun hHeld => ?_)
      refine take_ (i := 0) (N := some 56) (v := ?_) (a' := ?_) #[true, false, false, false, false] rfl rfl (by kernel_rfl) (fun _ _ _ h => h) (Or.inl ⟨by rfl, ?_⟩) hHeld ?_ ?_
      rotate_left
      ·
       rintro w' ⟨s0, s1⟩
       go_simp
       with_reducible rfl
      rotate_left
      ·
       simp only [Act.put, List.setIfInBounds_toArray, List.set_cons_zero, List.set_cons_succ, i64_w, i32_w]
       rfl
      refine take_ (i := 1) (N := some 57) (v := ?_) (a' := ?_) #[true, true, false, false, false] rfl rfl (by kernel_rfl) (fun _ _ _ h => h) (Or.inl ⟨by rfl, ?_⟩) hHeld ?_ ?_
      rotate_left
      ·
       rintro w' ⟨s0, s1⟩
       go_simp
       with_reducible rfl
      rotate_left
      ·
       simp only [Act.put, List.setIfInBounds_toArray, List.set_cons_zero, List.set_cons_succ, i64_w, i32_w]
       rfl
      refine one_ (i := 2) (N := some 58) #[true, true, true, false, false] rfl rfl (by kernel_rfl) (by decide) (fun K hK => ?_)
      refine goes_ Try.func84 (by kernel_rfl) rfl #[.pointer (some ⟨w2.heap.size + 1, 0, none⟩), .int .i64 268435456] (by rfl) rfl rfl (by simp only [List.map_toArray, List.map_cons, List.map_nil]; rfl) ?_
      with_reducible refine (HTC.out).mono ?_
      rintro e w3 ⟨rfl, hc3⟩
      refine ⟨_, rfl, ?_⟩
      have HC3 := Aside0.mk hc3
      clear hc3
      refine hK.out _ _ ⟨HC3.out.cp, HC3.out.cf⟩ (fun hHeld => ?_)
      clear hK K
      refine norm_ (a' := ?_) ?_ ?_
      rotate_left
      ·
       show Act.put _ (some 58) _ = _
       simp only [Act.put, List.setIfInBounds_toArray, List.set_cons_zero, List.set_cons_succ, i64_w, i32_w]
       rfl
      refine pure_ (i := 3) (N := some 59) (v := ?_) (a' := ?_) #[true, true, true, true, false] rfl rfl (by kernel_rfl) (fun _ _ _ h => h) (Or.inl ⟨by rfl, ?_⟩) ?_ ?_
      rotate_left
      ·
       intro w'
       go_simp
       with_reducible rfl
      rotate_left
      ·
       simp only [Act.put, List.setIfInBounds_toArray, List.set_cons_zero, List.set_cons_succ, i64_w, i32_w]
       rfl
      refine last_ (i := 4) (N := some 60) #[true, true, true, true, true] rfl rfl (by kernel_rfl) (by decide) (fun K hK => ?_)
      obtain ⟨P3, A3, N3, c3, hq3⟩ := HC3.out
      refine goes_ Try.func73 (by kernel_rfl) rfl #[.pointer (some ⟨w2.heap.size, 0, none⟩), .int .i64 o.f1, .string ⟨#[]⟩] (by rfl) rfl rfl (by simp only [List.map_toArray, List.map_cons, List.map_nil]; rfl) ?_
      with_reducible refine (onDrop_calls _ w.heap.size w2.heap.size P3 b1 o.f1 _ hq3.isb HBI1.out.drop (by have := HBI1.out.drop_le; omega) (by have := HF1.out; omega) (by have := HF1.out; omega)).mono ?_
      rintro e w5 ⟨rfl, hb5, hk5⟩
      refine ⟨_, rfl, ?_⟩
      have HC5 := Aside0.mk (show CpS w (w2.heap.size + 1 + 1) (w2.heap.size + 1 + 1 + 1) (w2.heap.size + 1) w2.heap.size (w2.heap.size + 1 + 1 + 1 + 1) (b1.onDrop o.f1) rest w5 from ⟨_, _, _, _, hq3.built hb5 hk5⟩)
      clear hb5 hk5 hq3
      refine hK.out _ _ ?_
      clear hK K
      refine norm_ (a' := ?_) ?_ ?_
      rotate_left
      ·
       show Act.put _ (some 60) _ = _
       simp only [Act.put, List.setIfInBounds_toArray, List.set_cons_zero, List.set_cons_succ, i64_w, i32_w]
       rfl
      refine done_ (by kernel_rfl) ?_
      go_wp2
      go_roundg rest.length
      case measure => have := HK1.out; simp only [List.length_cons] at this; omega
      case rel => exact ⟨_, _, HC5, ⟨fun x hx => HOK1.out x (List.mem_cons_of_mem _ hx)⟩, ⟨fun x hx => HSM1.out x (List.mem_cons_of_mem _ hx)⟩, HN1, HFN, ⟨Nat.le_refl _⟩⟩
   ·
    rw [if_neg hfit] at h
    simp only [Prod.mk.injEq] at h
    obtain ⟨rfl, rfl⟩ := h
    have hne : (fromOf l1 != toOf l0) = true := bne_iff_ne.mpr hfit
    clear hfit
    go_enter Try.func42, Try.ntmps42
    go_wp2_with (first
     | (go_at_call 35; have hm_ := HM1.out; refine (delta_Valid.calls kb _ _ l1 _ _ (Kd.C_below HR1.out HB2.out) HC1.out HVB.out).mono ?_; rintro e w2 ⟨rfl, hb2⟩; have HB2 := Aside0.mk (HB2.out.trans (hb2.mono HB2.out.size)); clear hb2 hm_)
     | (go_at_call 35; refine (delta_Valid.calls ka _ _ l0 _ _ HR0.out HC0.out HVA.out).mono ?_; rintro e w2 ⟨rfl, hb2⟩; have HB2 := Aside0.mk hb2; have HM1 := Aside0.mk True.intro; clear hb2)
     | (go_at_call 64; have hm_ := HM2.out; refine (delta_lens.calls lb _ _ l1 _ _ _ _ (Kd.C_below HR1.out HB2.out) HC1.out HLB.out).mono ?_; rintro e w2 ⟨rfl, hb2⟩; have HB2 := Aside0.mk (HB2.out.trans (hb2.mono HB2.out.size)); clear hb2 hm_)
     | (go_at_call 64; refine (delta_lens.calls la _ _ l0 _ _ _ _ (Kd.C_below HR0.out HB2.out) HC0.out HLA.out).mono ?_; rintro e w2 ⟨rfl, hb2⟩; have HB2 := Aside0.mk (HB2.out.trans (hb2.mono HB2.out.size)); have HM2 := Aside0.mk True.intro; clear hb2))
    go_ret2
    exact ⟨_, rfl, Kd.R_nil _ _ _ _ _, HB2.out⟩
  ·
   rw [if_neg (by intro e; rw [Bool.and_eq_true] at e; exact hcb e.2)] at h
   simp only [Prod.mk.injEq] at h
   obtain ⟨rfl, rfl⟩ := h
   simp only [Bool.not_eq_true] at hcb
   rw [hcb] at HVB
   clear hca hcb
   go_enter Try.func42, Try.ntmps42
   go_wp2_with (first
     | (go_at_call 35; have hm_ := HM1.out; refine (delta_Valid.calls kb _ _ l1 _ _ (Kd.C_below HR1.out HB2.out) HC1.out HVB.out).mono ?_; rintro e w2 ⟨rfl, hb2⟩; have HB2 := Aside0.mk (HB2.out.trans (hb2.mono HB2.out.size)); clear hb2 hm_)
     | (go_at_call 35; refine (delta_Valid.calls ka _ _ l0 _ _ HR0.out HC0.out HVA.out).mono ?_; rintro e w2 ⟨rfl, hb2⟩; have HB2 := Aside0.mk hb2; have HM1 := Aside0.mk True.intro; clear hb2)
     | (go_at_call 64; have hm_ := HM2.out; refine (delta_lens.calls lb _ _ l1 _ _ _ _ (Kd.C_below HR1.out HB2.out) HC1.out HLB.out).mono ?_; rintro e w2 ⟨rfl, hb2⟩; have HB2 := Aside0.mk (HB2.out.trans (hb2.mono HB2.out.size)); clear hb2 hm_)
     | (go_at_call 64; refine (delta_lens.calls la _ _ l0 _ _ _ _ (Kd.C_below HR0.out HB2.out) HC0.out HLA.out).mono ?_; rintro e w2 ⟨rfl, hb2⟩; have HB2 := Aside0.mk (HB2.out.trans (hb2.mono HB2.out.size)); have HM2 := Aside0.mk True.intro; clear hb2))
   go_ret2
   exact ⟨_, rfl, Kd.R_nil _ _ _ _ _, HB2.out⟩
 ·
  rw [if_neg (by intro e; rw [Bool.and_eq_true] at e; exact hca e.1)] at h
  simp only [Prod.mk.injEq] at h
  obtain ⟨rfl, rfl⟩ := h
  simp only [Bool.not_eq_true] at hca
  rw [hca] at HVA
  clear hca
  go_enter Try.func42, Try.ntmps42
  go_wp2_with (first
     | (go_at_call 35; have hm_ := HM1.out; refine (delta_Valid.calls kb _ _ l1 _ _ (Kd.C_below HR1.out HB2.out) HC1.out HVB.out).mono ?_; rintro e w2 ⟨rfl, hb2⟩; have HB2 := Aside0.mk (HB2.out.trans (hb2.mono HB2.out.size)); clear hb2 hm_)
     | (go_at_call 35; refine (delta_Valid.calls ka _ _ l0 _ _ HR0.out HC0.out HVA.out).mono ?_; rintro e w2 ⟨rfl, hb2⟩; have HB2 := Aside0.mk hb2; have HM1 := Aside0.mk True.intro; clear hb2)
     | (go_at_call 64; have hm_ := HM2.out; refine (delta_lens.calls lb _ _ l1 _ _ _ _ (Kd.C_below HR1.out HB2.out) HC1.out HLB.out).mono ?_; rintro e w2 ⟨rfl, hb2⟩; have HB2 := Aside0.mk (HB2.out.trans (hb2.mono HB2.out.size)); clear hb2 hm_)
     | (go_at_call 64; refine (delta_lens.calls la _ _ l0 _ _ _ _ (Kd.C_below HR0.out HB2.out) HC0.out HLA.out).mono ?_; rintro e w2 ⟨rfl, hb2⟩; have HB2 := Aside0.mk (HB2.out.trans (hb2.mono HB2.out.size)); have HM2 := Aside0.mk True.intro; clear hb2))
  go_ret2
  exact ⟨_, rfl, Kd.R_nil _ _ _ _ _, HB2.out⟩
end Go.Proofs.Ytidihnnkcmeaeaa.A
