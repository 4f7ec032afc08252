/- delta.Invert's three closures: what each does to the builder and to the bytes that are left. No condition but bounds on the builder. delta.Apply: what it answers. No condition but that the lists can be read. Canonical operations, told apart. Plain lists. No condition. Two neighbours of a canonical delta. Plain lists. No condition. -/
import Derived.Test.YtidihnnkcmeaeaaM
import Derived.Test.YtidihnnkcmeaeaaA4
namespace Go.Proofs.Ytidihnnkcmeaeaa.A
open Go.RowKit Go.Proofs.YtidihnnkcmeaeaaW.PrintWords Go.Proofs.YtidihnnkcmeaeaaW.PrintLast Go.Proofs.YtidihnnkcmeaeaaW.PrintMore
set_option linter.unusedVariables false
set_option linter.unusedSimpArgs false
theorem IsB.drew {w : World} {base : Nat} {P : Nat → Prop} {g : Nat} {b : Bs} (h : IsB w base P g b) : IsB w.drew base P g b := h.below ((Below.refl _ _).drew)
end Go.Proofs.Ytidihnnkcmeaeaa.A
namespace Go.Proofs.Ytidihnnkcmeaeaa.A
open Go.RowKit Go.Proofs.YtidihnnkcmeaeaaW.PrintWords Go.Proofs.YtidihnnkcmeaeaaW.PrintLast Go.Proofs.YtidihnnkcmeaeaaW.PrintMore
set_option linter.unusedVariables false
set_option linter.unusedSimpArgs false
theorem fromOf_append (a b : List S70) : fromOf (a ++ b) = fromOf a + fromOf b := by
 induction a with
 | nil => simp [fromOf]
 | cons o a ih => rw [List.cons_append, fromOf_cons, fromOf_cons, ih]; omega
theorem toOf_append (a b : List S70) : toOf (a ++ b) = toOf a + toOf b := by
 induction a with
 | nil => simp [toOf]
 | cons o a ih => rw [List.cons_append, toOf_cons, toOf_cons, ih]; omega
theorem opOk_kindOk {o : S70} (h : opOk o = true) : kindOk o = true := by
 simp only [opOk, Bool.or_eq_true, Bool.and_eq_true, beq_iff_eq, decide_eq_true_eq, bne_iff_ne] at h
 simp only [kindOk, Bool.and_eq_true, decide_eq_true_eq, Bool.or_eq_true, beq_iff_eq]
 omega
theorem chainP_opOk : ∀ {p : Option S70} {d : List S70}, chainP p d = true → ∀ o ∈ d, opOk o = true
 | _, [], _, o, ho => by simp at ho
 | p, a :: d, h, o, ho => by
  simp only [chainP, Bool.and_eq_true] at h
  rcases List.mem_cons.1 ho with rfl | ho
  ·
   exact h.1.1
  ·
   exact chainP_opOk h.2 o ho
theorem chainOk_opOk {d : List S70} (h : chainOk d = true) : ∀ o ∈ d, opOk o = true := chainP_opOk (by rw [chainP_none]; exact h)
theorem take_succ_rd {d : List S70} {k : Nat} (h : k < d.length) : d.take (k + 1) = d.take k ++ [rd_T70 d (k : Int)] := by
 unfold rd_T70
 rw [Int.toNat_natCast, List.take_succ_eq_append_getElem h, List.getD_eq_getElem?_getD, List.getElem?_eq_getElem h]
 rfl
theorem from_take_le {d : List S70} (hp : ∀ o ∈ d, posN o) (k : Nat) : fromOf (d.take k) ≤ fromOf d ∧ 0 ≤ fromOf (d.take k) := by
 have h := fromOf_append (d.take k) (d.drop k)
 rw [List.take_append_drop] at h
 have := fromOf_nonneg (d := d.drop k) (fun o ho => hp o (List.mem_of_mem_drop ho))
 have := fromOf_nonneg (d := d.take k) (fun o ho => hp o (List.mem_of_mem_take ho))
 omega
theorem to_take_le {d : List S70} (hp : ∀ o ∈ d, posN o) (k : Nat) : toOf (d.take k) ≤ toOf d ∧ 0 ≤ toOf (d.take k) := by
 have h := toOf_append (d.take k) (d.drop k)
 rw [List.take_append_drop] at h
 have := toOf_nonneg (d := d.drop k) (fun o ho => hp o (List.mem_of_mem_drop ho))
 have := toOf_nonneg (d := d.take k) (fun o ho => hp o (List.mem_of_mem_take ho))
 omega
end Go.Proofs.Ytidihnnkcmeaeaa.A
namespace Go.Proofs.Ytidihnnkcmeaeaa.A
open Go.RowKit Go.Proofs.YtidihnnkcmeaeaaW.PrintWords Go.Proofs.YtidihnnkcmeaeaaW.PrintLast Go.Proofs.YtidihnnkcmeaeaaW.PrintMore
set_option linter.unusedVariables false
set_option linter.unusedSimpArgs false
theorem noText_eq {s : ByteArray} (h : s.size = 0) : s = noText := by
 apply ByteArray.ext
 exact Array.eq_empty_of_size_eq_zero h
theorem opOk_cases {o : S70} (h : opOk o = true) : (o.f0 = 1 ∨ o.f0 = 3) ∧ 1 ≤ o.f1 ∧ o.f2 = noText ∨ o.f0 = 2 ∧ o.f1 = 0 ∧ 1 ≤ o.f2.size := by
 simp only [opOk, Bool.or_eq_true, Bool.and_eq_true, beq_iff_eq, decide_eq_true_eq, bne_iff_ne] at h
 rcases h with ⟨⟨h1, h2⟩, h3⟩ | ⟨⟨h1, h2⟩, h3⟩
 ·
  exact .inl ⟨h1, h2, noText_eq h3⟩
 ·
  exact .inr ⟨h1, h2, by omega⟩
theorem opOk_num {k n : Int} (hk : k = 1 ∨ k = 3) (hn : 1 ≤ n) : opOk (⟨k, n, noText⟩ : S70) = true := by
 have hz : (noText.size == 0) = true := rfl
 rcases hk with rfl | rfl <;> simp only [opOk, hz] <;> simp [hn]
theorem opOk_put {s : ByteArray} (h : 1 ≤ s.size) : opOk (⟨2, 0, s⟩ : S70) = true := by
 simp [opOk]
 intro h0
 rw [h0] at h
 simp at h
theorem opw_pos {o : S70} (h : opOk o = true) : 1 ≤ opw o := by
 unfold opw
 rcases opOk_cases h with ⟨h1, h2, h3⟩ | ⟨h1, h2, h3⟩
 ·
  rw [if_neg (by omega)]
  exact h2
 ·
  rw [if_pos h1]
  omega
theorem canB_small {a : List S70} (ha : canB a = true) : ∀ o ∈ a, opw o ≤ 268435456 := by
 have ca := canB_lens ha
 have hpa : ∀ o ∈ a, posN o := fun o ho => kindOk_posN (opOk_kindOk (chainOk_opOk ca.1 o ho))
 intro o ho
 have h3 : ∀ {l : List S70}, (∀ x ∈ l, posN x) → ∀ o ∈ l, opw o ≤ fromOf l ∨ opw o ≤ toOf l := by
  intro l
  induction l with
  | nil => intro _ o ho; simp at ho
  | cons x l ih =>
   intro hx o ho
   have hpr : ∀ y ∈ l, posN y := fun y hy => hx y (List.mem_cons_of_mem _ hy)
   have e1 := fromOf_nonneg hpr
   have e2 := toOf_nonneg hpr
   rw [fromOf_cons, toOf_cons]
   have hxx := hx x List.mem_cons_self
   rcases List.mem_cons.1 ho with rfl | ho
   ·
    unfold opw
    by_cases c2 : o.f0 = 2
    ·
     rw [if_pos c2, if_pos c2, if_pos c2]; right; omega
    ·
     rw [if_neg c2, if_neg c2]; left; omega
   ·
    have e3 : 0 ≤ (if x.f0 = 2 then 0 else x.f1) := by
     split
     ·
      omega
     ·
      rename_i c; exact hxx c
    have e4 : 0 ≤ (if x.f0 = 2 then (x.f2.size : Int) else if x.f0 = 3 then 0 else x.f1) := by
     split
     ·
      omega
     ·
      rename_i c
      have := hxx c
      split <;> omega
    rcases ih hpr o ho with h | h
    ·
     left; omega
    ·
     right; omega
 rcases h3 hpa o ho with h | h <;> omega
theorem ok_length : ∀ {l : List S70}, (∀ x ∈ l, opOk x = true) → (l.length : Int) ≤ opws l
 | [], _ => Int.le_refl 0
 | x :: l, hx => by
  have h1 := ok_length (l := l) (fun y hy => hx y (List.mem_cons_of_mem _ hy))
  have h2 := opw_pos (hx x List.mem_cons_self)
  simp only [opws, List.length_cons]
  omega
theorem canB_length {a : List S70} (ha : canB a = true) : a.length ≤ 536870912 := by
 have ca := canB_lens ha
 have oka := chainOk_opOk ca.1
 have h1 := ok_length oka
 have h2 := opws_le (fun o ho => kindOk_posN (opOk_kindOk (oka o ho)))
 omega
def KEnd (l : List S70) : Prop := l = [] ∨ ∃ init m, l = init ++ [(⟨1, m, noText⟩ : S70)]
inductive BW : Bs → Prop
 | zero : BW ⟨[], 0, noText, 0⟩
 | kept (init : List S70) (m : Int) (hm : 0 ≤ m) : BW ⟨init ++ [(⟨1, m, noText⟩ : S70)], 1, noText, 0⟩
 | chg (out : List S70) (put : ByteArray) (drop : Int) (ho : KEnd out) (hd : 0 ≤ drop) (h : 0 < put.size ∨ 0 < drop) : BW ⟨out, 2, put, drop⟩
theorem size_nil_append (s : ByteArray) : noText ++ s = s := by
 apply ByteArray.ext
 simp [noText]
theorem done_zero : Bs.done ⟨[], 0, noText, 0⟩ = [] := by
 unfold Bs.done Bs.flush
 simp only [noText_size]
 rfl
theorem done_kept (l : List S70) : Bs.done ⟨l, 1, noText, 0⟩ = l := by
 unfold Bs.done Bs.flush
 simp only [noText_size]
 simp
theorem done_chg (out : List S70) (put : ByteArray) (drop : Int) : Bs.done ⟨out, 2, put, drop⟩ = (if 0 < put.size then out ++ [(⟨2, 0, put⟩ : S70)] else out) ++ (if 0 < drop then [(⟨3, drop, noText⟩ : S70)] else []) := rfl
end Go.Proofs.Ytidihnnkcmeaeaa.A
namespace Go.Proofs.Ytidihnnkcmeaeaa.A
open Go.RowKit Go.Proofs.YtidihnnkcmeaeaaW.PrintWords Go.Proofs.YtidihnnkcmeaeaaW.PrintLast Go.Proofs.YtidihnnkcmeaeaaW.PrintMore
set_option linter.unusedVariables false
set_option linter.unusedSimpArgs false
theorem chainOk_cons {o : S70} {d : List S70} (h : chainOk (o :: d) = true) : opOk o = true ∧ hdOk o d = true ∧ chainOk d = true := by
 simp only [chainOk, Bool.and_eq_true] at h
 exact ⟨h.1.1, h.1.2, h.2⟩
theorem nbOk_ne {a b : S70} (h : nbOk a b = true) : a.f0 ≠ b.f0 ∧ ¬ (a.f0 = 3 ∧ b.f0 = 2) := by
 simp only [nbOk, Bool.and_eq_true, bne_iff_ne, ne_eq, Bool.not_eq_true', Bool.and_eq_false_iff, beq_eq_false_iff_ne] at h
 refine ⟨h.1, fun hc => ?_⟩
 rcases h.2 with h | h
 ·
  exact h hc.1
 ·
  exact h hc.2
end Go.Proofs.Ytidihnnkcmeaeaa.A
