/- delta.Apply: what it answers. No condition but that the lists can be read. -/
import Derived.Test.YtidihnnkcmeaeaaM
import Derived.Test.YtidihnnkcmeaeaaA4
namespace Go.Proofs.Ytidihnnkcmeaeaa.A
open Go.RowKit Go.Proofs.YtidihnnkcmeaeaaW.PrintWords Go.Proofs.YtidihnnkcmeaeaaW.PrintLast Go.Proofs.YtidihnnkcmeaeaaW.PrintMore
set_option linter.unusedVariables false
set_option linter.unusedSimpArgs false
theorem fromOf_append (a b : List S70) : fromOf (a ++ b) = fromOf a + fromOf b := by
 induction a with
 | nil => simp [fromOf]
 | cons o a ih => rw [List.cons_append, fromOf_cons, fromOf_cons, ih]; omega
theorem toOf_append (a b : List S70) : toOf (a ++ b) = toOf a + toOf b := by
 induction a with
 | nil => simp [toOf]
 | cons o a ih => rw [List.cons_append, toOf_cons, toOf_cons, ih]; omega
theorem opOk_kindOk {o : S70} (h : opOk o = true) : kindOk o = true := by
 simp only [opOk, Bool.or_eq_true, Bool.and_eq_true, beq_iff_eq, decide_eq_true_eq, bne_iff_ne] at h
 simp only [kindOk, Bool.and_eq_true, decide_eq_true_eq, Bool.or_eq_true, beq_iff_eq]
 omega
theorem chainP_opOk : ∀ {p : Option S70} {d : List S70}, chainP p d = true → ∀ o ∈ d, opOk o = true
 | _, [], _, o, ho => by simp at ho
 | p, a :: d, h, o, ho => by
  simp only [chainP, Bool.and_eq_true] at h
  rcases List.mem_cons.1 ho with rfl | ho
  ·
   exact h.1.1
  ·
   exact chainP_opOk h.2 o ho
theorem chainOk_opOk {d : List S70} (h : chainOk d = true) : ∀ o ∈ d, opOk o = true := chainP_opOk (by rw [chainP_none]; exact h)
theorem take_succ_rd {d : List S70} {k : Nat} (h : k < d.length) : d.take (k + 1) = d.take k ++ [rd_T70 d (k : Int)] := by
 unfold rd_T70
 rw [Int.toNat_natCast, List.take_succ_eq_append_getElem h, List.getD_eq_getElem?_getD, List.getElem?_eq_getElem h]
 rfl
theorem from_take_le {d : List S70} (hp : ∀ o ∈ d, posN o) (k : Nat) : fromOf (d.take k) ≤ fromOf d ∧ 0 ≤ fromOf (d.take k) := by
 have h := fromOf_append (d.take k) (d.drop k)
 rw [List.take_append_drop] at h
 have := fromOf_nonneg (d := d.drop k) (fun o ho => hp o (List.mem_of_mem_drop ho))
 have := fromOf_nonneg (d := d.take k) (fun o ho => hp o (List.mem_of_mem_take ho))
 omega
theorem to_take_le {d : List S70} (hp : ∀ o ∈ d, posN o) (k : Nat) : toOf (d.take k) ≤ toOf d ∧ 0 ≤ toOf (d.take k) := by
 have h := toOf_append (d.take k) (d.drop k)
 rw [List.take_append_drop] at h
 have := toOf_nonneg (d := d.drop k) (fun o ho => hp o (List.mem_of_mem_drop ho))
 have := toOf_nonneg (d := d.take k) (fun o ho => hp o (List.mem_of_mem_take ho))
 omega
end Go.Proofs.Ytidihnnkcmeaeaa.A
