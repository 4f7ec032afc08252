/- Over and Compose meet: what they do, and that both orders make one delta. Plain lists. No condition but sizes. -/
import Derived.Test.YtidihnnkcmeaeaaQ2
import Derived.Test.YtidihnnkcmeaeaaECompose
import Derived.Test.YtidihnnkcmeaeaaQ4
import Derived.Test.YtidihnnkcmeaeaaA22
import Derived.Test.YtidihnnkcmeaeaaEApply
namespace Go.Proofs.Ytidihnnkcmeaeaa.A
open Go.RowKit Go.Proofs.YtidihnnkcmeaeaaW.PrintWords Go.Proofs.YtidihnnkcmeaeaaW.PrintLast Go.Proofs.YtidihnnkcmeaeaaW.PrintMore
set_option linter.unusedVariables false
set_option linter.unusedSimpArgs false
theorem same14_go : ∀ (rest pre : List S70), (pre ++ rest).length ≤ 9223372036854775807 → Ev (fun k => galleyref14_Same.l0 k (pre ++ rest) (pre ++ rest) (pre.length : Int)) true
 | [], pre, hl => by
  refine Ev.step (f := fun _ => some true) (fun k => ?_) (Ev.now _)
  rw [galleyref14_Same.l0, if_neg (by simp)]
 | o :: rest, pre, hl => by
  have hlt : (pre.length : Int) < ((pre ++ o :: rest).length : Int) := by simp; omega
  have hw := wrap_succ (i := pre.length) (n := (pre ++ o :: rest).length) (by simp) hl
  have hih := same14_go rest (pre ++ [o]) (by simpa using hl)
  simp only [List.append_assoc, List.singleton_append] at hih
  have hpl : ((pre ++ [o]).length : Int) = ((pre.length + 1 : Nat) : Int) := by simp
  rw [hpl] at hih
  refine Ev.step (fun k => by rw [galleyref14_Same.l0, if_pos hlt, if_pos (Int.natCast_nonneg _), if_pos hlt, if_neg (by simp), hw]) ?_
  exact hih
theorem same14_one (d : List S70) (hl : d.length ≤ 9223372036854775807) : Ev (fun k => galleyref14_Same.f k d d) true := by
 refine Ev.congr (fun k => by rw [galleyref14_Same.f, if_pos rfl]) ?_
 have := same14_go d [] (by simpa using hl)
 simpa using this
theorem over_res (a b : List S70) (first : Bool) : ∃ r e, shift_Over.f a b first = some (r, e) ∧ (e ≠ 0 ∧ r = [] ∨ e = 0 ∧ canB a = true ∧ canB b = true ∧ fromOf a = fromOf b ∧ canB r = true ∧ fromOf r = toOf a ∧ Eqv r (overOps first (a.length + b.length + 1) a 0 b 0)) := by
 unfold shift_Over.f
 cases hca : canB a with
 | false => exact ⟨[], 130, by rw [Bool.false_and, if_neg (by decide)], .inl ⟨by decide, rfl⟩⟩
 | true =>
  cases hcb : canB b with
  | false => exact ⟨[], 130, by rw [Bool.and_false, if_neg (by decide)], .inl ⟨by decide, rfl⟩⟩
  | true =>
   by_cases hf : fromOf a = fromOf b
   ·
    rw [Bool.and_self, if_pos rfl, if_pos hf]
    have oka := chainOk_opOk (canB_lens hca).1
    have okb := chainOk_opOk (canB_lens hcb).1
    obtain ⟨o1, o2⟩ := over_from first (a.length + b.length + 1) a b 0 0 oka okb ⟨Int.le_refl 0, .inl rfl⟩ ⟨Int.le_refl 0, .inl rfl⟩ (by rw [cutH_zero, cutH_zero]; exact hf) (by omega)
    rw [cutH_zero] at o1
    obtain ⟨c1, c2⟩ := canon_sem o2
    unfold delta_Canon.f
    rw [if_pos (List.all_eq_true.mpr o2)]
    by_cases hs : fromOf (overOps first (a.length + b.length + 1) a 0 b 0) ≤ 268435456 ∧ toOf (overOps first (a.length + b.length + 1) a 0 b 0) ≤ 268435456
    ·
     rw [if_pos hs]
     refine ⟨_, 0, rfl, .inr ⟨rfl, rfl, rfl, hf, ?_, by rw [c2.from_, o1], c2⟩⟩
     simp only [canB, Bool.and_eq_true, decide_eq_true_eq]
     exact ⟨⟨c1, by rw [c2.from_]; exact hs.1⟩, by rw [c2.tto]; exact hs.2⟩
    ·
     rw [if_neg hs]
     exact ⟨[], 5, rfl, .inl ⟨by decide, rfl⟩⟩
   ·
    rw [Bool.and_self, if_pos rfl, if_neg hf]
    exact ⟨[], 131, rfl, .inl ⟨by decide, rfl⟩⟩
end Go.Proofs.Ytidihnnkcmeaeaa.A
