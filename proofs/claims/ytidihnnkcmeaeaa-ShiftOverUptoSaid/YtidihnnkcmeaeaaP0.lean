/- Two neighbours of a canonical delta. Plain lists. No condition. -/
import Derived.Test.YtidihnnkcmeaeaaV0
namespace Go.Proofs.Ytidihnnkcmeaeaa.A
open Go.RowKit Go.Proofs.YtidihnnkcmeaeaaW.PrintWords Go.Proofs.YtidihnnkcmeaeaaW.PrintLast Go.Proofs.YtidihnnkcmeaeaaW.PrintMore
set_option linter.unusedVariables false
set_option linter.unusedSimpArgs false
theorem chainOk_cons {o : S70} {d : List S70} (h : chainOk (o :: d) = true) : opOk o = true ∧ hdOk o d = true ∧ chainOk d = true := by
 simp only [chainOk, Bool.and_eq_true] at h
 exact ⟨h.1.1, h.1.2, h.2⟩
theorem nbOk_ne {a b : S70} (h : nbOk a b = true) : a.f0 ≠ b.f0 ∧ ¬ (a.f0 = 3 ∧ b.f0 = 2) := by
 simp only [nbOk, Bool.and_eq_true, bne_iff_ne, ne_eq, Bool.not_eq_true', Bool.and_eq_false_iff, beq_eq_false_iff_ne] at h
 refine ⟨h.1, fun hc => ?_⟩
 rcases h.2 with h | h
 ·
  exact h hc.1
 ·
  exact h hc.2
end Go.Proofs.Ytidihnnkcmeaeaa.A
