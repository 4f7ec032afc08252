/- The texts of a list of operations, summed. No condition. -/
import Derived.Test.YtidihnnkcmeaeaaD
namespace Go.Proofs.Ytidihnnkcmeaeaa.A
open Go.RowKit Go.Proofs.YtidihnnkcmeaeaaW.PrintWords Go.Proofs.YtidihnnkcmeaeaaW.PrintLast Go.Proofs.YtidihnnkcmeaeaaW.PrintMore
set_option linter.unusedVariables false
set_option linter.unusedSimpArgs false
def txts : List S70 → Int
 | [] => 0
 | o :: d => (o.f2.size : Int) + txts d
theorem txts_nonneg : ∀ d : List S70, 0 ≤ txts d
 | [] => Int.le_refl 0
 | o :: d => by have := txts_nonneg d; simp only [txts]; omega
end Go.Proofs.Ytidihnnkcmeaeaa.A
