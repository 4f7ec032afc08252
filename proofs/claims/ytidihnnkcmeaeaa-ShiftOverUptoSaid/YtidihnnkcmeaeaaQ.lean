/- delta.Invert's three closures: what each does to the builder and to the bytes that are left. No condition but bounds on the builder. -/
import Derived.Test.YtidihnnkcmeaeaaM
namespace Go.Proofs.Ytidihnnkcmeaeaa.A
open Go.RowKit Go.Proofs.YtidihnnkcmeaeaaW.PrintWords Go.Proofs.YtidihnnkcmeaeaaW.PrintLast Go.Proofs.YtidihnnkcmeaeaaW.PrintMore
set_option linter.unusedVariables false
set_option linter.unusedSimpArgs false
theorem IsB.drew {w : World} {base : Nat} {P : Nat → Prop} {g : Nat} {b : Bs} (h : IsB w base P g b) : IsB w.drew base P g b := h.below ((Below.refl _ _).drew)
end Go.Proofs.Ytidihnnkcmeaeaa.A
