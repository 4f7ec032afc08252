/- galleylaw13.awake: it answers true. No condition. -/
import Derived.Test.YtidihnnkcmeaeaaQ
import Derived.Test.YtidihnnkcmeaeaaEApply
import Derived.Test.YtidihnnkcmeaeaaA5
import Derived.Test.YtidihnnkcmeaeaaA9
import Derived.Lib.SlBytesConst
namespace Go.Proofs.Ytidihnnkcmeaeaa.A
open Go.RowKit Go.Proofs.YtidihnnkcmeaeaaW.PrintWords Go.Proofs.YtidihnnkcmeaeaaW.PrintLast Go.Proofs.YtidihnnkcmeaeaaW.PrintMore
set_option linter.unusedVariables false
set_option linter.unusedSimpArgs false
theorem lens_all {d : List S70} (hl : d.length ≤ 9223372036854775807) (h : canB d = true) : Ev (fun k => delta_Lens.f k d) (fromOf d, toOf d, 0) := by
 have h1 := valid_ev d hl
 rw [h] at h1
 exact Ev.bind h1 (Ev.bind (lens_can hl h) (Ev.now _))
def galleylaw13_awake.f : Option Bool := some true
end Go.Proofs.Ytidihnnkcmeaeaa.A
