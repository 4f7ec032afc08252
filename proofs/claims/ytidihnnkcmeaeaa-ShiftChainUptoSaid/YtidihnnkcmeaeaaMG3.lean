/- Part of a claim: theorems about the program's functions, written by a program over the translation. No condition. galleylaw13.awake: it answers true. No condition. -/
import Derived.Test.YtidihnnkcmeaeaaA0
import Derived.Test.YtidihnnkcmeaeaaMG2
import Derived.Test.YtidihnnkcmeaeaaA5
import Derived.Lib.SlBytesConst
namespace Go.Proofs.Ytidihnnkcmeaeaa.A
open Go.RowKit Go.Proofs.YtidihnnkcmeaeaaW.PrintWords Go.Proofs.YtidihnnkcmeaeaaW.PrintLast Go.Proofs.YtidihnnkcmeaeaaW.PrintMore
attribute [local go_sem] max2_int min2_int max_two min_two max_three min_three max_four min_four
set_option linter.unusedVariables false
set_option linter.unusedSimpArgs false
def galleyref13_Copy.f (l0 : List (S70)) : Option ((List (S70))) := (some (([] : List (S70)) : List (S70))).bind fun y164 => (if y164.length + l0.length < 4398046511104 then (some (y164 ++ l0)) else (none))
def galleylaw13_own.f (l0 : List (S70)) : Option ((List (S70))) := (galleyref13_Copy.f l0).bind fun t170 => (some t170)
end Go.Proofs.Ytidihnnkcmeaeaa.A
namespace Go.Proofs.Ytidihnnkcmeaeaa.A
open Go.RowKit Go.Proofs.YtidihnnkcmeaeaaW.PrintWords Go.Proofs.YtidihnnkcmeaeaaW.PrintLast Go.Proofs.YtidihnnkcmeaeaaW.PrintMore
set_option linter.unusedVariables false
set_option linter.unusedSimpArgs false
theorem lens_all {d : List S70} (hl : d.length ≤ 9223372036854775807) (h : canB d = true) : Ev (fun k => delta_Lens.f k d) (fromOf d, toOf d, 0) := by
 have h1 := valid_ev d hl
 rw [h] at h1
 exact Ev.bind h1 (Ev.bind (lens_can hl h) (Ev.now _))
def galleylaw13_awake.f : Option Bool := some true
end Go.Proofs.Ytidihnnkcmeaeaa.A
