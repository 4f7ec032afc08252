/- Part of a claim: theorems about the program's functions, written by a program over the translation. No condition. -/
import Derived.Test.YtidihnnkcmeaeaaA0
namespace Go.Proofs.Ytidihnnkcmeaeaa.A
open Go.RowKit Go.Proofs.YtidihnnkcmeaeaaW.PrintWords Go.Proofs.YtidihnnkcmeaeaaW.PrintLast Go.Proofs.YtidihnnkcmeaeaaW.PrintMore
attribute [local go_sem] max2_int min2_int max_two min_two max_three min_three max_four min_four
set_option linter.unusedVariables false
set_option linter.unusedSimpArgs false
def galleyref13_Copy.f (l0 : List (S70)) : Option ((List (S70))) := (some (([] : List (S70)) : List (S70))).bind fun y164 => (if y164.length + l0.length < 4398046511104 then (some (y164 ++ l0)) else (none))
def galleylaw13_own.f (l0 : List (S70)) : Option ((List (S70))) := (galleyref13_Copy.f l0).bind fun t170 => (some t170)
end Go.Proofs.Ytidihnnkcmeaeaa.A
