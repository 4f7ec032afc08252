/- Part of a claim: theorems about the program's functions, written by a program over the translation. No condition. The texts of a list of operations, summed. No condition. -/
import Derived.Test.YtidihnnkcmeaeaaA0
import Derived.Test.YtidihnnkcmeaeaaMG1
import Derived.Test.YtidihnnkcmeaeaaA5
import Derived.Test.YtidihnnkcmeaeaaA7
namespace Go.Proofs.Ytidihnnkcmeaeaa.A
open Go.RowKit Go.Proofs.YtidihnnkcmeaeaaW.PrintWords Go.Proofs.YtidihnnkcmeaeaaW.PrintLast Go.Proofs.YtidihnnkcmeaeaaW.PrintMore
attribute [local go_sem] max2_int min2_int max_two min_two max_three min_three max_four min_four
set_option linter.unusedVariables false
set_option linter.unusedSimpArgs false
mutual
def galleyref14_Place.j0 : Nat → List (S70) → Int → Int → Bool → Option (Int × Int)
 | 0, _, _, _, _ => none
 | k + 1, x0, x1, x2, x37 => if x37 = true then (some (0, 2)) else (galleyref14_Place.l0 k x0 x1 x2 0 0 0)
def galleyref14_Place.l0 : Nat → List (S70) → Int → Int → Int → Int → Int → Option (Int × Int)
 | 0, _, _, _, _, _, _ => none
 | k + 1, x0, x1, x2, x10, x11, x12 => if x12 < (x0.length : Int) then (if 0 ≤ x12 then (if ((rd_T70 x0 x12).f0) = 1 then (if x1 ≥ x10 then (if x1 < (wrap64 (x10 + ((rd_T70 x0 x12).f1))) then (some (wrap64 ((wrap64 (x11 + x1)) - x10), 0)) else (galleyref14_Place.l0 k x0 x1 x2 (wrap64 (x10 + ((rd_T70 x0 x12).f1))) (wrap64 (x11 + ((rd_T70 x0 x12).f1))) (wrap64 (x12 + 1)))) else (galleyref14_Place.l0 k x0 x1 x2 (wrap64 (x10 + ((rd_T70 x0 x12).f1))) (wrap64 (x11 + ((rd_T70 x0 x12).f1))) (wrap64 (x12 + 1)))) else (galleyref14_Place.l1 k x0 x1 x2 x10 x11 x12 0 0)) else (none)) else (some (wrap64 ((wrap64 (x11 + x1)) - x10), 0))
def galleyref14_Place.l1 : Nat → List (S70) → Int → Int → Int → Int → Int → Int → Int → Option (Int × Int)
 | 0, _, _, _, _, _, _, _, _ => none
 | k + 1, x0, x1, x2, x10, x11, x12, x13, x14 => if x12 < (x0.length : Int) then (if 0 ≤ x12 then (galleyref14_Place.j3 k x0 x1 x2 x10 x11 x12 x13 x14 (((rd_T70 x0 x12).f0) != 1)) else (none)) else (galleyref14_Place.j3 k x0 x1 x2 x10 x11 x12 x13 x14 false)
def galleyref14_Place.j3 : Nat → List (S70) → Int → Int → Int → Int → Int → Int → Int → Bool → Option (Int × Int)
 | 0, _, _, _, _, _, _, _, _, _ => none
 | k + 1, x0, x1, x2, x10, x11, x12, x13, x14, x94 => if x94 = true then (if 0 ≤ x12 then (if x12 < (x0.length : Int) then (if ((rd_T70 x0 x12).f0) = 3 then (galleyref14_Place.l1 k x0 x1 x2 x10 x11 (wrap64 (x12 + 1)) (wrap64 (x13 + (((rd_T70 x0 x12).f2).size : Int))) (wrap64 (x14 + ((rd_T70 x0 x12).f1)))) else (galleyref14_Place.l1 k x0 x1 x2 x10 x11 (wrap64 (x12 + 1)) (wrap64 (x13 + (((rd_T70 x0 x12).f2).size : Int))) x14)) else (none)) else (none)) else (if x1 ≥ x10 then (galleyref14_Place.j4 k x0 x1 x2 x10 x11 x12 x13 x14 (decide (x1 ≤ (wrap64 (x10 + x14))))) else (galleyref14_Place.j4 k x0 x1 x2 x10 x11 x12 x13 x14 false))
def galleyref14_Place.j4 : Nat → List (S70) → Int → Int → Int → Int → Int → Int → Int → Bool → Option (Int × Int)
 | 0, _, _, _, _, _, _, _, _, _ => none
 | k + 1, x0, x1, x2, x10, x11, x12, x13, x14, x127 => if x127 = true then (if x2 = 1 then (some (x11, 0)) else (some (wrap64 (x11 + x13), 0))) else (galleyref14_Place.l0 k x0 x1 x2 (wrap64 (x10 + x14)) (wrap64 (x11 + x13)) x12)
end
def galleyref14_Place.f (k : Nat) (l0 : List (S70)) (a1 : Int) (a2 : Int) : Option (Int × Int) := (galleyref14_Valid.f k l0).bind fun t983 => (if t983 = true then ((galleyref14_lens.f k l0).bind fun bt984 => (if a1 < 0 then (galleyref14_Place.j0 k l0 a1 a2 true) else (if a1 > bt984.1 then (galleyref14_Place.j0 k l0 a1 a2 true) else (if a2 = 1 then (galleyref14_Place.j0 k l0 a1 a2 false) else (galleyref14_Place.j0 k l0 a1 a2 (a2 != 2)))))) else (some (0, 130)))
end Go.Proofs.Ytidihnnkcmeaeaa.A
namespace Go.Proofs.Ytidihnnkcmeaeaa.A
open Go.RowKit Go.Proofs.YtidihnnkcmeaeaaW.PrintWords Go.Proofs.YtidihnnkcmeaeaaW.PrintLast Go.Proofs.YtidihnnkcmeaeaaW.PrintMore
set_option linter.unusedVariables false
set_option linter.unusedSimpArgs false
def txts : List S70 → Int
 | [] => 0
 | o :: d => (o.f2.size : Int) + txts d
theorem txts_nonneg : ∀ d : List S70, 0 ≤ txts d
 | [] => Int.le_refl 0
 | o :: d => by have := txts_nonneg d; simp only [txts]; omega
end Go.Proofs.Ytidihnnkcmeaeaa.A
