/- Part of a claim: theorems about the program's functions, written by a program over the translation. No condition. -/
import Derived.Test.YtidihnnkcmeaeaaA0
import Derived.Test.YtidihnnkcmeaeaaB
import Derived.Test.YtidihnnkcmeaeaaA5
namespace Go.Proofs.Ytidihnnkcmeaeaa.A
open Go.RowKit Go.Proofs.YtidihnnkcmeaeaaW.PrintWords Go.Proofs.YtidihnnkcmeaeaaW.PrintLast Go.Proofs.YtidihnnkcmeaeaaW.PrintMore
attribute [local go_sem] max2_int min2_int max_two min_two max_three min_three max_four min_four
set_option linter.unusedVariables false
set_option linter.unusedSimpArgs false
mutual
def galleyref14_Valid.l0 : Nat → List (S70) → Int → Int → Option (Bool)
 | 0, _, _, _ => none
 | k + 1, x0, x3, x4 => if x4 < (x0.length : Int) then (if 0 ≤ x4 then (if ((rd_T70 x0 x4).f0) = 1 then (galleyref14_Valid.j1 k x0 x3 x4 ((rd_T70 x0 x4).f0) (((rd_T70 x0 x4).f0) == 1) ((rd_T70 x0 x4).f0) ((rd_T70 x0 x4).f1) ((rd_T70 x0 x4).f2)) else (galleyref14_Valid.j1 k x0 x3 x4 ((rd_T70 x0 x4).f0) (((rd_T70 x0 x4).f0) == 3) ((rd_T70 x0 x4).f0) ((rd_T70 x0 x4).f1) ((rd_T70 x0 x4).f2))) else (none)) else ((galleyref14_lens.f k x0).bind fun bt150 => (if bt150.1 ≤ 268435456 then (some (decide (bt150.2 ≤ 268435456))) else (some false)))
def galleyref14_Valid.j1 : Nat → List (S70) → Int → Int → Int → Bool → Int → Int → ByteArray → Option (Bool)
 | 0, _, _, _, _, _, _, _, _ => none
 | k + 1, x0, x3, x4, x19, x20, x154000, x154001, x154002 => if x20 = true then (if x154001 < 1 then (galleyref14_Valid.j2 k x0 x3 x4 true x154000 x154001 x154002) else (if x154001 > 268435456 then (galleyref14_Valid.j2 k x0 x3 x4 true x154000 x154001 x154002) else (galleyref14_Valid.j2 k x0 x3 x4 (x154002.toList != ([] : List UInt8)) x154000 x154001 x154002))) else (if x19 = 2 then (if x154001 = 0 then (galleyref14_Valid.j3 k x0 x3 x4 (x154002.toList == ([] : List UInt8)) x154000 x154001 x154002) else (galleyref14_Valid.j3 k x0 x3 x4 true x154000 x154001 x154002)) else (some false))
def galleyref14_Valid.j2 : Nat → List (S70) → Int → Int → Bool → Int → Int → ByteArray → Option (Bool)
 | 0, _, _, _, _, _, _, _ => none
 | k + 1, x0, x3, x4, x35, x154000, x154001, x154002 => if x35 = true then (some false) else (if (wrap64 (x3 + x154001)) > 268435456 then (some false) else (if x4 > 0 then (if 0 ≤ (wrap64 (x4 - 1)) then (if (wrap64 (x4 - 1)) < (x0.length : Int) then (if ((rd_T70 x0 (wrap64 (x4 - 1))).f0) = x154000 then (some false) else (if ((rd_T70 x0 (wrap64 (x4 - 1))).f0) = 3 then (if x154000 = 2 then (some false) else (galleyref14_Valid.l0 k x0 (wrap64 (x3 + x154001)) (wrap64 (x4 + 1)))) else (galleyref14_Valid.l0 k x0 (wrap64 (x3 + x154001)) (wrap64 (x4 + 1))))) else (none)) else (none)) else (galleyref14_Valid.l0 k x0 (wrap64 (x3 + x154001)) (wrap64 (x4 + 1)))))
def galleyref14_Valid.j3 : Nat → List (S70) → Int → Int → Bool → Int → Int → ByteArray → Option (Bool)
 | 0, _, _, _, _, _, _, _ => none
 | k + 1, x0, x3, x4, x49, x154000, x154001, x154002 => if x49 = true then (some false) else (if x3 > 268435456 then (some false) else (if x4 > 0 then (if 0 ≤ (wrap64 (x4 - 1)) then (if (wrap64 (x4 - 1)) < (x0.length : Int) then (if ((rd_T70 x0 (wrap64 (x4 - 1))).f0) = x154000 then (some false) else (if ((rd_T70 x0 (wrap64 (x4 - 1))).f0) = 3 then (if x154000 = 2 then (some false) else (galleyref14_Valid.l0 k x0 x3 (wrap64 (x4 + 1)))) else (galleyref14_Valid.l0 k x0 x3 (wrap64 (x4 + 1))))) else (none)) else (none)) else (galleyref14_Valid.l0 k x0 x3 (wrap64 (x4 + 1)))))
end
def galleyref14_Valid.f (k : Nat) (l0 : List (S70)) : Option (Bool) := galleyref14_Valid.l0 k l0 0 0
end Go.Proofs.Ytidihnnkcmeaeaa.A
