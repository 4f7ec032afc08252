/- Part of a claim: theorems about the program's functions, written by a program over the translation. No condition. -/
import Derived.Test.YtidihnnkcmeaeaaA0
import Derived.Test.YtidihnnkcmeaeaaB
import Derived.Test.YtidihnnkcmeaeaaA1
namespace Go.Proofs.Ytidihnnkcmeaeaa.A
open Go.RowKit Go.Proofs.YtidihnnkcmeaeaaW.PrintWords Go.Proofs.YtidihnnkcmeaeaaW.PrintLast Go.Proofs.YtidihnnkcmeaeaaW.PrintMore
attribute [local go_sem] max2_int min2_int max_two min_two max_three min_three max_four min_four
set_option linter.unusedVariables false
set_option linter.unusedSimpArgs false
attribute [local go_sem high] eqA70
def galleyref13_Lens.l0 : Nat → List (S70) → Int → Int → Int → Option (Int × Int)
 | 0, _, _, _, _ => none
 | k + 1, x0, x4, x5, x6 => if x6 < (x0.length : Int) then (if 0 ≤ x6 then (if ((rd_T70 x0 x6).f0) = 1 then (galleyref13_Lens.l0 k x0 (wrap64 (x4 + ((rd_T70 x0 x6).f1))) (wrap64 (x5 + ((rd_T70 x0 x6).f1))) (wrap64 (x6 + 1))) else (if ((rd_T70 x0 x6).f0) = 3 then (galleyref13_Lens.l0 k x0 (wrap64 (x4 + ((rd_T70 x0 x6).f1))) x5 (wrap64 (x6 + 1))) else (galleyref13_Lens.l0 k x0 x4 (wrap64 (x5 + (((rd_T70 x0 x6).f2).size : Int))) (wrap64 (x6 + 1))))) else (none)) else (some (x4, x5))
def galleyref13_Lens.f (k : Nat) (l0 : List (S70)) : Option (Int × Int) := galleyref13_Lens.l0 k l0 0 0 0
def galleyref13_Apply.l0 : Nat → List Int → List (S70) → List Int → Int → Int → Option (List Int)
 | 0, _, _, _, _, _ => none
 | k + 1, x0, x1, x5, x6, x7 => if x7 < (x1.length : Int) then (if 0 ≤ x7 then (if ((rd_T70 x1 x7).f0) = 1 then (if 0 ≤ x6 then (if x6 ≤ (wrap64 (x6 + ((rd_T70 x1 x7).f1))) then (if (wrap64 (x6 + ((rd_T70 x1 x7).f1))) ≤ (x0.length : Int) then (if x5.length + ((x0.take ((wrap64 (x6 + ((rd_T70 x1 x7).f1))) : Int).toNat).drop (x6 : Int).toNat).length < 140737488355328 then (galleyref13_Apply.l0 k x0 x1 (x5 ++ ((x0.take ((wrap64 (x6 + ((rd_T70 x1 x7).f1))) : Int).toNat).drop (x6 : Int).toNat)) (wrap64 (x6 + ((rd_T70 x1 x7).f1))) (wrap64 (x7 + 1))) else (none)) else (none)) else (none)) else (none)) else (if ((rd_T70 x1 x7).f0) = 3 then (galleyref13_Apply.l0 k x0 x1 x5 (wrap64 (x6 + ((rd_T70 x1 x7).f1))) (wrap64 (x7 + 1))) else (if x5.length + ((rd_T70 x1 x7).f2).size < 140737488355328 then (galleyref13_Apply.l0 k x0 x1 (x5 ++ bytesOf ((rd_T70 x1 x7).f2)) x6 (wrap64 (x7 + 1))) else (none)))) else (none)) else (some x5)
def galleyref13_Apply.f (k : Nat) (l0 : List Int) (l1 : List (S70)) : Option (List Int) := galleyref13_Apply.l0 k l0 l1 ([] : List Int) 0 0
def galleyref13_Same.l0 : Nat → List (S70) → List (S70) → Int → Option (Bool)
 | 0, _, _, _ => none
 | k + 1, x0, x1, x5 => if x5 < (x0.length : Int) then (if 0 ≤ x5 then (if x5 < (x1.length : Int) then (if (!(((rd_T70 x0 x5).f0) == ((rd_T70 x1 x5).f0)) || (!(((rd_T70 x0 x5).f1) == ((rd_T70 x1 x5).f1)) || (!((((rd_T70 x0 x5).f2).toList) == (((rd_T70 x1 x5).f2).toList))))) = true then (some false) else (galleyref13_Same.l0 k x0 x1 (wrap64 (x5 + 1)))) else (none)) else (none)) else (some true)
def galleyref13_Same.f (k : Nat) (l0 : List (S70)) (l1 : List (S70)) : Option (Bool) := if (l0.length : Int) = (l1.length : Int) then (galleyref13_Same.l0 k l0 l1 0) else (some false)
set_option maxHeartbeats 8000000 in
set_option maxRecDepth 100000 in
theorem galleyref13_Same.calls (k : Nat) (A0 : Option Addr) (c0 : Nat) (l0 : List (S70)) (A1 : Option Addr) (c1 : Nat) (l1 : List (S70)) (r : Bool) (w : World) (hr0 : Kd.C k70 w A0 l0.length l0) (hc0 : l0.length ≤ c0) (hr1 : Kd.C k70 w A1 l1.length l1) (hc1 : l1.length ≤ c1) (h : galleyref13_Same.f k l0 l1 = some r) :
  Calls Try.prog 77 #[.slice A0 l0.length c0, .slice A1 l1.length c1] w fun e w' => e = .returned (.bool r) ∧ Drawn0 w w' := by
 have hu70 := Try.underlying70
 have HR0 := Aside0.mk hr0
 have HC0 := Aside0.mk hc0
 clear hr0 hc0
 have HR1 := Aside0.mk hr1
 have HC1 := Aside0.mk hc1
 clear hr1 hc1
 have H : (if (l0.length : Int) = (l1.length : Int) then (galleyref13_Same.l0 k l0 l1 0) else (some false)) = some r := h
 clear h
 by_cases c3 : (l0.length : Int) = (l1.length : Int)
 ·
  rw [if_pos c3] at H
  have c3b0 : ((l0.length : Int) == (l1.length : Int)) = true := beq_iff_eq.mpr c3
  have c3b1 : ((l0.length : Int) != (l1.length : Int)) = false := bne_eq_false_iff_eq.mpr c3
  have c3b2 : (l0.length == l1.length) = true := by first | simpa using c3 | (simp at c3 ⊢; omega)
  clear c3
  have H' := Aside0.mk H
  clear H
  go_enter Try.func77, Try.ntmps77
  go_wp2
  repeat (go_quiet (fail); try go_wp2)
  go_loopg [5] k (fun kq v5 w' => ∃ (x5_1 : Int), v5 = .int .i64 x5_1 ∧ Aside0 (galleyref13_Same.l0 kq l0 l1 x5_1 = some r) ∧ Aside0 (kq ≤ k) ∧ Drawn0 w w')
  case atStart => exact ⟨(0), (by first | rfl | (simp; done) | (simp [*]; done) | (simp; exact isEmpty_bne _)), H', ⟨Nat.le_refl _⟩, by repeat (first | exact Drawn0.refl _ | apply Drawn0.step)⟩
  case round =>
   clear H'
   (try clear c1); (try clear p2); (try clear c3); (try clear c3b0); (try clear c3b1); (try clear c3b2)
   obtain ⟨x5_1, rfl, HA, HK1, ⟨m1, rfl⟩⟩ := hrel
   cases gk with
   | zero => exact absurd HA.out (by simp [galleyref13_Same.l0])
   | succ k1 =>
    have H := HA.out
    clear HA
    simp only [galleyref13_Same.l0] at H
    by_cases c4 : x5_1 < (l0.length : Int)
    ·
     rw [if_pos c4] at H
     have c4b0 : decide (x5_1 < (l0.length : Int)) = true := decide_eq_true c4
     clear c4
     by_cases c5 : 0 ≤ x5_1
     ·
      rw [if_pos c5] at H
      have c5b0 : decide (0 ≤ x5_1) = true := decide_eq_true c5
      clear c5
      by_cases c6 : x5_1 < (l1.length : Int)
      ·
       rw [if_pos c6] at H
       have c6b0 : decide (x5_1 < (l1.length : Int)) = true := decide_eq_true c6
       clear c6
       by_cases c7 : (!(((rd_T70 l0 x5_1).f0) == ((rd_T70 l1 x5_1).f0)) || (!(((rd_T70 l0 x5_1).f1) == ((rd_T70 l1 x5_1).f1)) || (!((((rd_T70 l0 x5_1).f2).toList) == (((rd_T70 l1 x5_1).f2).toList))))) = true
       ·
        rw [if_pos c7] at H
        have c7b0 : (!(((rd_T70 l0 x5_1).f0) == ((rd_T70 l1 x5_1).f0)) || (!(((rd_T70 l0 x5_1).f1) == ((rd_T70 l1 x5_1).f1)) || (!((((rd_T70 l0 x5_1).f2).toList) == (((rd_T70 l1 x5_1).f2).toList))))) = true := c7
        clear c7
        obtain rfl := Option.some.inj H
        have p202 : 0 ≤ (x5_1 : Int) := of_decide_eq_true (by first | (with_reducible assumption) | assumption)
        have q202 : x5_1 < (l0.length : Int) := of_decide_eq_true (by first | (with_reducible assumption) | assumption)
        obtain ⟨ad202, e202, hx202_0, hx202_1, hx202_2⟩ := at_T70 HR0.out x5_1 p202 q202
        cases e202
        replace p202 := eq_true p202
        replace q202 := eq_true q202
        have p203 : 0 ≤ (x5_1 : Int) := of_decide_eq_true (by first | (with_reducible assumption) | assumption)
        have q203 : x5_1 < (l1.length : Int) := of_decide_eq_true (by first | (with_reducible assumption) | assumption)
        obtain ⟨ad203, e203, hx203_0, hx203_1, hx203_2⟩ := at_T70 HR1.out x5_1 p203 q203
        cases e203
        replace p203 := eq_true p203
        replace q203 := eq_true q203
        go_wp2
        repeat (go_quiet (fail); try go_wp2)
        go_ret
        exact ⟨by first | rfl | (simp; done) | (simp [*]; done), by repeat (first | exact Drawn0.refl _ | apply Drawn0.step)⟩
       ·
        rw [if_neg c7] at H
        have c7b0 : (!(((rd_T70 l0 x5_1).f0) == ((rd_T70 l1 x5_1).f0)) || (!(((rd_T70 l0 x5_1).f1) == ((rd_T70 l1 x5_1).f1)) || (!((((rd_T70 l0 x5_1).f2).toList) == (((rd_T70 l1 x5_1).f2).toList))))) = false := by simpa using c7
        clear c7
        have H' := Aside0.mk H
        clear H
        have p202 : 0 ≤ (x5_1 : Int) := of_decide_eq_true (by first | (with_reducible assumption) | assumption)
        have q202 : x5_1 < (l0.length : Int) := of_decide_eq_true (by first | (with_reducible assumption) | assumption)
        obtain ⟨ad202, e202, hx202_0, hx202_1, hx202_2⟩ := at_T70 HR0.out x5_1 p202 q202
        cases e202
        replace p202 := eq_true p202
        replace q202 := eq_true q202
        have p203 : 0 ≤ (x5_1 : Int) := of_decide_eq_true (by first | (with_reducible assumption) | assumption)
        have q203 : x5_1 < (l1.length : Int) := of_decide_eq_true (by first | (with_reducible assumption) | assumption)
        obtain ⟨ad203, e203, hx203_0, hx203_1, hx203_2⟩ := at_T70 HR1.out x5_1 p203 q203
        cases e203
        replace p203 := eq_true p203
        replace q203 := eq_true q203
        go_wp2
        repeat (go_quiet (fail); try go_wp2)
        go_roundg k1
        case measure => have := HK1.out; omega
        case rel => exact ⟨(wrap64 (x5_1 + 1)), (by first | rfl | (simp; done) | (simp [*]; done) | (simp; exact isEmpty_bne _)), H', ⟨by have := HK1.out; omega⟩, by repeat (first | exact Drawn0.refl _ | apply Drawn0.step)⟩
      ·
       rw [if_neg c6] at H
       exact absurd H (by simp)
     ·
      rw [if_neg c5] at H
      exact absurd H (by simp)
    ·
     rw [if_neg c4] at H
     have c4b0 : decide (x5_1 < (l0.length : Int)) = false := decide_eq_false c4
     clear c4
     obtain rfl := Option.some.inj H
     go_wp2
     repeat (go_quiet (fail); try go_wp2)
     go_ret
     exact ⟨by first | rfl | (simp; done) | (simp [*]; done), by repeat (first | exact Drawn0.refl _ | apply Drawn0.step)⟩
 ·
  rw [if_neg c3] at H
  have c3b0 : ((l0.length : Int) == (l1.length : Int)) = false := beq_eq_false_iff_ne.mpr c3
  have c3b1 : ((l0.length : Int) != (l1.length : Int)) = true := bne_iff_ne.mpr c3
  have c3b2 : (l0.length == l1.length) = false := by first | simpa using c3 | (simp at c3 ⊢; omega)
  obtain rfl := Option.some.inj H
  go_enter Try.func77, Try.ntmps77
  go_wp2
  repeat (go_quiet (fail); try go_wp2)
  go_ret
  exact ⟨by first | rfl | (simp; done) | (simp [*]; done), by repeat (first | exact Drawn0.refl _ | apply Drawn0.step)⟩
def galleylaw13_same.f (k : Nat) (l0 : List (S70)) (l1 : List (S70)) : Option (Bool) := (galleyref13_Same.f k l0 l1).bind fun t204 => (some t204)
set_option maxHeartbeats 8000000 in
set_option maxRecDepth 100000 in
theorem galleylaw13_same.calls (k : Nat) (A0 : Option Addr) (c0 : Nat) (l0 : List (S70)) (A1 : Option Addr) (c1 : Nat) (l1 : List (S70)) (r : Bool) (w : World) (hr0 : Kd.C k70 w A0 l0.length l0) (hc0 : l0.length ≤ c0) (hr1 : Kd.C k70 w A1 l1.length l1) (hc1 : l1.length ≤ c1) (h : galleylaw13_same.f k l0 l1 = some r) :
  Calls Try.prog 31 #[.slice A0 l0.length c0, .slice A1 l1.length c1] w fun e w' => e = .returned (.bool r) ∧ Drawn0 w w' := by
 have HR0 := Aside0.mk hr0
 have HC0 := Aside0.mk hc0
 clear hr0 hc0
 have HR1 := Aside0.mk hr1
 have HC1 := Aside0.mk hc1
 clear hr1 hc1
 have H : ((galleyref13_Same.f k l0 l1).bind fun t204 => (some t204)) = some r := h
 clear h
 replace H := Option.bind_eq_some_iff.mp H
 obtain ⟨t204, A30, H⟩ := H
 replace H : (some t204) = some r := H
 have A3 := Aside0.mk A30
 clear A30
 obtain rfl := Option.some.inj H
 go_enter Try.func31, Try.ntmps31
 go_wp2_with (first | ((with_reducible refine gate_callee (f := 77) rfl ?_); refine goesL_ (some 7) rfl rfl Try.func77 (by kernel_rfl) rfl #[.slice A0 l0.length c0, .slice A1 l1.length c1] rfl (by (try simp only [List.map_toArray, List.map_cons, List.map_nil]); first | done | rfl | (simp only [List.length_drop, List.length_take]; rfl)) ?_; (with_reducible refine (galleyref13_Same.calls k _ _ l0 _ _ l1 t204 _ ?side1 ?side2 ?side3 ?side4 A3.out).mono ?_); (case side1 => repeat (first | exact HR0.out | (with_reducible refine Kd.C_alloc ?_ _) | (with_reducible refine Kd.C_drewN ?_ _) | (with_reducible refine Kd.C_drew ?_))); (case side2 => exact HC0.out); (case side3 => repeat (first | exact HR1.out | (with_reducible refine Kd.C_alloc ?_ _) | (with_reducible refine Kd.C_drewN ?_ _) | (with_reducible refine Kd.C_drew ?_))); (case side4 => exact HC1.out); rintro e w' ⟨rfl, ⟨nd, rfl⟩⟩; refine ⟨_, rfl, ?_⟩))
 go_ret
 exact ⟨by first | rfl | (simp; done) | (simp [*]; done), by repeat (first | exact Drawn0.refl _ | apply Drawn0.step)⟩
end Go.Proofs.Ytidihnnkcmeaeaa.A
