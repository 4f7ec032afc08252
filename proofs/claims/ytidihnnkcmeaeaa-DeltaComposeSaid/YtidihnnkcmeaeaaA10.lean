-- Written by a program over the translation (the kit's print, turned so that some functions are taken by contracts of this claim's own).
import Derived.Test.YtidihnnkcmeaeaaA0
import Derived.Test.YtidihnnkcmeaeaaB
namespace Go.Proofs.Ytidihnnkcmeaeaa.A
open Go.RowKit Go.Proofs.YtidihnnkcmeaeaaW.PrintWords Go.Proofs.YtidihnnkcmeaeaaW.PrintLast Go.Proofs.YtidihnnkcmeaeaaW.PrintMore
attribute [local go_sem] max2_int min2_int max_two min_two max_three min_three max_four min_four   -- for this text's walks alone
set_option linter.unusedVariables false
set_option linter.unusedSimpArgs false

/-! ### galleyref13_Valid: function 28 -/
mutual
def galleyref13_Valid.l0 : Nat → List (S70) → Int → Int → Int → Option (Bool)
 | 0, _, _, _, _ => none
 | k + 1, x0, x3, x4, x5 => if x5 < (x0.length : Int) then (if 0 ≤ x5 then (if ((rd_T70 x0 x5).f0) = 1 then (galleyref13_Valid.j1 k x0 x3 x4 x5 ((rd_T70 x0 x5).f0) ((rd_T70 x0 x5).f0) (((rd_T70 x0 x5).f0) == 1)) else (galleyref13_Valid.j1 k x0 x3 x4 x5 ((rd_T70 x0 x5).f0) ((rd_T70 x0 x5).f0) (((rd_T70 x0 x5).f0) == 3))) else (none)) else (some true)
def galleyref13_Valid.j3 : Nat → List (S70) → Int → Int → Int → Int → Option (Bool)
 | 0, _, _, _, _, _ => none
 | k + 1, x0, x3, x4, x5, x6 => if x3 > 268435456 then (galleyref13_Valid.j4 k x0 x3 x4 x5 x6 true) else (galleyref13_Valid.j4 k x0 x3 x4 x5 x6 (decide (x4 > 268435456)))
def galleyref13_Valid.j4 : Nat → List (S70) → Int → Int → Int → Int → Bool → Option (Bool)
 | 0, _, _, _, _, _, _ => none
 | k + 1, x0, x3, x4, x5, x6, x89 => if x89 = true then (some false) else (if x5 > 0 then (if 0 ≤ (wrap64 (x5 - 1)) then (if (wrap64 (x5 - 1)) < (x0.length : Int) then (if 0 ≤ x5 then (if x5 < (x0.length : Int) then (if ((rd_T70 x0 (wrap64 (x5 - 1))).f0) = ((rd_T70 x0 x5).f0) then (some false) else (if x6 = 2 then (if ((rd_T70 x0 (wrap64 (x5 - 1))).f0) = 3 then (some false) else (galleyref13_Valid.l0 k x0 x3 x4 (wrap64 (x5 + 1)))) else (galleyref13_Valid.l0 k x0 x3 x4 (wrap64 (x5 + 1))))) else (none)) else (none)) else (none)) else (none)) else (galleyref13_Valid.l0 k x0 x3 x4 (wrap64 (x5 + 1))))
def galleyref13_Valid.j1 : Nat → List (S70) → Int → Int → Int → Int → Int → Bool → Option (Bool)
 | 0, _, _, _, _, _, _, _ => none
 | k + 1, x0, x3, x4, x5, x6, x18, x19 => if x19 = true then (if 0 ≤ x5 then (if x5 < (x0.length : Int) then (if ((rd_T70 x0 x5).f1) < 1 then (galleyref13_Valid.j2 k x0 x3 x4 x5 x6 true) else (if ((rd_T70 x0 x5).f1) > 268435456 then (galleyref13_Valid.j2 k x0 x3 x4 x5 x6 true) else (galleyref13_Valid.j2 k x0 x3 x4 x5 x6 (((rd_T70 x0 x5).f2).toList != ([] : List UInt8))))) else (none)) else (none)) else (if x18 = 2 then (if 0 ≤ x5 then (if x5 < (x0.length : Int) then (if ((rd_T70 x0 x5).f1) = 0 then (if ((rd_T70 x0 x5).f2).toList = ([] : List UInt8) then (some false) else (galleyref13_Valid.j3 k x0 x3 (wrap64 (x4 + (((rd_T70 x0 x5).f2).size : Int))) x5 x6)) else (some false)) else (none)) else (none)) else (some false))
def galleyref13_Valid.j2 : Nat → List (S70) → Int → Int → Int → Int → Bool → Option (Bool)
 | 0, _, _, _, _, _, _ => none
 | k + 1, x0, x3, x4, x5, x6, x43 => if x43 = true then (some false) else (if 0 ≤ x5 then (if x5 < (x0.length : Int) then (if x6 = 1 then (galleyref13_Valid.j3 k x0 (wrap64 (x3 + ((rd_T70 x0 x5).f1))) (wrap64 (x4 + ((rd_T70 x0 x5).f1))) x5 x6) else (galleyref13_Valid.j3 k x0 (wrap64 (x3 + ((rd_T70 x0 x5).f1))) x4 x5 x6)) else (none)) else (none))
end
def galleyref13_Valid.f (k : Nat) (l0 : List (S70)) : Option (Bool) := galleyref13_Valid.l0 k l0 0 0 0
set_option maxHeartbeats 8000000 in
set_option maxRecDepth 100000 in
theorem galleyref13_Valid.calls (k : Nat) (A0 : Option Addr) (c0 : Nat) (l0 : List (S70)) (r : Bool) (w : World) (hr0 : Kd.C k70 w A0 l0.length l0) (hc0 : l0.length ≤ c0) (h : galleyref13_Valid.f k l0 = some r) :
  Calls Try.prog 28 #[.slice A0 l0.length c0] w fun e w' => e = .returned (.bool r) ∧ Drawn0 w w' := by
 have HR0 := Aside0.mk hr0
 have HC0 := Aside0.mk hc0
 clear hr0 hc0
 have H : (galleyref13_Valid.l0 k l0 0 0 0) = some r := h
 clear h
 have H' := Aside0.mk H
 clear H
 go_enter Try.func28, Try.ntmps28
 go_wp2
 repeat (go_quiet (fail); try go_wp2)
 go_loopg [3, 4, 5] k (fun kq v3 v4 v5 w' => ∃ (x3_1 : Int) (x4_1 : Int) (x5_1 : Int), v3 = .int .i64 x3_1 ∧ v4 = .int .i64 x4_1 ∧ v5 = .int .i64 x5_1 ∧ Aside0 (galleyref13_Valid.l0 kq l0 x3_1 x4_1 x5_1 = some r) ∧ Aside0 (kq ≤ k) ∧ Drawn0 w w')
 case atStart => exact ⟨(0), (0), (0), (by first | rfl | (simp; done) | (simp [*]; done) | (simp; exact isEmpty_bne _)), (by first | rfl | (simp; done) | (simp [*]; done) | (simp; exact isEmpty_bne _)), (by first | rfl | (simp; done) | (simp [*]; done) | (simp; exact isEmpty_bne _)), H', ⟨Nat.le_refl _⟩, by repeat (first | exact Drawn0.refl _ | apply Drawn0.step)⟩
 case round =>
  clear H'
  obtain ⟨x3_1, x4_1, x5_1, rfl, rfl, rfl, HA, HK1, ⟨m1, rfl⟩⟩ := hrel
  cases gk with
  | zero => exact absurd HA.out (by simp [galleyref13_Valid.l0])
  | succ k1 =>
   have H := HA.out
   clear HA
   simp only [galleyref13_Valid.l0] at H
   by_cases c2 : x5_1 < (l0.length : Int)
   ·
    rw [if_pos c2] at H
    have c2b0 : decide (x5_1 < (l0.length : Int)) = true := decide_eq_true c2
    clear c2
    by_cases c3 : 0 ≤ x5_1
    ·
     rw [if_pos c3] at H
     have c3b0 : decide (0 ≤ x5_1) = true := decide_eq_true c3
     clear c3
     have HC4 := Aside0.mk H
     clear H
     have p173 : 0 ≤ (x5_1 : Int) := of_decide_eq_true (by first | (with_reducible assumption) | assumption)
     have q173 : x5_1 < (l0.length : Int) := of_decide_eq_true (by first | (with_reducible assumption) | assumption)
     obtain ⟨ad173, e173, hx173_0, hx173_1, hx173_2⟩ := at_T70 HR0.out x5_1 p173 q173
     cases e173
     replace p173 := eq_true p173
     replace q173 := eq_true q173
     go_upto_block 2 with (fail)
     repeat (go_quiet (fail); go_upto_block 2 with (fail))
     go_cut [3, 4] (fun v3 v4 wc => ∃ (kq : Nat) (x3_3 : Int) (x4_3 : Int), v3 = .int .i64 x3_3 ∧ v4 = .int .i64 x4_3 ∧ Aside0 (galleyref13_Valid.j3 kq l0 x3_3 x4_3 x5_1 ((rd_T70 l0 x5_1).f0) = some r) ∧ Aside0 (kq ≤ k1) ∧ Drawn0 w wc)
     case first =>
      have H := HC4.out
      clear HC4
      have HC5 := Aside0.mk H
      clear H
      go_upto_if 19 with (fail)
      repeat (go_quiet (fail); go_upto_if 19 with (fail))
      go_cut [19] (fun v19 wc => ∃ (kq : Nat) (x19_4 : Bool), v19 = .bool x19_4 ∧ Aside0 (galleyref13_Valid.j1 kq l0 x3_1 x4_1 x5_1 ((rd_T70 l0 x5_1).f0) ((rd_T70 l0 x5_1).f0) x19_4 = some r) ∧ Aside0 (kq ≤ k1) ∧ Drawn0 w wc)
      case first =>
       have H := HC5.out
       clear HC5
       by_cases c6 : ((rd_T70 l0 x5_1).f0) = 1
       ·
        rw [if_pos c6] at H
        have c6b0 : (((rd_T70 l0 x5_1).f0) == 1) = true := beq_iff_eq.mpr c6
        have c6b1 : (((rd_T70 l0 x5_1).f0) != 1) = false := bne_eq_false_iff_eq.mpr c6
        clear c6
        (first | rw [c6b0] | (simp only [i64_w, i32_w]; rw [c6b0]) | skip)
        have H' := Aside0.mk H
        clear H
        go_wp2
        repeat (go_quiet (fail); try go_wp2)
        go_meet
        case rel => exact ⟨_, ((((rd_T70 l0 x5_1).f0) == 1)), (by first | rfl | (simp; done) | (simp [*]; done) | (simp; exact isEmpty_bne _)), H', ⟨by have := HK1.out; first | omega | exact Nat.le_refl _⟩, by repeat (first | exact Drawn0.refl _ | apply Drawn0.step)⟩
       ·
        rw [if_neg c6] at H
        have c6b0 : (((rd_T70 l0 x5_1).f0) == 1) = false := beq_eq_false_iff_ne.mpr c6
        have c6b1 : (((rd_T70 l0 x5_1).f0) != 1) = true := bne_iff_ne.mpr c6
        (first | rw [c6b0] | (simp only [i64_w, i32_w]; rw [c6b0]) | skip)
        have H' := Aside0.mk H
        clear H
        go_wp2
        repeat (go_quiet (fail); try go_wp2)
        go_meet
        case rel => exact ⟨_, ((((rd_T70 l0 x5_1).f0) == 3)), (by first | rfl | (simp; done) | (simp [*]; done) | (simp; exact isEmpty_bne _)), H', ⟨by have := HK1.out; first | omega | exact Nat.le_refl _⟩, by repeat (first | exact Drawn0.refl _ | apply Drawn0.step)⟩
      case rest =>
       clear HC5
       (try clear p1); (try clear q1); (try clear hx1); (try clear c2); (try clear c2b0); (try clear p2); (try clear c3); (try clear c3b0); (try clear c6); (try clear c6b0); (try clear c6b1); (try clear hx173_0); (try clear hx173_1); (try clear hx173_2); (try clear p173); (try clear q173)
       obtain ⟨kq, x19_4, rfl, HA, HJ4, ⟨mc4, rfl⟩⟩ := hcut
       cases kq with
       | zero => exact absurd HA.out (by simp [galleyref13_Valid.j1])
       | succ kj4 =>
        have H := HA.out
        clear HA
        simp only [galleyref13_Valid.j1] at H
        by_cases c7 : x19_4 = true
        ·
         subst c7
         have H1 : (if 0 ≤ x5_1 then (if x5_1 < (l0.length : Int) then (if ((rd_T70 l0 x5_1).f1) < 1 then (galleyref13_Valid.j2 kj4 l0 x3_1 x4_1 x5_1 ((rd_T70 l0 x5_1).f0) true) else (if ((rd_T70 l0 x5_1).f1) > 268435456 then (galleyref13_Valid.j2 kj4 l0 x3_1 x4_1 x5_1 ((rd_T70 l0 x5_1).f0) true) else (galleyref13_Valid.j2 kj4 l0 x3_1 x4_1 x5_1 ((rd_T70 l0 x5_1).f0) (((rd_T70 l0 x5_1).f2).toList != ([] : List UInt8))))) else (none)) else (none)) = some r := by rw [if_pos rfl] at H; exact H
         clear H
         have H := H1
         clear H1
         have HC8 := Aside0.mk H
         clear H
         go_upto_region 10 with (fail)
         repeat (go_quiet (fail); go_upto_region 10 with (fail))
         go_cut [43] (fun v43 wc => ∃ (kq : Nat) (x43_7 : Bool), v43 = .bool x43_7 ∧ Aside0 (galleyref13_Valid.j2 kq l0 x3_1 x4_1 x5_1 ((rd_T70 l0 x5_1).f0) x43_7 = some r) ∧ Aside0 (kq ≤ kj4) ∧ Drawn0 w wc)
         case first =>
          have H := HC8.out
          clear HC8
          by_cases c9 : 0 ≤ x5_1
          ·
           rw [if_pos c9] at H
           have c9b0 : decide (0 ≤ x5_1) = true := decide_eq_true c9
           clear c9
           (first | rw [c9b0] | (simp only [i64_w, i32_w]; rw [c9b0]) | skip)
           by_cases c10 : x5_1 < (l0.length : Int)
           ·
            rw [if_pos c10] at H
            have c10b0 : decide (x5_1 < (l0.length : Int)) = true := decide_eq_true c10
            clear c10
            by_cases c11 : ((rd_T70 l0 x5_1).f1) < 1
            ·
             rw [if_pos c11] at H
             have c11b0 : decide (((rd_T70 l0 x5_1).f1) < 1) = true := decide_eq_true c11
             clear c11
             have H' := Aside0.mk H
             clear H
             have p174 : 0 ≤ (x5_1 : Int) := of_decide_eq_true (by first | (with_reducible assumption) | assumption)
             have q174 : x5_1 < (l0.length : Int) := of_decide_eq_true (by first | (with_reducible assumption) | assumption)
             obtain ⟨ad174, e174, hx174_0, hx174_1, hx174_2⟩ := at_T70 HR0.out x5_1 p174 q174
             obtain rfl : ad173 = ad174 := (by injection e174)
             replace p174 := eq_true p174
             replace q174 := eq_true q174
             go_wp2
             repeat (go_quiet (fail); try go_wp2)
             go_meet
             case rel => exact ⟨_, (true), (by first | rfl | (simp; done) | (simp [*]; done) | (simp; exact isEmpty_bne _)), H', ⟨by have := HK1.out; have := HJ4.out; first | omega | exact Nat.le_refl _⟩, by repeat (first | exact Drawn0.refl _ | apply Drawn0.step)⟩
            ·
             rw [if_neg c11] at H
             have c11b0 : decide (((rd_T70 l0 x5_1).f1) < 1) = false := decide_eq_false c11
             clear c11
             by_cases c12 : ((rd_T70 l0 x5_1).f1) > 268435456
             ·
              rw [if_pos c12] at H
              have c12b0 : decide (268435456 < ((rd_T70 l0 x5_1).f1)) = true := decide_eq_true c12
              clear c12
              have H' := Aside0.mk H
              clear H
              have p174 : 0 ≤ (x5_1 : Int) := of_decide_eq_true (by first | (with_reducible assumption) | assumption)
              have q174 : x5_1 < (l0.length : Int) := of_decide_eq_true (by first | (with_reducible assumption) | assumption)
              obtain ⟨ad174, e174, hx174_0, hx174_1, hx174_2⟩ := at_T70 HR0.out x5_1 p174 q174
              obtain rfl : ad173 = ad174 := (by injection e174)
              replace p174 := eq_true p174
              replace q174 := eq_true q174
              have p175 : 0 ≤ (x5_1 : Int) := of_decide_eq_true (by first | (with_reducible assumption) | assumption)
              have q175 : x5_1 < (l0.length : Int) := of_decide_eq_true (by first | (with_reducible assumption) | assumption)
              obtain ⟨ad175, e175, hx175_0, hx175_1, hx175_2⟩ := at_T70 HR0.out x5_1 p175 q175
              obtain rfl : ad173 = ad175 := (by injection e175)
              replace p175 := eq_true p175
              replace q175 := eq_true q175
              go_wp2
              repeat (go_quiet (fail); try go_wp2)
              go_meet
              case rel => exact ⟨_, (true), (by first | rfl | (simp; done) | (simp [*]; done) | (simp; exact isEmpty_bne _)), H', ⟨by have := HK1.out; have := HJ4.out; first | omega | exact Nat.le_refl _⟩, by repeat (first | exact Drawn0.refl _ | apply Drawn0.step)⟩
             ·
              rw [if_neg c12] at H
              have c12b0 : decide (268435456 < ((rd_T70 l0 x5_1).f1)) = false := decide_eq_false c12
              clear c12
              have H' := Aside0.mk H
              clear H
              have p174 : 0 ≤ (x5_1 : Int) := of_decide_eq_true (by first | (with_reducible assumption) | assumption)
              have q174 : x5_1 < (l0.length : Int) := of_decide_eq_true (by first | (with_reducible assumption) | assumption)
              obtain ⟨ad174, e174, hx174_0, hx174_1, hx174_2⟩ := at_T70 HR0.out x5_1 p174 q174
              obtain rfl : ad173 = ad174 := (by injection e174)
              replace p174 := eq_true p174
              replace q174 := eq_true q174
              have p175 : 0 ≤ (x5_1 : Int) := of_decide_eq_true (by first | (with_reducible assumption) | assumption)
              have q175 : x5_1 < (l0.length : Int) := of_decide_eq_true (by first | (with_reducible assumption) | assumption)
              obtain ⟨ad175, e175, hx175_0, hx175_1, hx175_2⟩ := at_T70 HR0.out x5_1 p175 q175
              obtain rfl : ad173 = ad175 := (by injection e175)
              replace p175 := eq_true p175
              replace q175 := eq_true q175
              have p176 : 0 ≤ (x5_1 : Int) := of_decide_eq_true (by first | (with_reducible assumption) | assumption)
              have q176 : x5_1 < (l0.length : Int) := of_decide_eq_true (by first | (with_reducible assumption) | assumption)
              obtain ⟨ad176, e176, hx176_0, hx176_1, hx176_2⟩ := at_T70 HR0.out x5_1 p176 q176
              obtain rfl : ad173 = ad176 := (by injection e176)
              replace p176 := eq_true p176
              replace q176 := eq_true q176
              go_wp2
              repeat (go_quiet (fail); try go_wp2)
              go_meet
              case rel => exact ⟨_, ((((rd_T70 l0 x5_1).f2).toList != ([] : List UInt8))), (by first | rfl | (simp; done) | (simp [*]; done) | (simp; exact isEmpty_bne _)), H', ⟨by have := HK1.out; have := HJ4.out; first | omega | exact Nat.le_refl _⟩, by repeat (first | exact Drawn0.refl _ | apply Drawn0.step)⟩
           ·
            rw [if_neg c10] at H
            exact absurd H (by simp)
          ·
           rw [if_neg c9] at H
           exact absurd H (by simp)
         case rest =>
          clear HC8
          (try clear c1); (try clear p1); (try clear q1); (try clear hx1); (try clear c2); (try clear c2b0); (try clear p2); (try clear c3); (try clear c3b0); (try clear c4); (try clear c6); (try clear c6b0); (try clear c6b1); (try clear c7); (try clear c9); (try clear c9b0); (try clear c10); (try clear c10b0); (try clear c11); (try clear c11b0); (try clear c12); (try clear c12b0); (try clear hx173_0); (try clear hx173_1); (try clear hx173_2); (try clear hx174_0); (try clear hx174_1); (try clear hx174_2); (try clear hx175_0); (try clear hx175_1); (try clear hx175_2); (try clear hx176_0); (try clear hx176_1); (try clear hx176_2); (try clear p1); (try clear p173); (try clear p174); (try clear p175); (try clear p176); (try clear p2); (try clear q1); (try clear q173); (try clear q174); (try clear q175); (try clear q176)
          obtain ⟨kq, x43_7, rfl, HA, HJ7, ⟨mc7, rfl⟩⟩ := hcut
          cases kq with
          | zero => exact absurd HA.out (by simp [galleyref13_Valid.j2])
          | succ kj7 =>
           have H := HA.out
           clear HA
           simp only [galleyref13_Valid.j2] at H
           by_cases c13 : x43_7 = true
           ·
            subst c13
            have H1 : (some false) = some r := by rw [if_pos rfl] at H; exact H
            clear H
            have H := H1
            clear H1
            obtain rfl := Option.some.inj H
            go_wp2
            repeat (go_quiet (fail); try go_wp2)
            go_ret
            exact ⟨by first | rfl | (simp; done) | (simp [*]; done), by repeat (first | exact Drawn0.refl _ | apply Drawn0.step)⟩
           ·
            replace c13 := Bool.eq_false_iff.mpr c13
            subst c13
            have H1 : (if 0 ≤ x5_1 then (if x5_1 < (l0.length : Int) then (if ((rd_T70 l0 x5_1).f0) = 1 then (galleyref13_Valid.j3 kj7 l0 (wrap64 (x3_1 + ((rd_T70 l0 x5_1).f1))) (wrap64 (x4_1 + ((rd_T70 l0 x5_1).f1))) x5_1 ((rd_T70 l0 x5_1).f0)) else (galleyref13_Valid.j3 kj7 l0 (wrap64 (x3_1 + ((rd_T70 l0 x5_1).f1))) x4_1 x5_1 ((rd_T70 l0 x5_1).f0))) else (none)) else (none)) = some r := by rw [if_neg (show ¬ (false = true) by decide)] at H; exact H
            clear H
            have H := H1
            clear H1
            by_cases c14 : 0 ≤ x5_1
            ·
             rw [if_pos c14] at H
             have c14b0 : decide (0 ≤ x5_1) = true := decide_eq_true c14
             clear c14
             by_cases c15 : x5_1 < (l0.length : Int)
             ·
              rw [if_pos c15] at H
              have c15b0 : decide (x5_1 < (l0.length : Int)) = true := decide_eq_true c15
              clear c15
              by_cases c16 : ((rd_T70 l0 x5_1).f0) = 1
              ·
               rw [if_pos c16] at H
               have c16b0 : (((rd_T70 l0 x5_1).f0) == 1) = true := beq_iff_eq.mpr c16
               have c16b1 : (((rd_T70 l0 x5_1).f0) != 1) = false := bne_eq_false_iff_eq.mpr c16
               clear c16
               have H' := Aside0.mk H
               clear H
               have p177 : 0 ≤ (x5_1 : Int) := of_decide_eq_true (by first | (with_reducible assumption) | assumption)
               have q177 : x5_1 < (l0.length : Int) := of_decide_eq_true (by first | (with_reducible assumption) | assumption)
               obtain ⟨ad177, e177, hx177_0, hx177_1, hx177_2⟩ := at_T70 HR0.out x5_1 p177 q177
               obtain rfl : ad173 = ad177 := (by injection e177)
               replace p177 := eq_true p177
               replace q177 := eq_true q177
               have p178 : 0 ≤ (x5_1 : Int) := of_decide_eq_true (by first | (with_reducible assumption) | assumption)
               have q178 : x5_1 < (l0.length : Int) := of_decide_eq_true (by first | (with_reducible assumption) | assumption)
               obtain ⟨ad178, e178, hx178_0, hx178_1, hx178_2⟩ := at_T70 HR0.out x5_1 p178 q178
               obtain rfl : ad173 = ad178 := (by injection e178)
               replace p178 := eq_true p178
               replace q178 := eq_true q178
               go_wp2
               repeat (go_quiet (fail); try go_wp2)
               go_meet
               case rel => exact ⟨_, (wrap64 (x3_1 + ((rd_T70 l0 x5_1).f1))), (wrap64 (x4_1 + ((rd_T70 l0 x5_1).f1))), (by first | rfl | (simp; done) | (simp [*]; done) | (simp; exact isEmpty_bne _)), (by first | rfl | (simp; done) | (simp [*]; done) | (simp; exact isEmpty_bne _)), H', ⟨by have := HK1.out; have := HJ4.out; have := HJ7.out; first | omega | exact Nat.le_refl _⟩, by repeat (first | exact Drawn0.refl _ | apply Drawn0.step)⟩
              ·
               rw [if_neg c16] at H
               have c16b0 : (((rd_T70 l0 x5_1).f0) == 1) = false := beq_eq_false_iff_ne.mpr c16
               have c16b1 : (((rd_T70 l0 x5_1).f0) != 1) = true := bne_iff_ne.mpr c16
               have H' := Aside0.mk H
               clear H
               have p177 : 0 ≤ (x5_1 : Int) := of_decide_eq_true (by first | (with_reducible assumption) | assumption)
               have q177 : x5_1 < (l0.length : Int) := of_decide_eq_true (by first | (with_reducible assumption) | assumption)
               obtain ⟨ad177, e177, hx177_0, hx177_1, hx177_2⟩ := at_T70 HR0.out x5_1 p177 q177
               obtain rfl : ad173 = ad177 := (by injection e177)
               replace p177 := eq_true p177
               replace q177 := eq_true q177
               go_wp2
               repeat (go_quiet (fail); try go_wp2)
               go_meet
               case rel => exact ⟨_, (wrap64 (x3_1 + ((rd_T70 l0 x5_1).f1))), (x4_1), (by first | rfl | (simp; done) | (simp [*]; done) | (simp; exact isEmpty_bne _)), (by first | rfl | (simp; done) | (simp [*]; done) | (simp; exact isEmpty_bne _)), H', ⟨by have := HK1.out; have := HJ4.out; have := HJ7.out; first | omega | exact Nat.le_refl _⟩, by repeat (first | exact Drawn0.refl _ | apply Drawn0.step)⟩
             ·
              rw [if_neg c15] at H
              exact absurd H (by simp)
            ·
             rw [if_neg c14] at H
             exact absurd H (by simp)
        ·
         replace c7 := Bool.eq_false_iff.mpr c7
         subst c7
         have H1 : (if ((rd_T70 l0 x5_1).f0) = 2 then (if 0 ≤ x5_1 then (if x5_1 < (l0.length : Int) then (if ((rd_T70 l0 x5_1).f1) = 0 then (if ((rd_T70 l0 x5_1).f2).toList = ([] : List UInt8) then (some false) else (galleyref13_Valid.j3 kj4 l0 x3_1 (wrap64 (x4_1 + (((rd_T70 l0 x5_1).f2).size : Int))) x5_1 ((rd_T70 l0 x5_1).f0))) else (some false)) else (none)) else (none)) else (some false)) = some r := by rw [if_neg (show ¬ (false = true) by decide)] at H; exact H
         clear H
         have H := H1
         clear H1
         by_cases c17 : ((rd_T70 l0 x5_1).f0) = 2
         ·
          rw [if_pos c17] at H
          have c17b0 : (((rd_T70 l0 x5_1).f0) == 2) = true := beq_iff_eq.mpr c17
          have c17b1 : (((rd_T70 l0 x5_1).f0) != 2) = false := bne_eq_false_iff_eq.mpr c17
          clear c17
          by_cases c18 : 0 ≤ x5_1
          ·
           rw [if_pos c18] at H
           have c18b0 : decide (0 ≤ x5_1) = true := decide_eq_true c18
           clear c18
           by_cases c19 : x5_1 < (l0.length : Int)
           ·
            rw [if_pos c19] at H
            have c19b0 : decide (x5_1 < (l0.length : Int)) = true := decide_eq_true c19
            clear c19
            by_cases c20 : ((rd_T70 l0 x5_1).f1) = 0
            ·
             rw [if_pos c20] at H
             have c20b0 : (((rd_T70 l0 x5_1).f1) == 0) = true := beq_iff_eq.mpr c20
             have c20b1 : (((rd_T70 l0 x5_1).f1) != 0) = false := bne_eq_false_iff_eq.mpr c20
             clear c20
             by_cases c21 : ((rd_T70 l0 x5_1).f2).toList = ([] : List UInt8)
             ·
              rw [if_pos c21] at H
              have c21b0 : (((rd_T70 l0 x5_1).f2).toList == ([] : List UInt8)) = true := beq_iff_eq.mpr c21
              have c21b1 : (((rd_T70 l0 x5_1).f2).toList != ([] : List UInt8)) = false := bne_eq_false_iff_eq.mpr c21
              clear c21
              obtain rfl := Option.some.inj H
              have p179 : 0 ≤ (x5_1 : Int) := of_decide_eq_true (by first | (with_reducible assumption) | assumption)
              have q179 : x5_1 < (l0.length : Int) := of_decide_eq_true (by first | (with_reducible assumption) | assumption)
              obtain ⟨ad179, e179, hx179_0, hx179_1, hx179_2⟩ := at_T70 HR0.out x5_1 p179 q179
              obtain rfl : ad173 = ad179 := (by injection e179)
              replace p179 := eq_true p179
              replace q179 := eq_true q179
              have p180 : 0 ≤ (x5_1 : Int) := of_decide_eq_true (by first | (with_reducible assumption) | assumption)
              have q180 : x5_1 < (l0.length : Int) := of_decide_eq_true (by first | (with_reducible assumption) | assumption)
              obtain ⟨ad180, e180, hx180_0, hx180_1, hx180_2⟩ := at_T70 HR0.out x5_1 p180 q180
              obtain rfl : ad173 = ad180 := (by injection e180)
              replace p180 := eq_true p180
              replace q180 := eq_true q180
              go_wp2
              repeat (go_quiet (fail); try go_wp2)
              go_ret
              exact ⟨by first | rfl | (simp; done) | (simp [*]; done), by repeat (first | exact Drawn0.refl _ | apply Drawn0.step)⟩
             ·
              rw [if_neg c21] at H
              have c21b0 : (((rd_T70 l0 x5_1).f2).toList == ([] : List UInt8)) = false := beq_eq_false_iff_ne.mpr c21
              have c21b1 : (((rd_T70 l0 x5_1).f2).toList != ([] : List UInt8)) = true := bne_iff_ne.mpr c21
              have H' := Aside0.mk H
              clear H
              have p179 : 0 ≤ (x5_1 : Int) := of_decide_eq_true (by first | (with_reducible assumption) | assumption)
              have q179 : x5_1 < (l0.length : Int) := of_decide_eq_true (by first | (with_reducible assumption) | assumption)
              obtain ⟨ad179, e179, hx179_0, hx179_1, hx179_2⟩ := at_T70 HR0.out x5_1 p179 q179
              obtain rfl : ad173 = ad179 := (by injection e179)
              replace p179 := eq_true p179
              replace q179 := eq_true q179
              have p180 : 0 ≤ (x5_1 : Int) := of_decide_eq_true (by first | (with_reducible assumption) | assumption)
              have q180 : x5_1 < (l0.length : Int) := of_decide_eq_true (by first | (with_reducible assumption) | assumption)
              obtain ⟨ad180, e180, hx180_0, hx180_1, hx180_2⟩ := at_T70 HR0.out x5_1 p180 q180
              obtain rfl : ad173 = ad180 := (by injection e180)
              replace p180 := eq_true p180
              replace q180 := eq_true q180
              have p181 : 0 ≤ (x5_1 : Int) := of_decide_eq_true (by first | (with_reducible assumption) | assumption)
              have q181 : x5_1 < (l0.length : Int) := of_decide_eq_true (by first | (with_reducible assumption) | assumption)
              obtain ⟨ad181, e181, hx181_0, hx181_1, hx181_2⟩ := at_T70 HR0.out x5_1 p181 q181
              obtain rfl : ad173 = ad181 := (by injection e181)
              replace p181 := eq_true p181
              replace q181 := eq_true q181
              go_wp2
              repeat (go_quiet (fail); try go_wp2)
              go_meet
              case rel => exact ⟨_, (x3_1), (wrap64 (x4_1 + (((rd_T70 l0 x5_1).f2).size : Int))), (by first | rfl | (simp; done) | (simp [*]; done) | (simp; exact isEmpty_bne _)), (by first | rfl | (simp; done) | (simp [*]; done) | (simp; exact isEmpty_bne _)), H', ⟨by have := HK1.out; have := HJ4.out; first | omega | exact Nat.le_refl _⟩, by repeat (first | exact Drawn0.refl _ | apply Drawn0.step)⟩
            ·
             rw [if_neg c20] at H
             have c20b0 : (((rd_T70 l0 x5_1).f1) == 0) = false := beq_eq_false_iff_ne.mpr c20
             have c20b1 : (((rd_T70 l0 x5_1).f1) != 0) = true := bne_iff_ne.mpr c20
             obtain rfl := Option.some.inj H
             have p179 : 0 ≤ (x5_1 : Int) := of_decide_eq_true (by first | (with_reducible assumption) | assumption)
             have q179 : x5_1 < (l0.length : Int) := of_decide_eq_true (by first | (with_reducible assumption) | assumption)
             obtain ⟨ad179, e179, hx179_0, hx179_1, hx179_2⟩ := at_T70 HR0.out x5_1 p179 q179
             obtain rfl : ad173 = ad179 := (by injection e179)
             replace p179 := eq_true p179
             replace q179 := eq_true q179
             go_wp2
             repeat (go_quiet (fail); try go_wp2)
             go_ret
             exact ⟨by first | rfl | (simp; done) | (simp [*]; done), by repeat (first | exact Drawn0.refl _ | apply Drawn0.step)⟩
           ·
            rw [if_neg c19] at H
            exact absurd H (by simp)
          ·
           rw [if_neg c18] at H
           exact absurd H (by simp)
         ·
          rw [if_neg c17] at H
          have c17b0 : (((rd_T70 l0 x5_1).f0) == 2) = false := beq_eq_false_iff_ne.mpr c17
          have c17b1 : (((rd_T70 l0 x5_1).f0) != 2) = true := bne_iff_ne.mpr c17
          obtain rfl := Option.some.inj H
          go_wp2
          repeat (go_quiet (fail); try go_wp2)
          go_ret
          exact ⟨by first | rfl | (simp; done) | (simp [*]; done), by repeat (first | exact Drawn0.refl _ | apply Drawn0.step)⟩
     case rest =>
      clear HC4
      (try clear c1); (try clear p1); (try clear q1); (try clear hx1); (try clear c2); (try clear c2b0); (try clear p2); (try clear c3); (try clear c3b0); (try clear c4); (try clear c6); (try clear c6b0); (try clear c6b1); (try clear p6); (try clear c7); (try clear c9); (try clear c9b0); (try clear c10); (try clear c10b0); (try clear c11); (try clear c11b0); (try clear c12); (try clear c12b0); (try clear c13); (try clear c14); (try clear c14b0); (try clear c15); (try clear c15b0); (try clear c16); (try clear c16b0); (try clear c16b1); (try clear c17); (try clear c17b0); (try clear c17b1); (try clear p17); (try clear q17); (try clear hx17); (try clear c18); (try clear c18b0); (try clear p18); (try clear q18); (try clear hx18); (try clear c19); (try clear c19b0); (try clear c20); (try clear c20b0); (try clear c20b1); (try clear c21); (try clear c21b0); (try clear c21b1); (try clear hx173_0); (try clear hx173_1); (try clear hx173_2); (try clear hx174_0); (try clear hx174_1); (try clear hx174_2); (try clear hx175_0); (try clear hx175_1); (try clear hx175_2); (try clear hx176_0); (try clear hx176_1); (try clear hx176_2); (try clear hx177_0); (try clear hx177_1); (try clear hx177_2); (try clear hx178_0); (try clear hx178_1); (try clear hx178_2); (try clear hx179_0); (try clear hx179_1); (try clear hx179_2); (try clear hx180_0); (try clear hx180_1); (try clear hx180_2); (try clear hx181_0); (try clear hx181_1); (try clear hx181_2); (try clear p1); (try clear p173); (try clear p174); (try clear p175); (try clear p176); (try clear p177); (try clear p178); (try clear p179); (try clear p180); (try clear p181); (try clear p2); (try clear q1); (try clear q173); (try clear q174); (try clear q175); (try clear q176); (try clear q177); (try clear q178); (try clear q179); (try clear q180); (try clear q181)
      obtain ⟨kq, x3_3, x4_3, rfl, rfl, HA, HJ3, ⟨mc3, rfl⟩⟩ := hcut
      cases kq with
      | zero => exact absurd HA.out (by simp [galleyref13_Valid.j3])
      | succ kj3 =>
       have H := HA.out
       clear HA
       simp only [galleyref13_Valid.j3] at H
       have HC22 := Aside0.mk H
       clear H
       go_upto_region 19 with (fail)
       repeat (go_quiet (fail); go_upto_region 19 with (fail))
       go_cut [89] (fun v89 wc => ∃ (kq : Nat) (x89_21 : Bool), v89 = .bool x89_21 ∧ Aside0 (galleyref13_Valid.j4 kq l0 x3_3 x4_3 x5_1 ((rd_T70 l0 x5_1).f0) x89_21 = some r) ∧ Aside0 (kq ≤ kj3) ∧ Drawn0 w wc)
       case first =>
        have H := HC22.out
        clear HC22
        by_cases c23 : x3_3 > 268435456
        ·
         rw [if_pos c23] at H
         have c23b0 : decide (268435456 < x3_3) = true := decide_eq_true c23
         clear c23
         (first | rw [c23b0] | (simp only [i64_w, i32_w]; rw [c23b0]) | skip)
         have H' := Aside0.mk H
         clear H
         go_wp2
         repeat (go_quiet (fail); try go_wp2)
         go_meet
         case rel => exact ⟨_, (true), (by first | rfl | (simp; done) | (simp [*]; done) | (simp; exact isEmpty_bne _)), H', ⟨by have := HK1.out; have := HJ3.out; first | omega | exact Nat.le_refl _⟩, by repeat (first | exact Drawn0.refl _ | apply Drawn0.step)⟩
        ·
         rw [if_neg c23] at H
         have c23b0 : decide (268435456 < x3_3) = false := decide_eq_false c23
         clear c23
         (first | rw [c23b0] | (simp only [i64_w, i32_w]; rw [c23b0]) | skip)
         have H' := Aside0.mk H
         clear H
         go_wp2
         repeat (go_quiet (fail); try go_wp2)
         go_meet
         case rel => exact ⟨_, (decide (x4_3 > 268435456)), (by first | rfl | (simp; done) | (simp [*]; done) | (simp; exact isEmpty_bne _)), H', ⟨by have := HK1.out; have := HJ3.out; first | omega | exact Nat.le_refl _⟩, by repeat (first | exact Drawn0.refl _ | apply Drawn0.step)⟩
       case rest =>
        clear HC22
        (try clear c1); (try clear p1); (try clear q1); (try clear hx1); (try clear c2); (try clear c2b0); (try clear p2); (try clear c3); (try clear c3b0); (try clear c4); (try clear c6); (try clear c6b0); (try clear c6b1); (try clear p6); (try clear c7); (try clear c9); (try clear c9b0); (try clear c10); (try clear c10b0); (try clear c11); (try clear c11b0); (try clear c12); (try clear c12b0); (try clear c13); (try clear c14); (try clear c14b0); (try clear c15); (try clear c15b0); (try clear c16); (try clear c16b0); (try clear c16b1); (try clear c17); (try clear c17b0); (try clear c17b1); (try clear p17); (try clear q17); (try clear hx17); (try clear c18); (try clear c18b0); (try clear p18); (try clear q18); (try clear hx18); (try clear c19); (try clear c19b0); (try clear c20); (try clear c20b0); (try clear c20b1); (try clear c21); (try clear c21b0); (try clear c21b1); (try clear c23); (try clear c23b0); (try clear hx173_0); (try clear hx173_1); (try clear hx173_2); (try clear hx174_0); (try clear hx174_1); (try clear hx174_2); (try clear hx175_0); (try clear hx175_1); (try clear hx175_2); (try clear hx176_0); (try clear hx176_1); (try clear hx176_2); (try clear hx177_0); (try clear hx177_1); (try clear hx177_2); (try clear hx178_0); (try clear hx178_1); (try clear hx178_2); (try clear hx179_0); (try clear hx179_1); (try clear hx179_2); (try clear hx180_0); (try clear hx180_1); (try clear hx180_2); (try clear hx181_0); (try clear hx181_1); (try clear hx181_2); (try clear p1); (try clear p17); (try clear p173); (try clear p174); (try clear p175); (try clear p176); (try clear p177); (try clear p178); (try clear p179); (try clear p18); (try clear p180); (try clear p181); (try clear p2); (try clear p6); (try clear q1); (try clear q17); (try clear q173); (try clear q174); (try clear q175); (try clear q176); (try clear q177); (try clear q178); (try clear q179); (try clear q18); (try clear q180); (try clear q181)
        obtain ⟨kq, x89_21, rfl, HA, HJ21, ⟨mc21, rfl⟩⟩ := hcut
        cases kq with
        | zero => exact absurd HA.out (by simp [galleyref13_Valid.j4])
        | succ kj21 =>
         have H := HA.out
         clear HA
         simp only [galleyref13_Valid.j4] at H
         by_cases c24 : x89_21 = true
         ·
          subst c24
          have H1 : (some false) = some r := by rw [if_pos rfl] at H; exact H
          clear H
          have H := H1
          clear H1
          obtain rfl := Option.some.inj H
          go_wp2
          repeat (go_quiet (fail); try go_wp2)
          go_ret
          exact ⟨by first | rfl | (simp; done) | (simp [*]; done), by repeat (first | exact Drawn0.refl _ | apply Drawn0.step)⟩
         ·
          replace c24 := Bool.eq_false_iff.mpr c24
          subst c24
          have H1 : (if x5_1 > 0 then (if 0 ≤ (wrap64 (x5_1 - 1)) then (if (wrap64 (x5_1 - 1)) < (l0.length : Int) then (if 0 ≤ x5_1 then (if x5_1 < (l0.length : Int) then (if ((rd_T70 l0 (wrap64 (x5_1 - 1))).f0) = ((rd_T70 l0 x5_1).f0) then (some false) else (if ((rd_T70 l0 x5_1).f0) = 2 then (if ((rd_T70 l0 (wrap64 (x5_1 - 1))).f0) = 3 then (some false) else (galleyref13_Valid.l0 kj21 l0 x3_3 x4_3 (wrap64 (x5_1 + 1)))) else (galleyref13_Valid.l0 kj21 l0 x3_3 x4_3 (wrap64 (x5_1 + 1))))) else (none)) else (none)) else (none)) else (none)) else (galleyref13_Valid.l0 kj21 l0 x3_3 x4_3 (wrap64 (x5_1 + 1)))) = some r := by rw [if_neg (show ¬ (false = true) by decide)] at H; exact H
          clear H
          have H := H1
          clear H1
          by_cases c25 : x5_1 > 0
          ·
           rw [if_pos c25] at H
           have c25b0 : decide (0 < x5_1) = true := decide_eq_true c25
           clear c25
           obtain ⟨ji26, hji26⟩ : ∃ j_ : Int, (wrap64 (x5_1 - 1)) = j_ := ⟨_, rfl⟩
           replace H : (if 0 ≤ (ji26) then (if (ji26) < (l0.length : Int) then (if 0 ≤ x5_1 then (if x5_1 < (l0.length : Int) then (if ((rd_T70 l0 (ji26)).f0) = ((rd_T70 l0 x5_1).f0) then (some false) else (if ((rd_T70 l0 x5_1).f0) = 2 then (if ((rd_T70 l0 (ji26)).f0) = 3 then (some false) else (galleyref13_Valid.l0 kj21 l0 x3_3 x4_3 (wrap64 (x5_1 + 1)))) else (galleyref13_Valid.l0 kj21 l0 x3_3 x4_3 (wrap64 (x5_1 + 1))))) else (none)) else (none)) else (none)) else (none)) = some r := by first | (rw [hji26] at H; exact H) | (simp only [hji26] at H ⊢; exact H)
           have hji26w : (IntKind.i64.wrap (x5_1 - 1)) = ji26 := (i64_w _).trans hji26
           by_cases c27 : 0 ≤ (ji26)
           ·
            rw [if_pos c27] at H
            have c27b0 : decide (0 ≤ (ji26)) = true := decide_eq_true c27
            clear c27
            by_cases c28 : (ji26) < (l0.length : Int)
            ·
             rw [if_pos c28] at H
             have c28b0 : decide ((ji26) < (l0.length : Int)) = true := decide_eq_true c28
             clear c28
             by_cases c29 : 0 ≤ x5_1
             ·
              rw [if_pos c29] at H
              have c29b0 : decide (0 ≤ x5_1) = true := decide_eq_true c29
              clear c29
              by_cases c30 : x5_1 < (l0.length : Int)
              ·
               rw [if_pos c30] at H
               have c30b0 : decide (x5_1 < (l0.length : Int)) = true := decide_eq_true c30
               clear c30
               by_cases c31 : ((rd_T70 l0 (ji26)).f0) = ((rd_T70 l0 x5_1).f0)
               ·
                rw [if_pos c31] at H
                have c31b0 : (((rd_T70 l0 (ji26)).f0) == ((rd_T70 l0 x5_1).f0)) = true := beq_iff_eq.mpr c31
                have c31b1 : (((rd_T70 l0 (ji26)).f0) != ((rd_T70 l0 x5_1).f0)) = false := bne_eq_false_iff_eq.mpr c31
                clear c31
                obtain rfl := Option.some.inj H
                have p182 : 0 ≤ ((ji26) : Int) := of_decide_eq_true (by first | (with_reducible assumption) | assumption)
                have q182 : (ji26) < (l0.length : Int) := of_decide_eq_true (by first | (with_reducible assumption) | assumption)
                obtain ⟨ad182, e182, hx182_0, hx182_1, hx182_2⟩ := at_T70 HR0.out (ji26) p182 q182
                obtain rfl : ad173 = ad182 := (by injection e182)
                replace p182 := eq_true p182
                replace q182 := eq_true q182
                have p183 : 0 ≤ (x5_1 : Int) := of_decide_eq_true (by first | (with_reducible assumption) | assumption)
                have q183 : x5_1 < (l0.length : Int) := of_decide_eq_true (by first | (with_reducible assumption) | assumption)
                obtain ⟨ad183, e183, hx183_0, hx183_1, hx183_2⟩ := at_T70 HR0.out x5_1 p183 q183
                obtain rfl : ad173 = ad183 := (by injection e183)
                replace p183 := eq_true p183
                replace q183 := eq_true q183
                go_wp2
                repeat (go_quiet (fail); try go_wp2)
                go_ret
                exact ⟨by first | rfl | (simp; done) | (simp only [← hji26] <;> (first | rfl | simp)) | (simp [*]; done), by repeat (first | exact Drawn0.refl _ | apply Drawn0.step)⟩
               ·
                rw [if_neg c31] at H
                have c31b0 : (((rd_T70 l0 (ji26)).f0) == ((rd_T70 l0 x5_1).f0)) = false := beq_eq_false_iff_ne.mpr c31
                have c31b1 : (((rd_T70 l0 (ji26)).f0) != ((rd_T70 l0 x5_1).f0)) = true := bne_iff_ne.mpr c31
                by_cases c32 : ((rd_T70 l0 x5_1).f0) = 2
                ·
                 rw [if_pos c32] at H
                 have c32b0 : (((rd_T70 l0 x5_1).f0) == 2) = true := beq_iff_eq.mpr c32
                 have c32b1 : (((rd_T70 l0 x5_1).f0) != 2) = false := bne_eq_false_iff_eq.mpr c32
                 clear c32
                 by_cases c33 : ((rd_T70 l0 (ji26)).f0) = 3
                 ·
                  rw [if_pos c33] at H
                  have c33b0 : (((rd_T70 l0 (ji26)).f0) == 3) = true := beq_iff_eq.mpr c33
                  have c33b1 : (((rd_T70 l0 (ji26)).f0) != 3) = false := bne_eq_false_iff_eq.mpr c33
                  clear c33
                  obtain rfl := Option.some.inj H
                  have p182 : 0 ≤ ((ji26) : Int) := of_decide_eq_true (by first | (with_reducible assumption) | assumption)
                  have q182 : (ji26) < (l0.length : Int) := of_decide_eq_true (by first | (with_reducible assumption) | assumption)
                  obtain ⟨ad182, e182, hx182_0, hx182_1, hx182_2⟩ := at_T70 HR0.out (ji26) p182 q182
                  obtain rfl : ad173 = ad182 := (by injection e182)
                  replace p182 := eq_true p182
                  replace q182 := eq_true q182
                  have p183 : 0 ≤ (x5_1 : Int) := of_decide_eq_true (by first | (with_reducible assumption) | assumption)
                  have q183 : x5_1 < (l0.length : Int) := of_decide_eq_true (by first | (with_reducible assumption) | assumption)
                  obtain ⟨ad183, e183, hx183_0, hx183_1, hx183_2⟩ := at_T70 HR0.out x5_1 p183 q183
                  obtain rfl : ad173 = ad183 := (by injection e183)
                  replace p183 := eq_true p183
                  replace q183 := eq_true q183
                  have p184 : 0 ≤ ((ji26) : Int) := of_decide_eq_true (by first | (with_reducible assumption) | assumption)
                  have q184 : (ji26) < (l0.length : Int) := of_decide_eq_true (by first | (with_reducible assumption) | assumption)
                  obtain ⟨ad184, e184, hx184_0, hx184_1, hx184_2⟩ := at_T70 HR0.out (ji26) p184 q184
                  obtain rfl : ad173 = ad184 := (by injection e184)
                  replace p184 := eq_true p184
                  replace q184 := eq_true q184
                  go_wp2
                  repeat (go_quiet (fail); try go_wp2)
                  go_ret
                  exact ⟨by first | rfl | (simp; done) | (simp only [← hji26] <;> (first | rfl | simp)) | (simp [*]; done), by repeat (first | exact Drawn0.refl _ | apply Drawn0.step)⟩
                 ·
                  rw [if_neg c33] at H
                  have c33b0 : (((rd_T70 l0 (ji26)).f0) == 3) = false := beq_eq_false_iff_ne.mpr c33
                  have c33b1 : (((rd_T70 l0 (ji26)).f0) != 3) = true := bne_iff_ne.mpr c33
                  have H' := Aside0.mk H
                  clear H
                  have p182 : 0 ≤ ((ji26) : Int) := of_decide_eq_true (by first | (with_reducible assumption) | assumption)
                  have q182 : (ji26) < (l0.length : Int) := of_decide_eq_true (by first | (with_reducible assumption) | assumption)
                  obtain ⟨ad182, e182, hx182_0, hx182_1, hx182_2⟩ := at_T70 HR0.out (ji26) p182 q182
                  obtain rfl : ad173 = ad182 := (by injection e182)
                  replace p182 := eq_true p182
                  replace q182 := eq_true q182
                  have p183 : 0 ≤ (x5_1 : Int) := of_decide_eq_true (by first | (with_reducible assumption) | assumption)
                  have q183 : x5_1 < (l0.length : Int) := of_decide_eq_true (by first | (with_reducible assumption) | assumption)
                  obtain ⟨ad183, e183, hx183_0, hx183_1, hx183_2⟩ := at_T70 HR0.out x5_1 p183 q183
                  obtain rfl : ad173 = ad183 := (by injection e183)
                  replace p183 := eq_true p183
                  replace q183 := eq_true q183
                  have p184 : 0 ≤ ((ji26) : Int) := of_decide_eq_true (by first | (with_reducible assumption) | assumption)
                  have q184 : (ji26) < (l0.length : Int) := of_decide_eq_true (by first | (with_reducible assumption) | assumption)
                  obtain ⟨ad184, e184, hx184_0, hx184_1, hx184_2⟩ := at_T70 HR0.out (ji26) p184 q184
                  obtain rfl : ad173 = ad184 := (by injection e184)
                  replace p184 := eq_true p184
                  replace q184 := eq_true q184
                  go_wp2
                  repeat (go_quiet (fail); try go_wp2)
                  go_roundg kj21
                  case measure => have := HK1.out; have := HJ3.out; have := HJ21.out; omega
                  case rel => exact ⟨(x3_3), (x4_3), (wrap64 (x5_1 + 1)), (by first | rfl | (simp; done) | (simp [*]; done) | (simp; exact isEmpty_bne _)), (by first | rfl | (simp; done) | (simp [*]; done) | (simp; exact isEmpty_bne _)), (by first | rfl | (simp; done) | (simp [*]; done) | (simp; exact isEmpty_bne _)), H', ⟨by have := HK1.out; have := HJ3.out; have := HJ21.out; omega⟩, by repeat (first | exact Drawn0.refl _ | apply Drawn0.step)⟩
                ·
                 rw [if_neg c32] at H
                 have c32b0 : (((rd_T70 l0 x5_1).f0) == 2) = false := beq_eq_false_iff_ne.mpr c32
                 have c32b1 : (((rd_T70 l0 x5_1).f0) != 2) = true := bne_iff_ne.mpr c32
                 have H' := Aside0.mk H
                 clear H
                 have p182 : 0 ≤ ((ji26) : Int) := of_decide_eq_true (by first | (with_reducible assumption) | assumption)
                 have q182 : (ji26) < (l0.length : Int) := of_decide_eq_true (by first | (with_reducible assumption) | assumption)
                 obtain ⟨ad182, e182, hx182_0, hx182_1, hx182_2⟩ := at_T70 HR0.out (ji26) p182 q182
                 obtain rfl : ad173 = ad182 := (by injection e182)
                 replace p182 := eq_true p182
                 replace q182 := eq_true q182
                 have p183 : 0 ≤ (x5_1 : Int) := of_decide_eq_true (by first | (with_reducible assumption) | assumption)
                 have q183 : x5_1 < (l0.length : Int) := of_decide_eq_true (by first | (with_reducible assumption) | assumption)
                 obtain ⟨ad183, e183, hx183_0, hx183_1, hx183_2⟩ := at_T70 HR0.out x5_1 p183 q183
                 obtain rfl : ad173 = ad183 := (by injection e183)
                 replace p183 := eq_true p183
                 replace q183 := eq_true q183
                 go_wp2
                 repeat (go_quiet (fail); try go_wp2)
                 go_roundg kj21
                 case measure => have := HK1.out; have := HJ3.out; have := HJ21.out; omega
                 case rel => exact ⟨(x3_3), (x4_3), (wrap64 (x5_1 + 1)), (by first | rfl | (simp; done) | (simp [*]; done) | (simp; exact isEmpty_bne _)), (by first | rfl | (simp; done) | (simp [*]; done) | (simp; exact isEmpty_bne _)), (by first | rfl | (simp; done) | (simp [*]; done) | (simp; exact isEmpty_bne _)), H', ⟨by have := HK1.out; have := HJ3.out; have := HJ21.out; omega⟩, by repeat (first | exact Drawn0.refl _ | apply Drawn0.step)⟩
              ·
               rw [if_neg c30] at H
               exact absurd H (by simp)
             ·
              rw [if_neg c29] at H
              exact absurd H (by simp)
            ·
             rw [if_neg c28] at H
             exact absurd H (by simp)
           ·
            rw [if_neg c27] at H
            exact absurd H (by simp)
          ·
           rw [if_neg c25] at H
           have c25b0 : decide (0 < x5_1) = false := decide_eq_false c25
           clear c25
           have H' := Aside0.mk H
           clear H
           go_wp2
           repeat (go_quiet (fail); try go_wp2)
           go_roundg kj21
           case measure => have := HK1.out; have := HJ3.out; have := HJ21.out; omega
           case rel => exact ⟨(x3_3), (x4_3), (wrap64 (x5_1 + 1)), (by first | rfl | (simp; done) | (simp [*]; done) | (simp; exact isEmpty_bne _)), (by first | rfl | (simp; done) | (simp [*]; done) | (simp; exact isEmpty_bne _)), (by first | rfl | (simp; done) | (simp [*]; done) | (simp; exact isEmpty_bne _)), H', ⟨by have := HK1.out; have := HJ3.out; have := HJ21.out; omega⟩, by repeat (first | exact Drawn0.refl _ | apply Drawn0.step)⟩
    ·
     rw [if_neg c3] at H
     exact absurd H (by simp)
   ·
    rw [if_neg c2] at H
    have c2b0 : decide (x5_1 < (l0.length : Int)) = false := decide_eq_false c2
    clear c2
    obtain rfl := Option.some.inj H
    go_wp2
    repeat (go_quiet (fail); try go_wp2)
    go_ret
    exact ⟨by first | rfl | (simp; done) | (simp [*]; done), by repeat (first | exact Drawn0.refl _ | apply Drawn0.step)⟩

end Go.Proofs.Ytidihnnkcmeaeaa.A
