-- Written by a program over the translation (the kit's print, turned so that some functions are taken by contracts of this claim's own).
import Derived.Test.YtidihnnkcmeaeaaA0
import Derived.Test.YtidihnnkcmeaeaaB
import Derived.Test.YtidihnnkcmeaeaaA5
import Derived.Test.YtidihnnkcmeaeaaA23
import Derived.Test.YtidihnnkcmeaeaaA24
namespace Go.Proofs.Ytidihnnkcmeaeaa.A
open Go.RowKit Go.Proofs.YtidihnnkcmeaeaaW.PrintWords Go.Proofs.YtidihnnkcmeaeaaW.PrintLast Go.Proofs.YtidihnnkcmeaeaaW.PrintMore
attribute [local go_sem] max2_int min2_int max_two min_two max_three min_three max_four min_four   -- for this text's walks alone
set_option linter.unusedVariables false
set_option linter.unusedSimpArgs false

/-! ### galleylaw14_ShiftRises: function 16 -/
mutual
def galleylaw14_ShiftRises.j0 : Nat → List (S70) → Int → Int → Int → Int → Bool → Option (Bool)
 | 0, _, _, _, _, _, _ => none
 | k + 1, x0, x1, x2, x7, x8, x45 => if x45 = true then (some true) else ((shift_Place.f k x0 x1 1).bind fun bt1041 => ((shift_Place.f k x0 x1 2).bind fun bt1043 => ((shift_Place.f k x0 x2 1).bind fun bt1045 => ((shift_Place.f k x0 x2 2).bind fun bt1047 => (if bt1041.2 = 0 then (if bt1043.2 = 0 then (if bt1045.2 = 0 then (if bt1047.2 = 0 then (if bt1041.1 < 0 then (galleylaw14_ShiftRises.j1 k x0 x7 x8 true) else (if bt1041.1 > bt1043.1 then (galleylaw14_ShiftRises.j1 k x0 x7 x8 true) else (if bt1045.1 > bt1047.1 then (galleylaw14_ShiftRises.j1 k x0 x7 x8 true) else (if bt1041.1 > bt1045.1 then (galleylaw14_ShiftRises.j1 k x0 x7 x8 true) else (if bt1043.1 > bt1047.1 then (galleylaw14_ShiftRises.j1 k x0 x7 x8 true) else (galleylaw14_ShiftRises.j1 k x0 x7 x8 (decide (bt1047.1 > x8)))))))) else (galleylaw14_ShiftRises.j1 k x0 x7 x8 true)) else (galleylaw14_ShiftRises.j1 k x0 x7 x8 true)) else (galleylaw14_ShiftRises.j1 k x0 x7 x8 true)) else (galleylaw14_ShiftRises.j1 k x0 x7 x8 true))))))
def galleylaw14_ShiftRises.j1 : Nat → List (S70) → Int → Int → Bool → Option (Bool)
 | 0, _, _, _, _ => none
 | k + 1, x0, x7, x8, x112 => if x112 = true then (some false) else ((shift_Place.f k x0 x7 2).bind fun bt1049 => ((shift_Place.f k x0 0 1).bind fun bt1051 => (if bt1049.2 = 0 then (if bt1051.2 = 0 then (if bt1049.1 = x8 then (some (bt1051.1 == 0)) else (some false)) else (some false)) else (some false))))
end
def galleylaw14_ShiftRises.f (k : Nat) (l0 : List (S70)) (a1 : Int) (a2 : Int) : Option (Bool) := (galleylaw14_fixed.f k).bind fun t1037 => (if t1037 = true then ((delta_Lens.f k l0).bind fun bt1038 => (if bt1038.2.2 = 0 then (if a1 < 0 then (galleylaw14_ShiftRises.j0 k l0 a1 a2 bt1038.1 bt1038.2.1 true) else (if a1 > a2 then (galleylaw14_ShiftRises.j0 k l0 a1 a2 bt1038.1 bt1038.2.1 true) else (galleylaw14_ShiftRises.j0 k l0 a1 a2 bt1038.1 bt1038.2.1 (decide (a2 > bt1038.1))))) else (galleylaw14_ShiftRises.j0 k l0 a1 a2 bt1038.1 bt1038.2.1 true))) else (some false))
set_option maxHeartbeats 8000000 in
set_option maxRecDepth 100000 in
theorem galleylaw14_ShiftRises.calls (k : Nat) (A0 : Option Addr) (c0 : Nat) (l0 : List (S70)) (a1 : Int) (a2 : Int) (r : Bool) (w : World) (hr0 : Kd.C k70 w A0 l0.length l0) (hc0 : l0.length ≤ c0) (h : galleylaw14_ShiftRises.f k l0 a1 a2 = some r) :
  Calls Try.prog 16 #[.slice A0 l0.length c0, .int .i64 a1, .int .i64 a2] w fun e w' => e = .returned (.bool r) ∧ Below w.heap.size w w' := by
 have HR0 := Aside0.mk hr0
 have HC0 := Aside0.mk hc0
 clear hr0 hc0
 have HB := Aside0.mk (Below.refl w.heap.size w)
 have H : ((galleylaw14_fixed.f k).bind fun t1037 => (if t1037 = true then ((delta_Lens.f k l0).bind fun bt1038 => (if bt1038.2.2 = 0 then (if a1 < 0 then (galleylaw14_ShiftRises.j0 k l0 a1 a2 bt1038.1 bt1038.2.1 true) else (if a1 > a2 then (galleylaw14_ShiftRises.j0 k l0 a1 a2 bt1038.1 bt1038.2.1 true) else (galleylaw14_ShiftRises.j0 k l0 a1 a2 bt1038.1 bt1038.2.1 (decide (a2 > bt1038.1))))) else (galleylaw14_ShiftRises.j0 k l0 a1 a2 bt1038.1 bt1038.2.1 true))) else (some false))) = some r := h
 clear h
 replace H := Option.bind_eq_some_iff.mp H
 obtain ⟨t1037, A40, H⟩ := H
 replace H : (if t1037 = true then ((delta_Lens.f k l0).bind fun bt1038 => (if bt1038.2.2 = 0 then (if a1 < 0 then (galleylaw14_ShiftRises.j0 k l0 a1 a2 bt1038.1 bt1038.2.1 true) else (if a1 > a2 then (galleylaw14_ShiftRises.j0 k l0 a1 a2 bt1038.1 bt1038.2.1 true) else (galleylaw14_ShiftRises.j0 k l0 a1 a2 bt1038.1 bt1038.2.1 (decide (a2 > bt1038.1))))) else (galleylaw14_ShiftRises.j0 k l0 a1 a2 bt1038.1 bt1038.2.1 true))) else (some false)) = some r := H
 have A4 := Aside0.mk A40
 clear A40
 by_cases c5 : t1037 = true
 ·
  subst c5
  have H1 : ((delta_Lens.f k l0).bind fun bt1038 => (if bt1038.2.2 = 0 then (if a1 < 0 then (galleylaw14_ShiftRises.j0 k l0 a1 a2 bt1038.1 bt1038.2.1 true) else (if a1 > a2 then (galleylaw14_ShiftRises.j0 k l0 a1 a2 bt1038.1 bt1038.2.1 true) else (galleylaw14_ShiftRises.j0 k l0 a1 a2 bt1038.1 bt1038.2.1 (decide (a2 > bt1038.1))))) else (galleylaw14_ShiftRises.j0 k l0 a1 a2 bt1038.1 bt1038.2.1 true))) = some r := by rw [if_pos rfl] at H; exact H
  clear H
  have H := H1
  clear H1
  replace H := Option.bind_eq_some_iff.mp H
  obtain ⟨⟨t1038, t1039, t1040⟩, A60, H⟩ := H
  replace H : (if t1040 = 0 then (if a1 < 0 then (galleylaw14_ShiftRises.j0 k l0 a1 a2 t1038 t1039 true) else (if a1 > a2 then (galleylaw14_ShiftRises.j0 k l0 a1 a2 t1038 t1039 true) else (galleylaw14_ShiftRises.j0 k l0 a1 a2 t1038 t1039 (decide (a2 > t1038))))) else (galleylaw14_ShiftRises.j0 k l0 a1 a2 t1038 t1039 true)) = some r := H
  have A6 := Aside0.mk A60
  clear A60
  have HC7 := Aside0.mk H
  clear H
  go_enter Try.func16, Try.ntmps16
  go_upto_region 4 with (first | ((with_reducible refine gate_callee (f := 44) rfl ?_); refine goesL_ (some 22) rfl rfl Try.func44 (by kernel_rfl) rfl #[] rfl (by (try simp only [List.map_toArray, List.map_cons, List.map_nil]); first | done | rfl | (simp only [List.length_drop, List.length_take]; rfl)) ?_; (with_reducible refine (galleylaw14_fixed.calls k  true _ A4.out).mono ?_); rintro e w8 ⟨rfl, hb⟩; refine ⟨_, rfl, ?_⟩; have n0_ := Aside0.mk (below_step (by repeat (first | (with_reducible first | exact HB.out | apply below_alloc | apply pw_below_drewN | apply below_drew1) | exact HB.out)) hb); clear HB; have HB := n0_; clear n0_; (try clear hb); (try clear hb2); (try clear hk); (try clear hi)) | ((with_reducible refine gate_callee (f := 38) rfl ?_); refine goesL_ (some 26) rfl rfl Try.func38 (by kernel_rfl) rfl #[.slice A0 l0.length c0] rfl (by (try simp only [List.map_toArray, List.map_cons, List.map_nil]); first | done | rfl | (simp only [List.length_drop, List.length_take]; rfl)) ?_; (with_reducible refine (delta_Lens.calls k _ _ l0 t1038 t1039 t1040 _ ?side1 ?side2 A6.out).mono ?_); (case side1 => repeat (first | exact (Kd.C_below HR0.out HB.out) | (with_reducible refine Kd.C_alloc ?_ _) | (with_reducible refine Kd.C_drewN ?_ _) | (with_reducible refine Kd.C_drew ?_))); (case side2 => exact HC0.out); rintro e w9 ⟨rfl, hb⟩; refine ⟨_, rfl, ?_⟩; have n0_ := Aside0.mk (below_step (by repeat (first | (with_reducible first | exact HB.out | apply below_alloc | apply pw_below_drewN | apply below_drew1) | exact HB.out)) hb); clear HB; have HB := n0_; clear n0_; (try clear hb); (try clear hb2); (try clear hk); (try clear hi)))
  (try simp only [Act.put, List.setIfInBounds_toArray, List.set_cons_zero, List.set_cons_succ])
  go_cut [45] (fun v45 wc => ∃ (kq : Nat) (x45_6 : Bool), v45 = .bool x45_6 ∧ Aside0 (galleylaw14_ShiftRises.j0 kq l0 a1 a2 t1038 t1039 x45_6 = some r) ∧ Aside0 (kq ≤ k) ∧ Aside0 (Below w.heap.size w wc))
  case first =>
   have H := HC7.out
   clear HC7
   by_cases c10 : t1040 = 0
   ·
    rw [if_pos c10] at H
    have c10b0 : (t1040 == 0) = true := beq_iff_eq.mpr c10
    have c10b1 : (t1040 != 0) = false := bne_eq_false_iff_eq.mpr c10
    clear c10
    (first | rw [c10b0] | (simp only [i64_w, i32_w]; rw [c10b0]) | skip)
    by_cases c11 : a1 < 0
    ·
     rw [if_pos c11] at H
     have c11b0 : decide (a1 < 0) = true := decide_eq_true c11
     clear c11
     have H' := Aside0.mk H
     clear H
     go_wp2
     go_meet
     case rel => exact ⟨_, (true), (by first | rfl | (simp; done) | (simp [*]; done) | (simp; exact isEmpty_bne _)), H', ⟨by first | omega | exact Nat.le_refl _⟩, ⟨by repeat (first | (with_reducible first | exact HB.out | apply below_alloc | apply pw_below_drewN | apply below_drew1) | exact HB.out)⟩⟩
    ·
     rw [if_neg c11] at H
     have c11b0 : decide (a1 < 0) = false := decide_eq_false c11
     clear c11
     by_cases c12 : a1 > a2
     ·
      rw [if_pos c12] at H
      have c12b0 : decide (a2 < a1) = true := decide_eq_true c12
      clear c12
      have H' := Aside0.mk H
      clear H
      go_wp2
      go_meet
      case rel => exact ⟨_, (true), (by first | rfl | (simp; done) | (simp [*]; done) | (simp; exact isEmpty_bne _)), H', ⟨by first | omega | exact Nat.le_refl _⟩, ⟨by repeat (first | (with_reducible first | exact HB.out | apply below_alloc | apply pw_below_drewN | apply below_drew1) | exact HB.out)⟩⟩
     ·
      rw [if_neg c12] at H
      have c12b0 : decide (a2 < a1) = false := decide_eq_false c12
      clear c12
      have H' := Aside0.mk H
      clear H
      go_wp2
      go_meet
      case rel => exact ⟨_, (decide (a2 > t1038)), (by first | rfl | (simp; done) | (simp [*]; done) | (simp; exact isEmpty_bne _)), H', ⟨by first | omega | exact Nat.le_refl _⟩, ⟨by repeat (first | (with_reducible first | exact HB.out | apply below_alloc | apply pw_below_drewN | apply below_drew1) | exact HB.out)⟩⟩
   ·
    rw [if_neg c10] at H
    have c10b0 : (t1040 == 0) = false := beq_eq_false_iff_ne.mpr c10
    have c10b1 : (t1040 != 0) = true := bne_iff_ne.mpr c10
    (first | rw [c10b0] | (simp only [i64_w, i32_w]; rw [c10b0]) | skip)
    have H' := Aside0.mk H
    clear H
    go_wp2
    go_meet
    case rel => exact ⟨_, (true), (by first | rfl | (simp; done) | (simp [*]; done) | (simp; exact isEmpty_bne _)), H', ⟨by first | omega | exact Nat.le_refl _⟩, ⟨by repeat (first | (with_reducible first | exact HB.out | apply below_alloc | apply pw_below_drewN | apply below_drew1) | exact HB.out)⟩⟩
  case rest =>
   clear HC7
   (try clear c1); (try clear p2); (try clear c3); (try clear c4); (try clear c5); (try clear c10); (try clear c10b0); (try clear c10b1); (try clear c11); (try clear c11b0); (try clear c12); (try clear c12b0)
   obtain ⟨kq, x45_6, rfl, HA, HJ6, HB⟩ := hcut
   cases kq with
   | zero => exact absurd HA.out (by simp [galleylaw14_ShiftRises.j0])
   | succ kj6 =>
    have H := HA.out
    clear HA
    simp only [galleylaw14_ShiftRises.j0] at H
    by_cases c13 : x45_6 = true
    ·
     subst c13
     have H1 : (some true) = some r := by rw [if_pos rfl] at H; exact H
     clear H
     have H := H1
     clear H1
     obtain rfl := Option.some.inj H
     go_wp2
     go_ret
     exact ⟨by first | rfl | (simp [errW_none, errW_some] <;> rfl) | (simp [*, errW_none, errW_some] <;> rfl), by repeat (first | (with_reducible first | exact HB.out | apply below_alloc | apply pw_below_drewN | apply below_drew1) | exact HB.out)⟩
    ·
     replace c13 := Bool.eq_false_iff.mpr c13
     subst c13
     have H1 : ((shift_Place.f kj6 l0 a1 1).bind fun bt1041 => ((shift_Place.f kj6 l0 a1 2).bind fun bt1043 => ((shift_Place.f kj6 l0 a2 1).bind fun bt1045 => ((shift_Place.f kj6 l0 a2 2).bind fun bt1047 => (if bt1041.2 = 0 then (if bt1043.2 = 0 then (if bt1045.2 = 0 then (if bt1047.2 = 0 then (if bt1041.1 < 0 then (galleylaw14_ShiftRises.j1 kj6 l0 t1038 t1039 true) else (if bt1041.1 > bt1043.1 then (galleylaw14_ShiftRises.j1 kj6 l0 t1038 t1039 true) else (if bt1045.1 > bt1047.1 then (galleylaw14_ShiftRises.j1 kj6 l0 t1038 t1039 true) else (if bt1041.1 > bt1045.1 then (galleylaw14_ShiftRises.j1 kj6 l0 t1038 t1039 true) else (if bt1043.1 > bt1047.1 then (galleylaw14_ShiftRises.j1 kj6 l0 t1038 t1039 true) else (galleylaw14_ShiftRises.j1 kj6 l0 t1038 t1039 (decide (bt1047.1 > t1039)))))))) else (galleylaw14_ShiftRises.j1 kj6 l0 t1038 t1039 true)) else (galleylaw14_ShiftRises.j1 kj6 l0 t1038 t1039 true)) else (galleylaw14_ShiftRises.j1 kj6 l0 t1038 t1039 true)) else (galleylaw14_ShiftRises.j1 kj6 l0 t1038 t1039 true)))))) = some r := by rw [if_neg (show ¬ (false = true) by decide)] at H; exact H
     clear H
     have H := H1
     clear H1
     replace H := Option.bind_eq_some_iff.mp H
     obtain ⟨⟨t1041, t1042⟩, A140, H⟩ := H
     replace H : ((shift_Place.f kj6 l0 a1 2).bind fun bt1043 => ((shift_Place.f kj6 l0 a2 1).bind fun bt1045 => ((shift_Place.f kj6 l0 a2 2).bind fun bt1047 => (if t1042 = 0 then (if bt1043.2 = 0 then (if bt1045.2 = 0 then (if bt1047.2 = 0 then (if t1041 < 0 then (galleylaw14_ShiftRises.j1 kj6 l0 t1038 t1039 true) else (if t1041 > bt1043.1 then (galleylaw14_ShiftRises.j1 kj6 l0 t1038 t1039 true) else (if bt1045.1 > bt1047.1 then (galleylaw14_ShiftRises.j1 kj6 l0 t1038 t1039 true) else (if t1041 > bt1045.1 then (galleylaw14_ShiftRises.j1 kj6 l0 t1038 t1039 true) else (if bt1043.1 > bt1047.1 then (galleylaw14_ShiftRises.j1 kj6 l0 t1038 t1039 true) else (galleylaw14_ShiftRises.j1 kj6 l0 t1038 t1039 (decide (bt1047.1 > t1039)))))))) else (galleylaw14_ShiftRises.j1 kj6 l0 t1038 t1039 true)) else (galleylaw14_ShiftRises.j1 kj6 l0 t1038 t1039 true)) else (galleylaw14_ShiftRises.j1 kj6 l0 t1038 t1039 true)) else (galleylaw14_ShiftRises.j1 kj6 l0 t1038 t1039 true))))) = some r := H
     have A14 := Aside0.mk A140
     clear A140
     replace H := Option.bind_eq_some_iff.mp H
     obtain ⟨⟨t1043, t1044⟩, A150, H⟩ := H
     replace H : ((shift_Place.f kj6 l0 a2 1).bind fun bt1045 => ((shift_Place.f kj6 l0 a2 2).bind fun bt1047 => (if t1042 = 0 then (if t1044 = 0 then (if bt1045.2 = 0 then (if bt1047.2 = 0 then (if t1041 < 0 then (galleylaw14_ShiftRises.j1 kj6 l0 t1038 t1039 true) else (if t1041 > t1043 then (galleylaw14_ShiftRises.j1 kj6 l0 t1038 t1039 true) else (if bt1045.1 > bt1047.1 then (galleylaw14_ShiftRises.j1 kj6 l0 t1038 t1039 true) else (if t1041 > bt1045.1 then (galleylaw14_ShiftRises.j1 kj6 l0 t1038 t1039 true) else (if t1043 > bt1047.1 then (galleylaw14_ShiftRises.j1 kj6 l0 t1038 t1039 true) else (galleylaw14_ShiftRises.j1 kj6 l0 t1038 t1039 (decide (bt1047.1 > t1039)))))))) else (galleylaw14_ShiftRises.j1 kj6 l0 t1038 t1039 true)) else (galleylaw14_ShiftRises.j1 kj6 l0 t1038 t1039 true)) else (galleylaw14_ShiftRises.j1 kj6 l0 t1038 t1039 true)) else (galleylaw14_ShiftRises.j1 kj6 l0 t1038 t1039 true)))) = some r := H
     have A15 := Aside0.mk A150
     clear A150
     replace H := Option.bind_eq_some_iff.mp H
     obtain ⟨⟨t1045, t1046⟩, A160, H⟩ := H
     replace H : ((shift_Place.f kj6 l0 a2 2).bind fun bt1047 => (if t1042 = 0 then (if t1044 = 0 then (if t1046 = 0 then (if bt1047.2 = 0 then (if t1041 < 0 then (galleylaw14_ShiftRises.j1 kj6 l0 t1038 t1039 true) else (if t1041 > t1043 then (galleylaw14_ShiftRises.j1 kj6 l0 t1038 t1039 true) else (if t1045 > bt1047.1 then (galleylaw14_ShiftRises.j1 kj6 l0 t1038 t1039 true) else (if t1041 > t1045 then (galleylaw14_ShiftRises.j1 kj6 l0 t1038 t1039 true) else (if t1043 > bt1047.1 then (galleylaw14_ShiftRises.j1 kj6 l0 t1038 t1039 true) else (galleylaw14_ShiftRises.j1 kj6 l0 t1038 t1039 (decide (bt1047.1 > t1039)))))))) else (galleylaw14_ShiftRises.j1 kj6 l0 t1038 t1039 true)) else (galleylaw14_ShiftRises.j1 kj6 l0 t1038 t1039 true)) else (galleylaw14_ShiftRises.j1 kj6 l0 t1038 t1039 true)) else (galleylaw14_ShiftRises.j1 kj6 l0 t1038 t1039 true))) = some r := H
     have A16 := Aside0.mk A160
     clear A160
     replace H := Option.bind_eq_some_iff.mp H
     obtain ⟨⟨t1047, t1048⟩, A170, H⟩ := H
     replace H : (if t1042 = 0 then (if t1044 = 0 then (if t1046 = 0 then (if t1048 = 0 then (if t1041 < 0 then (galleylaw14_ShiftRises.j1 kj6 l0 t1038 t1039 true) else (if t1041 > t1043 then (galleylaw14_ShiftRises.j1 kj6 l0 t1038 t1039 true) else (if t1045 > t1047 then (galleylaw14_ShiftRises.j1 kj6 l0 t1038 t1039 true) else (if t1041 > t1045 then (galleylaw14_ShiftRises.j1 kj6 l0 t1038 t1039 true) else (if t1043 > t1047 then (galleylaw14_ShiftRises.j1 kj6 l0 t1038 t1039 true) else (galleylaw14_ShiftRises.j1 kj6 l0 t1038 t1039 (decide (t1047 > t1039)))))))) else (galleylaw14_ShiftRises.j1 kj6 l0 t1038 t1039 true)) else (galleylaw14_ShiftRises.j1 kj6 l0 t1038 t1039 true)) else (galleylaw14_ShiftRises.j1 kj6 l0 t1038 t1039 true)) else (galleylaw14_ShiftRises.j1 kj6 l0 t1038 t1039 true)) = some r := H
     have A17 := Aside0.mk A170
     clear A170
     have HC18 := Aside0.mk H
     clear H
     go_upto_region 10 with (first | ((with_reducible refine gate_callee (f := 51) rfl ?_); refine goesL_ (some 49) rfl rfl Try.func51 (by kernel_rfl) rfl #[.slice A0 l0.length c0, .int .i64 a1, .int .i64 1] rfl (by (try simp only [List.map_toArray, List.map_cons, List.map_nil]); first | done | rfl | (simp only [List.length_drop, List.length_take]; rfl)) ?_; (with_reducible refine (shift_Place.calls kj6 _ _ l0 a1 1 t1041 t1042 _ ?side1 ?side2 A14.out).mono ?_); (case side1 => repeat (first | exact (Kd.C_below HR0.out HB.out) | (with_reducible refine Kd.C_alloc ?_ _) | (with_reducible refine Kd.C_drewN ?_ _) | (with_reducible refine Kd.C_drew ?_))); (case side2 => exact HC0.out); rintro e w19 ⟨rfl, hb⟩; refine ⟨_, rfl, ?_⟩; have n0_ := Aside0.mk (below_step (by repeat (first | (with_reducible first | exact HB.out | apply below_alloc | apply pw_below_drewN | apply below_drew1) | exact HB.out)) hb); clear HB; have HB := n0_; clear n0_; (try clear hb); (try clear hb2); (try clear hk); (try clear hi)) | ((with_reducible refine gate_callee (f := 51) rfl ?_); refine goesL_ (some 55) rfl rfl Try.func51 (by kernel_rfl) rfl #[.slice A0 l0.length c0, .int .i64 a1, .int .i64 2] rfl (by (try simp only [List.map_toArray, List.map_cons, List.map_nil]); first | done | rfl | (simp only [List.length_drop, List.length_take]; rfl)) ?_; (with_reducible refine (shift_Place.calls kj6 _ _ l0 a1 2 t1043 t1044 _ ?side1 ?side2 A15.out).mono ?_); (case side1 => repeat (first | exact (Kd.C_below HR0.out HB.out) | (with_reducible refine Kd.C_alloc ?_ _) | (with_reducible refine Kd.C_drewN ?_ _) | (with_reducible refine Kd.C_drew ?_))); (case side2 => exact HC0.out); rintro e w20 ⟨rfl, hb⟩; refine ⟨_, rfl, ?_⟩; have n0_ := Aside0.mk (below_step (by repeat (first | (with_reducible first | exact HB.out | apply below_alloc | apply pw_below_drewN | apply below_drew1) | exact HB.out)) hb); clear HB; have HB := n0_; clear n0_; (try clear hb); (try clear hb2); (try clear hk); (try clear hi)) | ((with_reducible refine gate_callee (f := 51) rfl ?_); refine goesL_ (some 61) rfl rfl Try.func51 (by kernel_rfl) rfl #[.slice A0 l0.length c0, .int .i64 a2, .int .i64 1] rfl (by (try simp only [List.map_toArray, List.map_cons, List.map_nil]); first | done | rfl | (simp only [List.length_drop, List.length_take]; rfl)) ?_; (with_reducible refine (shift_Place.calls kj6 _ _ l0 a2 1 t1045 t1046 _ ?side1 ?side2 A16.out).mono ?_); (case side1 => repeat (first | exact (Kd.C_below HR0.out HB.out) | (with_reducible refine Kd.C_alloc ?_ _) | (with_reducible refine Kd.C_drewN ?_ _) | (with_reducible refine Kd.C_drew ?_))); (case side2 => exact HC0.out); rintro e w21 ⟨rfl, hb⟩; refine ⟨_, rfl, ?_⟩; have n0_ := Aside0.mk (below_step (by repeat (first | (with_reducible first | exact HB.out | apply below_alloc | apply pw_below_drewN | apply below_drew1) | exact HB.out)) hb); clear HB; have HB := n0_; clear n0_; (try clear hb); (try clear hb2); (try clear hk); (try clear hi)) | ((with_reducible refine gate_callee (f := 51) rfl ?_); refine goesL_ (some 67) rfl rfl Try.func51 (by kernel_rfl) rfl #[.slice A0 l0.length c0, .int .i64 a2, .int .i64 2] rfl (by (try simp only [List.map_toArray, List.map_cons, List.map_nil]); first | done | rfl | (simp only [List.length_drop, List.length_take]; rfl)) ?_; (with_reducible refine (shift_Place.calls kj6 _ _ l0 a2 2 t1047 t1048 _ ?side1 ?side2 A17.out).mono ?_); (case side1 => repeat (first | exact (Kd.C_below HR0.out HB.out) | (with_reducible refine Kd.C_alloc ?_ _) | (with_reducible refine Kd.C_drewN ?_ _) | (with_reducible refine Kd.C_drew ?_))); (case side2 => exact HC0.out); rintro e w22 ⟨rfl, hb⟩; refine ⟨_, rfl, ?_⟩; have n0_ := Aside0.mk (below_step (by repeat (first | (with_reducible first | exact HB.out | apply below_alloc | apply pw_below_drewN | apply below_drew1) | exact HB.out)) hb); clear HB; have HB := n0_; clear n0_; (try clear hb); (try clear hb2); (try clear hk); (try clear hi)))
     (try simp only [Act.put, List.setIfInBounds_toArray, List.set_cons_zero, List.set_cons_succ])
     go_cut [112] (fun v112 wc => ∃ (kq : Nat) (x112_17 : Bool), v112 = .bool x112_17 ∧ Aside0 (galleylaw14_ShiftRises.j1 kq l0 t1038 t1039 x112_17 = some r) ∧ Aside0 (kq ≤ kj6) ∧ Aside0 (Below w.heap.size w wc))
     case first =>
      have H := HC18.out
      clear HC18
      by_cases c23 : t1042 = 0
      ·
       rw [if_pos c23] at H
       have c23b0 : (t1042 == 0) = true := beq_iff_eq.mpr c23
       have c23b1 : (t1042 != 0) = false := bne_eq_false_iff_eq.mpr c23
       clear c23
       (first | rw [c23b0] | (simp only [i64_w, i32_w]; rw [c23b0]) | skip)
       by_cases c24 : t1044 = 0
       ·
        rw [if_pos c24] at H
        have c24b0 : (t1044 == 0) = true := beq_iff_eq.mpr c24
        have c24b1 : (t1044 != 0) = false := bne_eq_false_iff_eq.mpr c24
        clear c24
        by_cases c25 : t1046 = 0
        ·
         rw [if_pos c25] at H
         have c25b0 : (t1046 == 0) = true := beq_iff_eq.mpr c25
         have c25b1 : (t1046 != 0) = false := bne_eq_false_iff_eq.mpr c25
         clear c25
         by_cases c26 : t1048 = 0
         ·
          rw [if_pos c26] at H
          have c26b0 : (t1048 == 0) = true := beq_iff_eq.mpr c26
          have c26b1 : (t1048 != 0) = false := bne_eq_false_iff_eq.mpr c26
          clear c26
          by_cases c27 : t1041 < 0
          ·
           rw [if_pos c27] at H
           have c27b0 : decide (t1041 < 0) = true := decide_eq_true c27
           clear c27
           have H' := Aside0.mk H
           clear H
           go_wp2
           go_meet
           case rel => exact ⟨_, (true), (by first | rfl | (simp; done) | (simp [*]; done) | (simp; exact isEmpty_bne _)), H', ⟨by have := HJ6.out; first | omega | exact Nat.le_refl _⟩, ⟨by repeat (first | (with_reducible first | exact HB.out | apply below_alloc | apply pw_below_drewN | apply below_drew1) | exact HB.out)⟩⟩
          ·
           rw [if_neg c27] at H
           have c27b0 : decide (t1041 < 0) = false := decide_eq_false c27
           clear c27
           by_cases c28 : t1041 > t1043
           ·
            rw [if_pos c28] at H
            have c28b0 : decide (t1043 < t1041) = true := decide_eq_true c28
            clear c28
            have H' := Aside0.mk H
            clear H
            go_wp2
            go_meet
            case rel => exact ⟨_, (true), (by first | rfl | (simp; done) | (simp [*]; done) | (simp; exact isEmpty_bne _)), H', ⟨by have := HJ6.out; first | omega | exact Nat.le_refl _⟩, ⟨by repeat (first | (with_reducible first | exact HB.out | apply below_alloc | apply pw_below_drewN | apply below_drew1) | exact HB.out)⟩⟩
           ·
            rw [if_neg c28] at H
            have c28b0 : decide (t1043 < t1041) = false := decide_eq_false c28
            clear c28
            by_cases c29 : t1045 > t1047
            ·
             rw [if_pos c29] at H
             have c29b0 : decide (t1047 < t1045) = true := decide_eq_true c29
             clear c29
             have H' := Aside0.mk H
             clear H
             go_wp2
             go_meet
             case rel => exact ⟨_, (true), (by first | rfl | (simp; done) | (simp [*]; done) | (simp; exact isEmpty_bne _)), H', ⟨by have := HJ6.out; first | omega | exact Nat.le_refl _⟩, ⟨by repeat (first | (with_reducible first | exact HB.out | apply below_alloc | apply pw_below_drewN | apply below_drew1) | exact HB.out)⟩⟩
            ·
             rw [if_neg c29] at H
             have c29b0 : decide (t1047 < t1045) = false := decide_eq_false c29
             clear c29
             by_cases c30 : t1041 > t1045
             ·
              rw [if_pos c30] at H
              have c30b0 : decide (t1045 < t1041) = true := decide_eq_true c30
              clear c30
              have H' := Aside0.mk H
              clear H
              go_wp2
              go_meet
              case rel => exact ⟨_, (true), (by first | rfl | (simp; done) | (simp [*]; done) | (simp; exact isEmpty_bne _)), H', ⟨by have := HJ6.out; first | omega | exact Nat.le_refl _⟩, ⟨by repeat (first | (with_reducible first | exact HB.out | apply below_alloc | apply pw_below_drewN | apply below_drew1) | exact HB.out)⟩⟩
             ·
              rw [if_neg c30] at H
              have c30b0 : decide (t1045 < t1041) = false := decide_eq_false c30
              clear c30
              by_cases c31 : t1043 > t1047
              ·
               rw [if_pos c31] at H
               have c31b0 : decide (t1047 < t1043) = true := decide_eq_true c31
               clear c31
               have H' := Aside0.mk H
               clear H
               go_wp2
               go_meet
               case rel => exact ⟨_, (true), (by first | rfl | (simp; done) | (simp [*]; done) | (simp; exact isEmpty_bne _)), H', ⟨by have := HJ6.out; first | omega | exact Nat.le_refl _⟩, ⟨by repeat (first | (with_reducible first | exact HB.out | apply below_alloc | apply pw_below_drewN | apply below_drew1) | exact HB.out)⟩⟩
              ·
               rw [if_neg c31] at H
               have c31b0 : decide (t1047 < t1043) = false := decide_eq_false c31
               clear c31
               have H' := Aside0.mk H
               clear H
               go_wp2
               go_meet
               case rel => exact ⟨_, (decide (t1047 > t1039)), (by first | rfl | (simp; done) | (simp [*]; done) | (simp; exact isEmpty_bne _)), H', ⟨by have := HJ6.out; first | omega | exact Nat.le_refl _⟩, ⟨by repeat (first | (with_reducible first | exact HB.out | apply below_alloc | apply pw_below_drewN | apply below_drew1) | exact HB.out)⟩⟩
         ·
          rw [if_neg c26] at H
          have c26b0 : (t1048 == 0) = false := beq_eq_false_iff_ne.mpr c26
          have c26b1 : (t1048 != 0) = true := bne_iff_ne.mpr c26
          have H' := Aside0.mk H
          clear H
          go_wp2
          go_meet
          case rel => exact ⟨_, (true), (by first | rfl | (simp; done) | (simp [*]; done) | (simp; exact isEmpty_bne _)), H', ⟨by have := HJ6.out; first | omega | exact Nat.le_refl _⟩, ⟨by repeat (first | (with_reducible first | exact HB.out | apply below_alloc | apply pw_below_drewN | apply below_drew1) | exact HB.out)⟩⟩
        ·
         rw [if_neg c25] at H
         have c25b0 : (t1046 == 0) = false := beq_eq_false_iff_ne.mpr c25
         have c25b1 : (t1046 != 0) = true := bne_iff_ne.mpr c25
         have H' := Aside0.mk H
         clear H
         go_wp2
         go_meet
         case rel => exact ⟨_, (true), (by first | rfl | (simp; done) | (simp [*]; done) | (simp; exact isEmpty_bne _)), H', ⟨by have := HJ6.out; first | omega | exact Nat.le_refl _⟩, ⟨by repeat (first | (with_reducible first | exact HB.out | apply below_alloc | apply pw_below_drewN | apply below_drew1) | exact HB.out)⟩⟩
       ·
        rw [if_neg c24] at H
        have c24b0 : (t1044 == 0) = false := beq_eq_false_iff_ne.mpr c24
        have c24b1 : (t1044 != 0) = true := bne_iff_ne.mpr c24
        have H' := Aside0.mk H
        clear H
        go_wp2
        go_meet
        case rel => exact ⟨_, (true), (by first | rfl | (simp; done) | (simp [*]; done) | (simp; exact isEmpty_bne _)), H', ⟨by have := HJ6.out; first | omega | exact Nat.le_refl _⟩, ⟨by repeat (first | (with_reducible first | exact HB.out | apply below_alloc | apply pw_below_drewN | apply below_drew1) | exact HB.out)⟩⟩
      ·
       rw [if_neg c23] at H
       have c23b0 : (t1042 == 0) = false := beq_eq_false_iff_ne.mpr c23
       have c23b1 : (t1042 != 0) = true := bne_iff_ne.mpr c23
       (first | rw [c23b0] | (simp only [i64_w, i32_w]; rw [c23b0]) | skip)
       have H' := Aside0.mk H
       clear H
       go_wp2
       go_meet
       case rel => exact ⟨_, (true), (by first | rfl | (simp; done) | (simp [*]; done) | (simp; exact isEmpty_bne _)), H', ⟨by have := HJ6.out; first | omega | exact Nat.le_refl _⟩, ⟨by repeat (first | (with_reducible first | exact HB.out | apply below_alloc | apply pw_below_drewN | apply below_drew1) | exact HB.out)⟩⟩
     case rest =>
      clear HC18
      (try clear c1); (try clear c2); (try clear p2); (try clear c3); (try clear c4); (try clear c5); (try clear c10); (try clear c10b0); (try clear c10b1); (try clear c11); (try clear c11b0); (try clear c12); (try clear c12b0); (try clear c13); (try clear c16); (try clear c23); (try clear c23b0); (try clear c23b1); (try clear c24); (try clear c24b0); (try clear c24b1); (try clear c25); (try clear c25b0); (try clear c25b1); (try clear c26); (try clear c26b0); (try clear c26b1); (try clear c27); (try clear c27b0); (try clear c28); (try clear c28b0); (try clear c29); (try clear c29b0); (try clear c30); (try clear c30b0); (try clear c31); (try clear c31b0); (try clear p2)
      obtain ⟨kq, x112_17, rfl, HA, HJ17, HB⟩ := hcut
      cases kq with
      | zero => exact absurd HA.out (by simp [galleylaw14_ShiftRises.j1])
      | succ kj17 =>
       have H := HA.out
       clear HA
       simp only [galleylaw14_ShiftRises.j1] at H
       by_cases c32 : x112_17 = true
       ·
        subst c32
        have H1 : (some false) = some r := by rw [if_pos rfl] at H; exact H
        clear H
        have H := H1
        clear H1
        obtain rfl := Option.some.inj H
        go_wp2
        go_ret
        exact ⟨by first | rfl | (simp [errW_none, errW_some] <;> rfl) | (simp [*, errW_none, errW_some] <;> rfl), by repeat (first | (with_reducible first | exact HB.out | apply below_alloc | apply pw_below_drewN | apply below_drew1) | exact HB.out)⟩
       ·
        replace c32 := Bool.eq_false_iff.mpr c32
        subst c32
        have H1 : ((shift_Place.f kj17 l0 t1038 2).bind fun bt1049 => ((shift_Place.f kj17 l0 0 1).bind fun bt1051 => (if bt1049.2 = 0 then (if bt1051.2 = 0 then (if bt1049.1 = t1039 then (some (bt1051.1 == 0)) else (some false)) else (some false)) else (some false)))) = some r := by rw [if_neg (show ¬ (false = true) by decide)] at H; exact H
        clear H
        have H := H1
        clear H1
        replace H := Option.bind_eq_some_iff.mp H
        obtain ⟨⟨t1049, t1050⟩, A330, H⟩ := H
        replace H : ((shift_Place.f kj17 l0 0 1).bind fun bt1051 => (if t1050 = 0 then (if bt1051.2 = 0 then (if t1049 = t1039 then (some (bt1051.1 == 0)) else (some false)) else (some false)) else (some false))) = some r := H
        have A33 := Aside0.mk A330
        clear A330
        replace H := Option.bind_eq_some_iff.mp H
        obtain ⟨⟨t1051, t1052⟩, A340, H⟩ := H
        replace H : (if t1050 = 0 then (if t1052 = 0 then (if t1049 = t1039 then (some (t1051 == 0)) else (some false)) else (some false)) else (some false)) = some r := H
        have A34 := Aside0.mk A340
        clear A340
        by_cases c35 : t1050 = 0
        ·
         rw [if_pos c35] at H
         have c35b0 : (t1050 == 0) = true := beq_iff_eq.mpr c35
         have c35b1 : (t1050 != 0) = false := bne_eq_false_iff_eq.mpr c35
         clear c35
         by_cases c36 : t1052 = 0
         ·
          rw [if_pos c36] at H
          have c36b0 : (t1052 == 0) = true := beq_iff_eq.mpr c36
          have c36b1 : (t1052 != 0) = false := bne_eq_false_iff_eq.mpr c36
          clear c36
          by_cases c37 : t1049 = t1039
          ·
           rw [if_pos c37] at H
           have c37b0 : (t1049 == t1039) = true := beq_iff_eq.mpr c37
           have c37b1 : (t1049 != t1039) = false := bne_eq_false_iff_eq.mpr c37
           clear c37
           obtain rfl := Option.some.inj H
           go_wp2_with (first | ((with_reducible refine gate_callee (f := 51) rfl ?_); refine goesL_ (some 116) rfl rfl Try.func51 (by kernel_rfl) rfl #[.slice A0 l0.length c0, .int .i64 t1038, .int .i64 2] rfl (by (try simp only [List.map_toArray, List.map_cons, List.map_nil]); first | done | rfl | (simp only [List.length_drop, List.length_take]; rfl)) ?_; (with_reducible refine (shift_Place.calls kj17 _ _ l0 t1038 2 t1049 t1050 _ ?side1 ?side2 A33.out).mono ?_); (case side1 => repeat (first | exact (Kd.C_below HR0.out HB.out) | (with_reducible refine Kd.C_alloc ?_ _) | (with_reducible refine Kd.C_drewN ?_ _) | (with_reducible refine Kd.C_drew ?_))); (case side2 => exact HC0.out); rintro e w38 ⟨rfl, hb⟩; refine ⟨_, rfl, ?_⟩; have n0_ := Aside0.mk (below_step (by repeat (first | (with_reducible first | exact HB.out | apply below_alloc | apply pw_below_drewN | apply below_drew1) | exact HB.out)) hb); clear HB; have HB := n0_; clear n0_; (try clear hb); (try clear hb2); (try clear hk); (try clear hi)) | ((with_reducible refine gate_callee (f := 51) rfl ?_); refine goesL_ (some 121) rfl rfl Try.func51 (by kernel_rfl) rfl #[.slice A0 l0.length c0, .int .i64 0, .int .i64 1] rfl (by (try simp only [List.map_toArray, List.map_cons, List.map_nil]); first | done | rfl | (simp only [List.length_drop, List.length_take]; rfl)) ?_; (with_reducible refine (shift_Place.calls kj17 _ _ l0 0 1 t1051 t1052 _ ?side1 ?side2 A34.out).mono ?_); (case side1 => repeat (first | exact (Kd.C_below HR0.out HB.out) | (with_reducible refine Kd.C_alloc ?_ _) | (with_reducible refine Kd.C_drewN ?_ _) | (with_reducible refine Kd.C_drew ?_))); (case side2 => exact HC0.out); rintro e w39 ⟨rfl, hb⟩; refine ⟨_, rfl, ?_⟩; have n0_ := Aside0.mk (below_step (by repeat (first | (with_reducible first | exact HB.out | apply below_alloc | apply pw_below_drewN | apply below_drew1) | exact HB.out)) hb); clear HB; have HB := n0_; clear n0_; (try clear hb); (try clear hb2); (try clear hk); (try clear hi)))
           go_ret
           exact ⟨by first | rfl | (simp [errW_none, errW_some] <;> rfl) | (simp [*, errW_none, errW_some] <;> rfl), by repeat (first | (with_reducible first | exact HB.out | apply below_alloc | apply pw_below_drewN | apply below_drew1) | exact HB.out)⟩
          ·
           rw [if_neg c37] at H
           have c37b0 : (t1049 == t1039) = false := beq_eq_false_iff_ne.mpr c37
           have c37b1 : (t1049 != t1039) = true := bne_iff_ne.mpr c37
           obtain rfl := Option.some.inj H
           go_wp2_with (first | ((with_reducible refine gate_callee (f := 51) rfl ?_); refine goesL_ (some 116) rfl rfl Try.func51 (by kernel_rfl) rfl #[.slice A0 l0.length c0, .int .i64 t1038, .int .i64 2] rfl (by (try simp only [List.map_toArray, List.map_cons, List.map_nil]); first | done | rfl | (simp only [List.length_drop, List.length_take]; rfl)) ?_; (with_reducible refine (shift_Place.calls kj17 _ _ l0 t1038 2 t1049 t1050 _ ?side1 ?side2 A33.out).mono ?_); (case side1 => repeat (first | exact (Kd.C_below HR0.out HB.out) | (with_reducible refine Kd.C_alloc ?_ _) | (with_reducible refine Kd.C_drewN ?_ _) | (with_reducible refine Kd.C_drew ?_))); (case side2 => exact HC0.out); rintro e w40 ⟨rfl, hb⟩; refine ⟨_, rfl, ?_⟩; have n0_ := Aside0.mk (below_step (by repeat (first | (with_reducible first | exact HB.out | apply below_alloc | apply pw_below_drewN | apply below_drew1) | exact HB.out)) hb); clear HB; have HB := n0_; clear n0_; (try clear hb); (try clear hb2); (try clear hk); (try clear hi)) | ((with_reducible refine gate_callee (f := 51) rfl ?_); refine goesL_ (some 121) rfl rfl Try.func51 (by kernel_rfl) rfl #[.slice A0 l0.length c0, .int .i64 0, .int .i64 1] rfl (by (try simp only [List.map_toArray, List.map_cons, List.map_nil]); first | done | rfl | (simp only [List.length_drop, List.length_take]; rfl)) ?_; (with_reducible refine (shift_Place.calls kj17 _ _ l0 0 1 t1051 t1052 _ ?side1 ?side2 A34.out).mono ?_); (case side1 => repeat (first | exact (Kd.C_below HR0.out HB.out) | (with_reducible refine Kd.C_alloc ?_ _) | (with_reducible refine Kd.C_drewN ?_ _) | (with_reducible refine Kd.C_drew ?_))); (case side2 => exact HC0.out); rintro e w41 ⟨rfl, hb⟩; refine ⟨_, rfl, ?_⟩; have n0_ := Aside0.mk (below_step (by repeat (first | (with_reducible first | exact HB.out | apply below_alloc | apply pw_below_drewN | apply below_drew1) | exact HB.out)) hb); clear HB; have HB := n0_; clear n0_; (try clear hb); (try clear hb2); (try clear hk); (try clear hi)))
           go_ret
           exact ⟨by first | rfl | (simp [errW_none, errW_some] <;> rfl) | (simp [*, errW_none, errW_some] <;> rfl), by repeat (first | (with_reducible first | exact HB.out | apply below_alloc | apply pw_below_drewN | apply below_drew1) | exact HB.out)⟩
         ·
          rw [if_neg c36] at H
          have c36b0 : (t1052 == 0) = false := beq_eq_false_iff_ne.mpr c36
          have c36b1 : (t1052 != 0) = true := bne_iff_ne.mpr c36
          obtain rfl := Option.some.inj H
          go_wp2_with (first | ((with_reducible refine gate_callee (f := 51) rfl ?_); refine goesL_ (some 116) rfl rfl Try.func51 (by kernel_rfl) rfl #[.slice A0 l0.length c0, .int .i64 t1038, .int .i64 2] rfl (by (try simp only [List.map_toArray, List.map_cons, List.map_nil]); first | done | rfl | (simp only [List.length_drop, List.length_take]; rfl)) ?_; (with_reducible refine (shift_Place.calls kj17 _ _ l0 t1038 2 t1049 t1050 _ ?side1 ?side2 A33.out).mono ?_); (case side1 => repeat (first | exact (Kd.C_below HR0.out HB.out) | (with_reducible refine Kd.C_alloc ?_ _) | (with_reducible refine Kd.C_drewN ?_ _) | (with_reducible refine Kd.C_drew ?_))); (case side2 => exact HC0.out); rintro e w42 ⟨rfl, hb⟩; refine ⟨_, rfl, ?_⟩; have n0_ := Aside0.mk (below_step (by repeat (first | (with_reducible first | exact HB.out | apply below_alloc | apply pw_below_drewN | apply below_drew1) | exact HB.out)) hb); clear HB; have HB := n0_; clear n0_; (try clear hb); (try clear hb2); (try clear hk); (try clear hi)) | ((with_reducible refine gate_callee (f := 51) rfl ?_); refine goesL_ (some 121) rfl rfl Try.func51 (by kernel_rfl) rfl #[.slice A0 l0.length c0, .int .i64 0, .int .i64 1] rfl (by (try simp only [List.map_toArray, List.map_cons, List.map_nil]); first | done | rfl | (simp only [List.length_drop, List.length_take]; rfl)) ?_; (with_reducible refine (shift_Place.calls kj17 _ _ l0 0 1 t1051 t1052 _ ?side1 ?side2 A34.out).mono ?_); (case side1 => repeat (first | exact (Kd.C_below HR0.out HB.out) | (with_reducible refine Kd.C_alloc ?_ _) | (with_reducible refine Kd.C_drewN ?_ _) | (with_reducible refine Kd.C_drew ?_))); (case side2 => exact HC0.out); rintro e w43 ⟨rfl, hb⟩; refine ⟨_, rfl, ?_⟩; have n0_ := Aside0.mk (below_step (by repeat (first | (with_reducible first | exact HB.out | apply below_alloc | apply pw_below_drewN | apply below_drew1) | exact HB.out)) hb); clear HB; have HB := n0_; clear n0_; (try clear hb); (try clear hb2); (try clear hk); (try clear hi)))
          go_ret
          exact ⟨by first | rfl | (simp [errW_none, errW_some] <;> rfl) | (simp [*, errW_none, errW_some] <;> rfl), by repeat (first | (with_reducible first | exact HB.out | apply below_alloc | apply pw_below_drewN | apply below_drew1) | exact HB.out)⟩
        ·
         rw [if_neg c35] at H
         have c35b0 : (t1050 == 0) = false := beq_eq_false_iff_ne.mpr c35
         have c35b1 : (t1050 != 0) = true := bne_iff_ne.mpr c35
         obtain rfl := Option.some.inj H
         go_wp2_with (first | ((with_reducible refine gate_callee (f := 51) rfl ?_); refine goesL_ (some 116) rfl rfl Try.func51 (by kernel_rfl) rfl #[.slice A0 l0.length c0, .int .i64 t1038, .int .i64 2] rfl (by (try simp only [List.map_toArray, List.map_cons, List.map_nil]); first | done | rfl | (simp only [List.length_drop, List.length_take]; rfl)) ?_; (with_reducible refine (shift_Place.calls kj17 _ _ l0 t1038 2 t1049 t1050 _ ?side1 ?side2 A33.out).mono ?_); (case side1 => repeat (first | exact (Kd.C_below HR0.out HB.out) | (with_reducible refine Kd.C_alloc ?_ _) | (with_reducible refine Kd.C_drewN ?_ _) | (with_reducible refine Kd.C_drew ?_))); (case side2 => exact HC0.out); rintro e w44 ⟨rfl, hb⟩; refine ⟨_, rfl, ?_⟩; have n0_ := Aside0.mk (below_step (by repeat (first | (with_reducible first | exact HB.out | apply below_alloc | apply pw_below_drewN | apply below_drew1) | exact HB.out)) hb); clear HB; have HB := n0_; clear n0_; (try clear hb); (try clear hb2); (try clear hk); (try clear hi)) | ((with_reducible refine gate_callee (f := 51) rfl ?_); refine goesL_ (some 121) rfl rfl Try.func51 (by kernel_rfl) rfl #[.slice A0 l0.length c0, .int .i64 0, .int .i64 1] rfl (by (try simp only [List.map_toArray, List.map_cons, List.map_nil]); first | done | rfl | (simp only [List.length_drop, List.length_take]; rfl)) ?_; (with_reducible refine (shift_Place.calls kj17 _ _ l0 0 1 t1051 t1052 _ ?side1 ?side2 A34.out).mono ?_); (case side1 => repeat (first | exact (Kd.C_below HR0.out HB.out) | (with_reducible refine Kd.C_alloc ?_ _) | (with_reducible refine Kd.C_drewN ?_ _) | (with_reducible refine Kd.C_drew ?_))); (case side2 => exact HC0.out); rintro e w45 ⟨rfl, hb⟩; refine ⟨_, rfl, ?_⟩; have n0_ := Aside0.mk (below_step (by repeat (first | (with_reducible first | exact HB.out | apply below_alloc | apply pw_below_drewN | apply below_drew1) | exact HB.out)) hb); clear HB; have HB := n0_; clear n0_; (try clear hb); (try clear hb2); (try clear hk); (try clear hi)))
         go_ret
         exact ⟨by first | rfl | (simp [errW_none, errW_some] <;> rfl) | (simp [*, errW_none, errW_some] <;> rfl), by repeat (first | (with_reducible first | exact HB.out | apply below_alloc | apply pw_below_drewN | apply below_drew1) | exact HB.out)⟩
 ·
  replace c5 := Bool.eq_false_iff.mpr c5
  subst c5
  have H1 : (some false) = some r := by rw [if_neg (show ¬ (false = true) by decide)] at H; exact H
  clear H
  have H := H1
  clear H1
  obtain rfl := Option.some.inj H
  go_enter Try.func16, Try.ntmps16
  go_wp2_with (first | ((with_reducible refine gate_callee (f := 44) rfl ?_); refine goesL_ (some 22) rfl rfl Try.func44 (by kernel_rfl) rfl #[] rfl (by (try simp only [List.map_toArray, List.map_cons, List.map_nil]); first | done | rfl | (simp only [List.length_drop, List.length_take]; rfl)) ?_; (with_reducible refine (galleylaw14_fixed.calls k  false _ A4.out).mono ?_); rintro e w46 ⟨rfl, hb⟩; refine ⟨_, rfl, ?_⟩; have n0_ := Aside0.mk (below_step (by repeat (first | (with_reducible first | exact HB.out | apply below_alloc | apply pw_below_drewN | apply below_drew1) | exact HB.out)) hb); clear HB; have HB := n0_; clear n0_; (try clear hb); (try clear hb2); (try clear hk); (try clear hi)))
  go_ret
  exact ⟨by first | rfl | (simp [errW_none, errW_some] <;> rfl) | (simp [*, errW_none, errW_some] <;> rfl), by repeat (first | (with_reducible first | exact HB.out | apply below_alloc | apply pw_below_drewN | apply below_drew1) | exact HB.out)⟩

end Go.Proofs.Ytidihnnkcmeaeaa.A
