/- Part of a claim: theorems about the program's functions, written by a program over the translation. No condition. -/
import Derived.Test.YtidihnnkcmeaeaaA0
import Derived.Test.YtidihnnkcmeaeaaMG1
import Derived.Test.YtidihnnkcmeaeaaA3
import Derived.Test.YtidihnnkcmeaeaaA4
namespace Go.Proofs.Ytidihnnkcmeaeaa.A
open Go.RowKit Go.Proofs.YtidihnnkcmeaeaaW.PrintWords Go.Proofs.YtidihnnkcmeaeaaW.PrintLast Go.Proofs.YtidihnnkcmeaeaaW.PrintMore
attribute [local go_sem] max2_int min2_int max_two min_two max_three min_three max_four min_four
set_option linter.unusedVariables false
set_option linter.unusedSimpArgs false
def delta_Lens.f (k : Nat) (l0 : List (S70)) : Option (Int × Int × Int) := (delta_Valid.f k l0).bind fun t112 => (if t112 = true then ((delta_lens.f k l0).bind fun bt113 => (some (bt113.1, bt113.2.1, 0))) else (some (0, 0, 130)))
set_option maxHeartbeats 8000000 in
set_option maxRecDepth 100000 in
theorem delta_Lens.calls (k : Nat) (A0 : Option Addr) (c0 : Nat) (l0 : List (S70)) (r1 : Int) (r2 : Int) (r3 : Int) (w : World) (hr0 : Kd.C k70 w A0 l0.length l0) (hc0 : l0.length ≤ c0) (h : delta_Lens.f k l0 = some (r1, r2, r3)) :
  Calls Try.prog 38 #[.slice A0 l0.length c0] w fun e w' => e = .returned (.tuple #[.int .i64 r1, .int .i64 r2, .int .i64 r3]) ∧ Below w.heap.size w w' := by
 have HR0 := Aside0.mk hr0
 have HC0 := Aside0.mk hc0
 clear hr0 hc0
 have HB := Aside0.mk (Below.refl w.heap.size w)
 have H : ((delta_Valid.f k l0).bind fun t112 => (if t112 = true then ((delta_lens.f k l0).bind fun bt113 => (some (bt113.1, bt113.2.1, 0))) else (some (0, 0, 130)))) = some (r1, r2, r3) := h
 clear h
 replace H := Option.bind_eq_some_iff.mp H
 obtain ⟨t112, A20, H⟩ := H
 replace H : (if t112 = true then ((delta_lens.f k l0).bind fun bt113 => (some (bt113.1, bt113.2.1, 0))) else (some (0, 0, 130))) = some (r1, r2, r3) := H
 have A2 := Aside0.mk A20
 clear A20
 by_cases c3 : t112 = true
 ·
  subst c3
  have H1 : ((delta_lens.f k l0).bind fun bt113 => (some (bt113.1, bt113.2.1, 0))) = some (r1, r2, r3) := by rw [if_pos rfl] at H; exact H
  clear H
  have H := H1
  clear H1
  replace H := Option.bind_eq_some_iff.mp H
  obtain ⟨⟨t113, t114, t115⟩, A40, H⟩ := H
  replace H : (some (t113, t114, 0)) = some (r1, r2, r3) := H
  have A4 := Aside0.mk A40
  clear A40
  simp only [Option.some.injEq, Prod.mk.injEq] at H
  obtain ⟨rfl, rfl, rfl⟩ := H
  go_enter Try.func38, Try.ntmps38
  go_wp2_with (first | ((with_reducible refine gate_callee (f := 35) rfl ?_); refine goesL_ (some 6) rfl rfl Try.func35 (by kernel_rfl) rfl #[.slice A0 l0.length c0] rfl (by (try simp only [List.map_toArray, List.map_cons, List.map_nil]); first | done | rfl | (simp only [List.length_drop, List.length_take]; rfl)) ?_; (with_reducible refine (delta_Valid.calls k _ _ l0 true _ ?side1 ?side2 A2.out).mono ?_); (case side1 => repeat (first | exact HR0.out | (with_reducible refine Kd.C_alloc ?_ _) | (with_reducible refine Kd.C_drewN ?_ _) | (with_reducible refine Kd.C_drew ?_))); (case side2 => exact HC0.out); rintro e w5 ⟨rfl, hb⟩; refine ⟨_, rfl, ?_⟩; have n0_ := Aside0.mk (below_step (by repeat (first | (with_reducible first | exact HB.out | apply below_alloc | apply pw_below_drewN | apply below_drew1) | exact HB.out)) hb); clear HB; have HB := n0_; clear n0_; (try clear hb); (try clear hb2); (try clear hk); (try clear hi)) | ((with_reducible refine gate_callee (f := 64) rfl ?_); refine goesL_ (some 10) rfl rfl Try.func64 (by kernel_rfl) rfl #[.slice A0 l0.length c0] rfl (by (try simp only [List.map_toArray, List.map_cons, List.map_nil]); first | done | rfl | (simp only [List.length_drop, List.length_take]; rfl)) ?_; (with_reducible refine (delta_lens.calls k _ _ l0 t113 t114 t115 _ ?side1 ?side2 A4.out).mono ?_); (case side1 => repeat (first | exact (Kd.C_below HR0.out HB.out) | (with_reducible refine Kd.C_alloc ?_ _) | (with_reducible refine Kd.C_drewN ?_ _) | (with_reducible refine Kd.C_drew ?_))); (case side2 => exact HC0.out); rintro e w6 ⟨rfl, hb⟩; refine ⟨_, rfl, ?_⟩; have n0_ := Aside0.mk (below_step (by repeat (first | (with_reducible first | exact HB.out | apply below_alloc | apply pw_below_drewN | apply below_drew1) | exact HB.out)) hb); clear HB; have HB := n0_; clear n0_; (try clear hb); (try clear hb2); (try clear hk); (try clear hi)))
  go_ret3
  exact ⟨by first | rfl | (simp [errW_none, errW_some] <;> rfl) | (simp [*, errW_none, errW_some] <;> rfl), by repeat (first | (with_reducible first | exact HB.out | apply below_alloc | apply pw_below_drewN | apply below_drew1) | exact HB.out)⟩
 ·
  replace c3 := Bool.eq_false_iff.mpr c3
  subst c3
  have H1 : (some (0, 0, 130)) = some (r1, r2, r3) := by rw [if_neg (show ¬ (false = true) by decide)] at H; exact H
  clear H
  have H := H1
  clear H1
  simp only [Option.some.injEq, Prod.mk.injEq] at H
  obtain ⟨rfl, rfl, rfl⟩ := H
  go_enter Try.func38, Try.ntmps38
  go_wp2_with (first | ((with_reducible refine gate_callee (f := 35) rfl ?_); refine goesL_ (some 6) rfl rfl Try.func35 (by kernel_rfl) rfl #[.slice A0 l0.length c0] rfl (by (try simp only [List.map_toArray, List.map_cons, List.map_nil]); first | done | rfl | (simp only [List.length_drop, List.length_take]; rfl)) ?_; (with_reducible refine (delta_Valid.calls k _ _ l0 false _ ?side1 ?side2 A2.out).mono ?_); (case side1 => repeat (first | exact HR0.out | (with_reducible refine Kd.C_alloc ?_ _) | (with_reducible refine Kd.C_drewN ?_ _) | (with_reducible refine Kd.C_drew ?_))); (case side2 => exact HC0.out); rintro e w7 ⟨rfl, hb⟩; refine ⟨_, rfl, ?_⟩; have n0_ := Aside0.mk (below_step (by repeat (first | (with_reducible first | exact HB.out | apply below_alloc | apply pw_below_drewN | apply below_drew1) | exact HB.out)) hb); clear HB; have HB := n0_; clear n0_; (try clear hb); (try clear hb2); (try clear hk); (try clear hi)))
  go_ret3
  exact ⟨by first | rfl | (simp [errW_none, errW_some] <;> rfl) | (simp [*, errW_none, errW_some] <;> rfl), by repeat (first | (with_reducible first | exact HB.out | apply below_alloc | apply pw_below_drewN | apply below_drew1) | exact HB.out)⟩
def shift_fits.f (k : Nat) (l0 : List (S70)) (l1 : List (S70)) : Option (Int) := (delta_Lens.f k l0).bind fun bt116 => (if bt116.2.2 = 0 then ((delta_Lens.f k l1).bind fun bt119 => (if bt119.2.2 = 0 then (if bt116.1 = bt119.1 then (some 0) else (some 131)) else (some bt119.2.2))) else (some bt116.2.2))
set_option maxHeartbeats 8000000 in
set_option maxRecDepth 100000 in
theorem shift_fits.calls (k : Nat) (A0 : Option Addr) (c0 : Nat) (l0 : List (S70)) (A1 : Option Addr) (c1 : Nat) (l1 : List (S70)) (r : Int) (w : World) (hr0 : Kd.C k70 w A0 l0.length l0) (hc0 : l0.length ≤ c0) (hr1 : Kd.C k70 w A1 l1.length l1) (hc1 : l1.length ≤ c1) (h : shift_fits.f k l0 l1 = some r) :
  Calls Try.prog 90 #[.slice A0 l0.length c0, .slice A1 l1.length c1] w fun e w' => e = .returned (.int .i64 r) ∧ Below w.heap.size w w' := by
 have HR0 := Aside0.mk hr0
 have HC0 := Aside0.mk hc0
 clear hr0 hc0
 have HR1 := Aside0.mk hr1
 have HC1 := Aside0.mk hc1
 clear hr1 hc1
 have HB := Aside0.mk (Below.refl w.heap.size w)
 have H : ((delta_Lens.f k l0).bind fun bt116 => (if bt116.2.2 = 0 then ((delta_Lens.f k l1).bind fun bt119 => (if bt119.2.2 = 0 then (if bt116.1 = bt119.1 then (some 0) else (some 131)) else (some bt119.2.2))) else (some bt116.2.2))) = some r := h
 clear h
 replace H := Option.bind_eq_some_iff.mp H
 obtain ⟨⟨t116, t117, t118⟩, A30, H⟩ := H
 replace H : (if t118 = 0 then ((delta_Lens.f k l1).bind fun bt119 => (if bt119.2.2 = 0 then (if t116 = bt119.1 then (some 0) else (some 131)) else (some bt119.2.2))) else (some t118)) = some r := H
 have A3 := Aside0.mk A30
 clear A30
 by_cases c4 : t118 = 0
 ·
  rw [if_pos c4] at H
  have c4b0 : (t118 == 0) = true := beq_iff_eq.mpr c4
  have c4b1 : (t118 != 0) = false := bne_eq_false_iff_eq.mpr c4
  clear c4
  replace H := Option.bind_eq_some_iff.mp H
  obtain ⟨⟨t119, t120, t121⟩, A50, H⟩ := H
  replace H : (if t121 = 0 then (if t116 = t119 then (some 0) else (some 131)) else (some t121)) = some r := H
  have A5 := Aside0.mk A50
  clear A50
  by_cases c6 : t121 = 0
  ·
   rw [if_pos c6] at H
   have c6b0 : (t121 == 0) = true := beq_iff_eq.mpr c6
   have c6b1 : (t121 != 0) = false := bne_eq_false_iff_eq.mpr c6
   clear c6
   by_cases c7 : t116 = t119
   ·
    rw [if_pos c7] at H
    have c7b0 : (t116 == t119) = true := beq_iff_eq.mpr c7
    have c7b1 : (t116 != t119) = false := bne_eq_false_iff_eq.mpr c7
    clear c7
    obtain rfl := Option.some.inj H
    go_enter Try.func90, Try.ntmps90
    go_wp2_with (first | ((with_reducible refine gate_callee (f := 38) rfl ?_); refine goesL_ (some 12) rfl rfl Try.func38 (by kernel_rfl) rfl #[.slice A0 l0.length c0] rfl (by (try simp only [List.map_toArray, List.map_cons, List.map_nil]); first | done | rfl | (simp only [List.length_drop, List.length_take]; rfl)) ?_; (with_reducible refine (delta_Lens.calls k _ _ l0 t116 t117 t118 _ ?side1 ?side2 A3.out).mono ?_); (case side1 => repeat (first | exact HR0.out | (with_reducible refine Kd.C_alloc ?_ _) | (with_reducible refine Kd.C_drewN ?_ _) | (with_reducible refine Kd.C_drew ?_))); (case side2 => exact HC0.out); rintro e w8 ⟨rfl, hb⟩; refine ⟨_, rfl, ?_⟩; have n0_ := Aside0.mk (below_step (by repeat (first | (with_reducible first | exact HB.out | apply below_alloc | apply pw_below_drewN | apply below_drew1) | exact HB.out)) hb); clear HB; have HB := n0_; clear n0_; (try clear hb); (try clear hb2); (try clear hk); (try clear hi)) | ((with_reducible refine gate_callee (f := 38) rfl ?_); refine goesL_ (some 21) rfl rfl Try.func38 (by kernel_rfl) rfl #[.slice A1 l1.length c1] rfl (by (try simp only [List.map_toArray, List.map_cons, List.map_nil]); first | done | rfl | (simp only [List.length_drop, List.length_take]; rfl)) ?_; (with_reducible refine (delta_Lens.calls k _ _ l1 t119 t120 t121 _ ?side1 ?side2 A5.out).mono ?_); (case side1 => repeat (first | exact (Kd.C_below HR1.out HB.out) | (with_reducible refine Kd.C_alloc ?_ _) | (with_reducible refine Kd.C_drewN ?_ _) | (with_reducible refine Kd.C_drew ?_))); (case side2 => exact HC1.out); rintro e w9 ⟨rfl, hb⟩; refine ⟨_, rfl, ?_⟩; have n0_ := Aside0.mk (below_step (by repeat (first | (with_reducible first | exact HB.out | apply below_alloc | apply pw_below_drewN | apply below_drew1) | exact HB.out)) hb); clear HB; have HB := n0_; clear n0_; (try clear hb); (try clear hb2); (try clear hk); (try clear hi)))
    go_ret
    exact ⟨by first | rfl | (simp [errW_none, errW_some] <;> rfl) | (simp [*, errW_none, errW_some] <;> rfl), by repeat (first | (with_reducible first | exact HB.out | apply below_alloc | apply pw_below_drewN | apply below_drew1) | exact HB.out)⟩
   ·
    rw [if_neg c7] at H
    have c7b0 : (t116 == t119) = false := beq_eq_false_iff_ne.mpr c7
    have c7b1 : (t116 != t119) = true := bne_iff_ne.mpr c7
    obtain rfl := Option.some.inj H
    go_enter Try.func90, Try.ntmps90
    go_wp2_with (first | ((with_reducible refine gate_callee (f := 38) rfl ?_); refine goesL_ (some 12) rfl rfl Try.func38 (by kernel_rfl) rfl #[.slice A0 l0.length c0] rfl (by (try simp only [List.map_toArray, List.map_cons, List.map_nil]); first | done | rfl | (simp only [List.length_drop, List.length_take]; rfl)) ?_; (with_reducible refine (delta_Lens.calls k _ _ l0 t116 t117 t118 _ ?side1 ?side2 A3.out).mono ?_); (case side1 => repeat (first | exact HR0.out | (with_reducible refine Kd.C_alloc ?_ _) | (with_reducible refine Kd.C_drewN ?_ _) | (with_reducible refine Kd.C_drew ?_))); (case side2 => exact HC0.out); rintro e w10 ⟨rfl, hb⟩; refine ⟨_, rfl, ?_⟩; have n0_ := Aside0.mk (below_step (by repeat (first | (with_reducible first | exact HB.out | apply below_alloc | apply pw_below_drewN | apply below_drew1) | exact HB.out)) hb); clear HB; have HB := n0_; clear n0_; (try clear hb); (try clear hb2); (try clear hk); (try clear hi)) | ((with_reducible refine gate_callee (f := 38) rfl ?_); refine goesL_ (some 21) rfl rfl Try.func38 (by kernel_rfl) rfl #[.slice A1 l1.length c1] rfl (by (try simp only [List.map_toArray, List.map_cons, List.map_nil]); first | done | rfl | (simp only [List.length_drop, List.length_take]; rfl)) ?_; (with_reducible refine (delta_Lens.calls k _ _ l1 t119 t120 t121 _ ?side1 ?side2 A5.out).mono ?_); (case side1 => repeat (first | exact (Kd.C_below HR1.out HB.out) | (with_reducible refine Kd.C_alloc ?_ _) | (with_reducible refine Kd.C_drewN ?_ _) | (with_reducible refine Kd.C_drew ?_))); (case side2 => exact HC1.out); rintro e w11 ⟨rfl, hb⟩; refine ⟨_, rfl, ?_⟩; have n0_ := Aside0.mk (below_step (by repeat (first | (with_reducible first | exact HB.out | apply below_alloc | apply pw_below_drewN | apply below_drew1) | exact HB.out)) hb); clear HB; have HB := n0_; clear n0_; (try clear hb); (try clear hb2); (try clear hk); (try clear hi)))
    go_ret
    exact ⟨by first | rfl | (simp [errW_none, errW_some] <;> rfl) | (simp [*, errW_none, errW_some] <;> rfl), by repeat (first | (with_reducible first | exact HB.out | apply below_alloc | apply pw_below_drewN | apply below_drew1) | exact HB.out)⟩
  ·
   rw [if_neg c6] at H
   have c6b0 : (t121 == 0) = false := beq_eq_false_iff_ne.mpr c6
   have c6b1 : (t121 != 0) = true := bne_iff_ne.mpr c6
   obtain rfl := Option.some.inj H
   go_enter Try.func90, Try.ntmps90
   go_wp2_with (first | ((with_reducible refine gate_callee (f := 38) rfl ?_); refine goesL_ (some 12) rfl rfl Try.func38 (by kernel_rfl) rfl #[.slice A0 l0.length c0] rfl (by (try simp only [List.map_toArray, List.map_cons, List.map_nil]); first | done | rfl | (simp only [List.length_drop, List.length_take]; rfl)) ?_; (with_reducible refine (delta_Lens.calls k _ _ l0 t116 t117 t118 _ ?side1 ?side2 A3.out).mono ?_); (case side1 => repeat (first | exact HR0.out | (with_reducible refine Kd.C_alloc ?_ _) | (with_reducible refine Kd.C_drewN ?_ _) | (with_reducible refine Kd.C_drew ?_))); (case side2 => exact HC0.out); rintro e w12 ⟨rfl, hb⟩; refine ⟨_, rfl, ?_⟩; have n0_ := Aside0.mk (below_step (by repeat (first | (with_reducible first | exact HB.out | apply below_alloc | apply pw_below_drewN | apply below_drew1) | exact HB.out)) hb); clear HB; have HB := n0_; clear n0_; (try clear hb); (try clear hb2); (try clear hk); (try clear hi)) | ((with_reducible refine gate_callee (f := 38) rfl ?_); refine goesL_ (some 21) rfl rfl Try.func38 (by kernel_rfl) rfl #[.slice A1 l1.length c1] rfl (by (try simp only [List.map_toArray, List.map_cons, List.map_nil]); first | done | rfl | (simp only [List.length_drop, List.length_take]; rfl)) ?_; (with_reducible refine (delta_Lens.calls k _ _ l1 t119 t120 t121 _ ?side1 ?side2 A5.out).mono ?_); (case side1 => repeat (first | exact (Kd.C_below HR1.out HB.out) | (with_reducible refine Kd.C_alloc ?_ _) | (with_reducible refine Kd.C_drewN ?_ _) | (with_reducible refine Kd.C_drew ?_))); (case side2 => exact HC1.out); rintro e w13 ⟨rfl, hb⟩; refine ⟨_, rfl, ?_⟩; have n0_ := Aside0.mk (below_step (by repeat (first | (with_reducible first | exact HB.out | apply below_alloc | apply pw_below_drewN | apply below_drew1) | exact HB.out)) hb); clear HB; have HB := n0_; clear n0_; (try clear hb); (try clear hb2); (try clear hk); (try clear hi)))
   go_ret
   exact ⟨by first | rfl | (simp [errW_none, errW_some] <;> rfl) | (simp [*, errW_none, errW_some] <;> rfl), by repeat (first | (with_reducible first | exact HB.out | apply below_alloc | apply pw_below_drewN | apply below_drew1) | exact HB.out)⟩
 ·
  rw [if_neg c4] at H
  have c4b0 : (t118 == 0) = false := beq_eq_false_iff_ne.mpr c4
  have c4b1 : (t118 != 0) = true := bne_iff_ne.mpr c4
  obtain rfl := Option.some.inj H
  go_enter Try.func90, Try.ntmps90
  go_wp2_with (first | ((with_reducible refine gate_callee (f := 38) rfl ?_); refine goesL_ (some 12) rfl rfl Try.func38 (by kernel_rfl) rfl #[.slice A0 l0.length c0] rfl (by (try simp only [List.map_toArray, List.map_cons, List.map_nil]); first | done | rfl | (simp only [List.length_drop, List.length_take]; rfl)) ?_; (with_reducible refine (delta_Lens.calls k _ _ l0 t116 t117 t118 _ ?side1 ?side2 A3.out).mono ?_); (case side1 => repeat (first | exact HR0.out | (with_reducible refine Kd.C_alloc ?_ _) | (with_reducible refine Kd.C_drewN ?_ _) | (with_reducible refine Kd.C_drew ?_))); (case side2 => exact HC0.out); rintro e w14 ⟨rfl, hb⟩; refine ⟨_, rfl, ?_⟩; have n0_ := Aside0.mk (below_step (by repeat (first | (with_reducible first | exact HB.out | apply below_alloc | apply pw_below_drewN | apply below_drew1) | exact HB.out)) hb); clear HB; have HB := n0_; clear n0_; (try clear hb); (try clear hb2); (try clear hk); (try clear hi)))
  go_ret
  exact ⟨by first | rfl | (simp [errW_none, errW_some] <;> rfl) | (simp [*, errW_none, errW_some] <;> rfl), by repeat (first | (with_reducible first | exact HB.out | apply below_alloc | apply pw_below_drewN | apply below_drew1) | exact HB.out)⟩
mutual
def galleyref14_lens.l0 : Nat → List (S70) → Int → Int → Int → Option (Int × Int)
 | 0, _, _, _, _ => none
 | k + 1, x0, x4, x5, x6 => if x6 < (x0.length : Int) then (if 0 ≤ x6 then (if ((rd_T70 x0 x6).f0) = 1 then (galleyref14_lens.j1 k x0 x4 x5 x6 true) else (galleyref14_lens.j1 k x0 x4 x5 x6 (((rd_T70 x0 x6).f0) == 3))) else (none)) else (some (x4, x5))
def galleyref14_lens.j1 : Nat → List (S70) → Int → Int → Int → Bool → Option (Int × Int)
 | 0, _, _, _, _, _ => none
 | k + 1, x0, x4, x5, x6, x26 => if x26 = true then (if 0 ≤ x6 then (if x6 < (x0.length : Int) then (if ((rd_T70 x0 x6).f0) = 1 then (galleyref14_lens.l0 k x0 (wrap64 (x4 + ((rd_T70 x0 x6).f1))) (wrap64 ((wrap64 (x5 + ((rd_T70 x0 x6).f1))) + (((rd_T70 x0 x6).f2).size : Int))) (wrap64 (x6 + 1))) else (galleyref14_lens.l0 k x0 (wrap64 (x4 + ((rd_T70 x0 x6).f1))) (wrap64 (x5 + (((rd_T70 x0 x6).f2).size : Int))) (wrap64 (x6 + 1)))) else (none)) else (none)) else (if 0 ≤ x6 then (if x6 < (x0.length : Int) then (if ((rd_T70 x0 x6).f0) = 1 then (galleyref14_lens.l0 k x0 x4 (wrap64 ((wrap64 (x5 + ((rd_T70 x0 x6).f1))) + (((rd_T70 x0 x6).f2).size : Int))) (wrap64 (x6 + 1))) else (galleyref14_lens.l0 k x0 x4 (wrap64 (x5 + (((rd_T70 x0 x6).f2).size : Int))) (wrap64 (x6 + 1)))) else (none)) else (none))
end
def galleyref14_lens.f (k : Nat) (l0 : List (S70)) : Option (Int × Int) := galleyref14_lens.l0 k l0 0 0 0
set_option maxHeartbeats 8000000 in
set_option maxRecDepth 100000 in
theorem galleyref14_lens.calls (k : Nat) (A0 : Option Addr) (c0 : Nat) (l0 : List (S70)) (r1 : Int) (r2 : Int) (w : World) (hr0 : Kd.C k70 w A0 l0.length l0) (hc0 : l0.length ≤ c0) (h : galleyref14_lens.f k l0 = some (r1, r2)) :
  Calls Try.prog 89 #[.slice A0 l0.length c0] w fun e w' => e = .returned (.tuple #[.int .i64 r1, .int .i64 r2]) ∧ Drawn0 w w' := by
 have HR0 := Aside0.mk hr0
 have HC0 := Aside0.mk hc0
 clear hr0 hc0
 have H : (galleyref14_lens.l0 k l0 0 0 0) = some (r1, r2) := h
 clear h
 have H' := Aside0.mk H
 clear H
 go_enter Try.func89, Try.ntmps89
 go_wp2
 go_loopg [4, 5, 6] k (fun kq v4 v5 v6 w' => ∃ (x4_1 : Int) (x5_1 : Int) (x6_1 : Int), v4 = .int .i64 x4_1 ∧ v5 = .int .i64 x5_1 ∧ v6 = .int .i64 x6_1 ∧ Aside0 (galleyref14_lens.l0 kq l0 x4_1 x5_1 x6_1 = some (r1, r2)) ∧ Aside0 (kq ≤ k) ∧ Drawn0 w w')
 case atStart => exact ⟨(0), (0), (0), (by first | rfl | (simp; done) | (simp [*]; done) | (simp; exact isEmpty_bne _)), (by first | rfl | (simp; done) | (simp [*]; done) | (simp; exact isEmpty_bne _)), (by first | rfl | (simp; done) | (simp [*]; done) | (simp; exact isEmpty_bne _)), H', ⟨Nat.le_refl _⟩, by repeat (first | exact Drawn0.refl _ | apply Drawn0.step)⟩
 case round =>
  clear H'
  obtain ⟨x4_1, x5_1, x6_1, rfl, rfl, rfl, HA, HK1, ⟨m1, rfl⟩⟩ := hrel
  cases gk with
  | zero => exact absurd HA.out (by simp [galleyref14_lens.l0])
  | succ k1 =>
   have H := HA.out
   clear HA
   simp only [galleyref14_lens.l0] at H
   by_cases c2 : x6_1 < (l0.length : Int)
   ·
    rw [if_pos c2] at H
    have c2b0 : decide (x6_1 < (l0.length : Int)) = true := decide_eq_true c2
    clear c2
    have HC3 := Aside0.mk H
    clear H
    go_upto_region 5 with (fail)
    go_cut [26] (fun v26 wc => ∃ (kq : Nat) (x26_2 : Bool), v26 = .bool x26_2 ∧ Aside0 (galleyref14_lens.j1 kq l0 x4_1 x5_1 x6_1 x26_2 = some (r1, r2)) ∧ Aside0 (kq ≤ k1) ∧ Drawn0 w wc)
    case first =>
     have H := HC3.out
     clear HC3
     by_cases c4 : 0 ≤ x6_1
     ·
      rw [if_pos c4] at H
      have c4b0 : decide (0 ≤ x6_1) = true := decide_eq_true c4
      clear c4
      (first | rw [c4b0] | (simp only [i64_w, i32_w]; rw [c4b0]) | skip)
      by_cases c5 : ((rd_T70 l0 x6_1).f0) = 1
      ·
       rw [if_pos c5] at H
       have c5b0 : (((rd_T70 l0 x6_1).f0) == 1) = true := beq_iff_eq.mpr c5
       have c5b1 : (((rd_T70 l0 x6_1).f0) != 1) = false := bne_eq_false_iff_eq.mpr c5
       clear c5
       have H' := Aside0.mk H
       clear H
       have p122 : 0 ≤ (x6_1 : Int) := of_decide_eq_true (by first | (with_reducible assumption) | assumption)
       have q122 : x6_1 < (l0.length : Int) := of_decide_eq_true (by first | (with_reducible assumption) | assumption)
       obtain ⟨ad122, e122, hx122_0, hx122_1, hx122_2⟩ := at_T70 HR0.out x6_1 p122 q122
       cases e122
       replace p122 := eq_true p122
       replace q122 := eq_true q122
       go_wp2
       go_meet
       case rel => exact ⟨_, (true), (by first | rfl | (simp; done) | (simp [*]; done) | (simp; exact isEmpty_bne _)), H', ⟨by have := HK1.out; first | omega | exact Nat.le_refl _⟩, by repeat (first | exact Drawn0.refl _ | apply Drawn0.step)⟩
      ·
       rw [if_neg c5] at H
       have c5b0 : (((rd_T70 l0 x6_1).f0) == 1) = false := beq_eq_false_iff_ne.mpr c5
       have c5b1 : (((rd_T70 l0 x6_1).f0) != 1) = true := bne_iff_ne.mpr c5
       have H' := Aside0.mk H
       clear H
       have p122 : 0 ≤ (x6_1 : Int) := of_decide_eq_true (by first | (with_reducible assumption) | assumption)
       have q122 : x6_1 < (l0.length : Int) := of_decide_eq_true (by first | (with_reducible assumption) | assumption)
       obtain ⟨ad122, e122, hx122_0, hx122_1, hx122_2⟩ := at_T70 HR0.out x6_1 p122 q122
       cases e122
       replace p122 := eq_true p122
       replace q122 := eq_true q122
       have p123 : 0 ≤ (x6_1 : Int) := of_decide_eq_true (by first | (with_reducible assumption) | assumption)
       have q123 : x6_1 < (l0.length : Int) := of_decide_eq_true (by first | (with_reducible assumption) | assumption)
       obtain ⟨ad123, e123, hx123_0, hx123_1, hx123_2⟩ := at_T70 HR0.out x6_1 p123 q123
       obtain rfl : ad122 = ad123 := (by injection e123)
       replace p123 := eq_true p123
       replace q123 := eq_true q123
       go_wp2
       go_meet
       case rel => exact ⟨_, ((((rd_T70 l0 x6_1).f0) == 3)), (by first | rfl | (simp; done) | (simp [*]; done) | (simp; exact isEmpty_bne _)), H', ⟨by have := HK1.out; first | omega | exact Nat.le_refl _⟩, by repeat (first | exact Drawn0.refl _ | apply Drawn0.step)⟩
     ·
      rw [if_neg c4] at H
      exact absurd H (by simp)
    case rest =>
     clear HC3
     (try clear p1); (try clear q1); (try clear hx1); (try clear c2); (try clear c2b0); (try clear p2); (try clear c4); (try clear c4b0); (try clear c5); (try clear c5b0); (try clear c5b1); (try clear hx122_0); (try clear hx122_1); (try clear hx122_2); (try clear hx123_0); (try clear hx123_1); (try clear hx123_2); (try clear p122); (try clear p123); (try clear q122); (try clear q123)
     obtain ⟨kq, x26_2, rfl, HA, HJ2, ⟨mc2, rfl⟩⟩ := hcut
     cases kq with
     | zero => exact absurd HA.out (by simp [galleyref14_lens.j1])
     | succ kj2 =>
      have H := HA.out
      clear HA
      simp only [galleyref14_lens.j1] at H
      by_cases c6 : x26_2 = true
      ·
       subst c6
       have H1 : (if 0 ≤ x6_1 then (if x6_1 < (l0.length : Int) then (if ((rd_T70 l0 x6_1).f0) = 1 then (galleyref14_lens.l0 kj2 l0 (wrap64 (x4_1 + ((rd_T70 l0 x6_1).f1))) (wrap64 ((wrap64 (x5_1 + ((rd_T70 l0 x6_1).f1))) + (((rd_T70 l0 x6_1).f2).size : Int))) (wrap64 (x6_1 + 1))) else (galleyref14_lens.l0 kj2 l0 (wrap64 (x4_1 + ((rd_T70 l0 x6_1).f1))) (wrap64 (x5_1 + (((rd_T70 l0 x6_1).f2).size : Int))) (wrap64 (x6_1 + 1)))) else (none)) else (none)) = some (r1, r2) := by rw [if_pos rfl] at H; exact H
       clear H
       have H := H1
       clear H1
       by_cases c7 : 0 ≤ x6_1
       ·
        rw [if_pos c7] at H
        have c7b0 : decide (0 ≤ x6_1) = true := decide_eq_true c7
        clear c7
        by_cases c8 : x6_1 < (l0.length : Int)
        ·
         rw [if_pos c8] at H
         have c8b0 : decide (x6_1 < (l0.length : Int)) = true := decide_eq_true c8
         clear c8
         by_cases c9 : ((rd_T70 l0 x6_1).f0) = 1
         ·
          rw [if_pos c9] at H
          have c9b0 : (((rd_T70 l0 x6_1).f0) == 1) = true := beq_iff_eq.mpr c9
          have c9b1 : (((rd_T70 l0 x6_1).f0) != 1) = false := bne_eq_false_iff_eq.mpr c9
          clear c9
          have H' := Aside0.mk H
          clear H
          have p124 : 0 ≤ (x6_1 : Int) := of_decide_eq_true (by first | (with_reducible assumption) | assumption)
          have q124 : x6_1 < (l0.length : Int) := of_decide_eq_true (by first | (with_reducible assumption) | assumption)
          obtain ⟨ad124, e124, hx124_0, hx124_1, hx124_2⟩ := at_T70 HR0.out x6_1 p124 q124
          cases e124
          replace p124 := eq_true p124
          replace q124 := eq_true q124
          have p125 : 0 ≤ (x6_1 : Int) := of_decide_eq_true (by first | (with_reducible assumption) | assumption)
          have q125 : x6_1 < (l0.length : Int) := of_decide_eq_true (by first | (with_reducible assumption) | assumption)
          obtain ⟨ad125, e125, hx125_0, hx125_1, hx125_2⟩ := at_T70 HR0.out x6_1 p125 q125
          obtain rfl : ad124 = ad125 := (by injection e125)
          replace p125 := eq_true p125
          replace q125 := eq_true q125
          have p126 : 0 ≤ (x6_1 : Int) := of_decide_eq_true (by first | (with_reducible assumption) | assumption)
          have q126 : x6_1 < (l0.length : Int) := of_decide_eq_true (by first | (with_reducible assumption) | assumption)
          obtain ⟨ad126, e126, hx126_0, hx126_1, hx126_2⟩ := at_T70 HR0.out x6_1 p126 q126
          obtain rfl : ad124 = ad126 := (by injection e126)
          replace p126 := eq_true p126
          replace q126 := eq_true q126
          have p127 : 0 ≤ (x6_1 : Int) := of_decide_eq_true (by first | (with_reducible assumption) | assumption)
          have q127 : x6_1 < (l0.length : Int) := of_decide_eq_true (by first | (with_reducible assumption) | assumption)
          obtain ⟨ad127, e127, hx127_0, hx127_1, hx127_2⟩ := at_T70 HR0.out x6_1 p127 q127
          obtain rfl : ad124 = ad127 := (by injection e127)
          replace p127 := eq_true p127
          replace q127 := eq_true q127
          go_wp2
          go_roundg kj2
          case measure => have := HK1.out; have := HJ2.out; omega
          case rel => exact ⟨(wrap64 (x4_1 + ((rd_T70 l0 x6_1).f1))), (wrap64 ((wrap64 (x5_1 + ((rd_T70 l0 x6_1).f1))) + (((rd_T70 l0 x6_1).f2).size : Int))), (wrap64 (x6_1 + 1)), (by first | rfl | (simp; done) | (simp [*]; done) | (simp; exact isEmpty_bne _)), (by first | rfl | (simp; done) | (simp [*]; done) | (simp; exact isEmpty_bne _)), (by first | rfl | (simp; done) | (simp [*]; done) | (simp; exact isEmpty_bne _)), H', ⟨by have := HK1.out; have := HJ2.out; omega⟩, by repeat (first | exact Drawn0.refl _ | apply Drawn0.step)⟩
         ·
          rw [if_neg c9] at H
          have c9b0 : (((rd_T70 l0 x6_1).f0) == 1) = false := beq_eq_false_iff_ne.mpr c9
          have c9b1 : (((rd_T70 l0 x6_1).f0) != 1) = true := bne_iff_ne.mpr c9
          have H' := Aside0.mk H
          clear H
          have p124 : 0 ≤ (x6_1 : Int) := of_decide_eq_true (by first | (with_reducible assumption) | assumption)
          have q124 : x6_1 < (l0.length : Int) := of_decide_eq_true (by first | (with_reducible assumption) | assumption)
          obtain ⟨ad124, e124, hx124_0, hx124_1, hx124_2⟩ := at_T70 HR0.out x6_1 p124 q124
          cases e124
          replace p124 := eq_true p124
          replace q124 := eq_true q124
          have p125 : 0 ≤ (x6_1 : Int) := of_decide_eq_true (by first | (with_reducible assumption) | assumption)
          have q125 : x6_1 < (l0.length : Int) := of_decide_eq_true (by first | (with_reducible assumption) | assumption)
          obtain ⟨ad125, e125, hx125_0, hx125_1, hx125_2⟩ := at_T70 HR0.out x6_1 p125 q125
          obtain rfl : ad124 = ad125 := (by injection e125)
          replace p125 := eq_true p125
          replace q125 := eq_true q125
          have p128 : 0 ≤ (x6_1 : Int) := of_decide_eq_true (by first | (with_reducible assumption) | assumption)
          have q128 : x6_1 < (l0.length : Int) := of_decide_eq_true (by first | (with_reducible assumption) | assumption)
          obtain ⟨ad128, e128, hx128_0, hx128_1, hx128_2⟩ := at_T70 HR0.out x6_1 p128 q128
          obtain rfl : ad124 = ad128 := (by injection e128)
          replace p128 := eq_true p128
          replace q128 := eq_true q128
          go_wp2
          go_roundg kj2
          case measure => have := HK1.out; have := HJ2.out; omega
          case rel => exact ⟨(wrap64 (x4_1 + ((rd_T70 l0 x6_1).f1))), (wrap64 (x5_1 + (((rd_T70 l0 x6_1).f2).size : Int))), (wrap64 (x6_1 + 1)), (by first | rfl | (simp; done) | (simp [*]; done) | (simp; exact isEmpty_bne _)), (by first | rfl | (simp; done) | (simp [*]; done) | (simp; exact isEmpty_bne _)), (by first | rfl | (simp; done) | (simp [*]; done) | (simp; exact isEmpty_bne _)), H', ⟨by have := HK1.out; have := HJ2.out; omega⟩, by repeat (first | exact Drawn0.refl _ | apply Drawn0.step)⟩
        ·
         rw [if_neg c8] at H
         exact absurd H (by simp)
       ·
        rw [if_neg c7] at H
        exact absurd H (by simp)
      ·
       replace c6 := Bool.eq_false_iff.mpr c6
       subst c6
       have H1 : (if 0 ≤ x6_1 then (if x6_1 < (l0.length : Int) then (if ((rd_T70 l0 x6_1).f0) = 1 then (galleyref14_lens.l0 kj2 l0 x4_1 (wrap64 ((wrap64 (x5_1 + ((rd_T70 l0 x6_1).f1))) + (((rd_T70 l0 x6_1).f2).size : Int))) (wrap64 (x6_1 + 1))) else (galleyref14_lens.l0 kj2 l0 x4_1 (wrap64 (x5_1 + (((rd_T70 l0 x6_1).f2).size : Int))) (wrap64 (x6_1 + 1)))) else (none)) else (none)) = some (r1, r2) := by rw [if_neg (show ¬ (false = true) by decide)] at H; exact H
       clear H
       have H := H1
       clear H1
       by_cases c10 : 0 ≤ x6_1
       ·
        rw [if_pos c10] at H
        have c10b0 : decide (0 ≤ x6_1) = true := decide_eq_true c10
        clear c10
        by_cases c11 : x6_1 < (l0.length : Int)
        ·
         rw [if_pos c11] at H
         have c11b0 : decide (x6_1 < (l0.length : Int)) = true := decide_eq_true c11
         clear c11
         by_cases c12 : ((rd_T70 l0 x6_1).f0) = 1
         ·
          rw [if_pos c12] at H
          have c12b0 : (((rd_T70 l0 x6_1).f0) == 1) = true := beq_iff_eq.mpr c12
          have c12b1 : (((rd_T70 l0 x6_1).f0) != 1) = false := bne_eq_false_iff_eq.mpr c12
          clear c12
          have H' := Aside0.mk H
          clear H
          have p129 : 0 ≤ (x6_1 : Int) := of_decide_eq_true (by first | (with_reducible assumption) | assumption)
          have q129 : x6_1 < (l0.length : Int) := of_decide_eq_true (by first | (with_reducible assumption) | assumption)
          obtain ⟨ad129, e129, hx129_0, hx129_1, hx129_2⟩ := at_T70 HR0.out x6_1 p129 q129
          cases e129
          replace p129 := eq_true p129
          replace q129 := eq_true q129
          have p130 : 0 ≤ (x6_1 : Int) := of_decide_eq_true (by first | (with_reducible assumption) | assumption)
          have q130 : x6_1 < (l0.length : Int) := of_decide_eq_true (by first | (with_reducible assumption) | assumption)
          obtain ⟨ad130, e130, hx130_0, hx130_1, hx130_2⟩ := at_T70 HR0.out x6_1 p130 q130
          obtain rfl : ad129 = ad130 := (by injection e130)
          replace p130 := eq_true p130
          replace q130 := eq_true q130
          have p131 : 0 ≤ (x6_1 : Int) := of_decide_eq_true (by first | (with_reducible assumption) | assumption)
          have q131 : x6_1 < (l0.length : Int) := of_decide_eq_true (by first | (with_reducible assumption) | assumption)
          obtain ⟨ad131, e131, hx131_0, hx131_1, hx131_2⟩ := at_T70 HR0.out x6_1 p131 q131
          obtain rfl : ad129 = ad131 := (by injection e131)
          replace p131 := eq_true p131
          replace q131 := eq_true q131
          go_wp2
          go_roundg kj2
          case measure => have := HK1.out; have := HJ2.out; omega
          case rel => exact ⟨(x4_1), (wrap64 ((wrap64 (x5_1 + ((rd_T70 l0 x6_1).f1))) + (((rd_T70 l0 x6_1).f2).size : Int))), (wrap64 (x6_1 + 1)), (by first | rfl | (simp; done) | (simp [*]; done) | (simp; exact isEmpty_bne _)), (by first | rfl | (simp; done) | (simp [*]; done) | (simp; exact isEmpty_bne _)), (by first | rfl | (simp; done) | (simp [*]; done) | (simp; exact isEmpty_bne _)), H', ⟨by have := HK1.out; have := HJ2.out; omega⟩, by repeat (first | exact Drawn0.refl _ | apply Drawn0.step)⟩
         ·
          rw [if_neg c12] at H
          have c12b0 : (((rd_T70 l0 x6_1).f0) == 1) = false := beq_eq_false_iff_ne.mpr c12
          have c12b1 : (((rd_T70 l0 x6_1).f0) != 1) = true := bne_iff_ne.mpr c12
          have H' := Aside0.mk H
          clear H
          have p129 : 0 ≤ (x6_1 : Int) := of_decide_eq_true (by first | (with_reducible assumption) | assumption)
          have q129 : x6_1 < (l0.length : Int) := of_decide_eq_true (by first | (with_reducible assumption) | assumption)
          obtain ⟨ad129, e129, hx129_0, hx129_1, hx129_2⟩ := at_T70 HR0.out x6_1 p129 q129
          cases e129
          replace p129 := eq_true p129
          replace q129 := eq_true q129
          have p132 : 0 ≤ (x6_1 : Int) := of_decide_eq_true (by first | (with_reducible assumption) | assumption)
          have q132 : x6_1 < (l0.length : Int) := of_decide_eq_true (by first | (with_reducible assumption) | assumption)
          obtain ⟨ad132, e132, hx132_0, hx132_1, hx132_2⟩ := at_T70 HR0.out x6_1 p132 q132
          obtain rfl : ad129 = ad132 := (by injection e132)
          replace p132 := eq_true p132
          replace q132 := eq_true q132
          go_wp2
          go_roundg kj2
          case measure => have := HK1.out; have := HJ2.out; omega
          case rel => exact ⟨(x4_1), (wrap64 (x5_1 + (((rd_T70 l0 x6_1).f2).size : Int))), (wrap64 (x6_1 + 1)), (by first | rfl | (simp; done) | (simp [*]; done) | (simp; exact isEmpty_bne _)), (by first | rfl | (simp; done) | (simp [*]; done) | (simp; exact isEmpty_bne _)), (by first | rfl | (simp; done) | (simp [*]; done) | (simp; exact isEmpty_bne _)), H', ⟨by have := HK1.out; have := HJ2.out; omega⟩, by repeat (first | exact Drawn0.refl _ | apply Drawn0.step)⟩
        ·
         rw [if_neg c11] at H
         exact absurd H (by simp)
       ·
        rw [if_neg c10] at H
        exact absurd H (by simp)
   ·
    rw [if_neg c2] at H
    have c2b0 : decide (x6_1 < (l0.length : Int)) = false := decide_eq_false c2
    clear c2
    simp only [Option.some.injEq, Prod.mk.injEq] at H
    obtain ⟨rfl, rfl⟩ := H
    go_wp2
    go_ret2
    exact ⟨by first | rfl | (simp; done) | (simp [*]; done), by repeat (first | exact Drawn0.refl _ | apply Drawn0.step)⟩
end Go.Proofs.Ytidihnnkcmeaeaa.A
