/- Part of a claim: theorems about the program's functions, written by a program over the translation. No condition. -/
import Derived.Test.YtidihnnkcmeaeaaA0
import Derived.Test.YtidihnnkcmeaeaaB
import Derived.Test.YtidihnnkcmeaeaaA3
import Derived.Test.YtidihnnkcmeaeaaA4
namespace Go.Proofs.Ytidihnnkcmeaeaa.A
open Go.RowKit Go.Proofs.YtidihnnkcmeaeaaW.PrintWords Go.Proofs.YtidihnnkcmeaeaaW.PrintLast Go.Proofs.YtidihnnkcmeaeaaW.PrintMore
attribute [local go_sem] max2_int min2_int max_two min_two max_three min_three max_four min_four
set_option linter.unusedVariables false
set_option linter.unusedSimpArgs false
def delta_Lens.f (k : Nat) (l0 : List (S70)) : Option (Int × Int × Int) := (delta_Valid.f k l0).bind fun t112 => (if t112 = true then ((delta_lens.f k l0).bind fun bt113 => (some (bt113.1, bt113.2.1, 0))) else (some (0, 0, 130)))
set_option maxHeartbeats 8000000 in
set_option maxRecDepth 100000 in
theorem delta_Lens.calls (k : Nat) (A0 : Option Addr) (c0 : Nat) (l0 : List (S70)) (r1 : Int) (r2 : Int) (r3 : Int) (w : World) (hr0 : Kd.C k70 w A0 l0.length l0) (hc0 : l0.length ≤ c0) (h : delta_Lens.f k l0 = some (r1, r2, r3)) :
  Calls Try.prog 38 #[.slice A0 l0.length c0] w fun e w' => e = .returned (.tuple #[.int .i64 r1, .int .i64 r2, .int .i64 r3]) ∧ Below w.heap.size w w' := by
 have HR0 := Aside0.mk hr0
 have HC0 := Aside0.mk hc0
 clear hr0 hc0
 have HB := Aside0.mk (Below.refl w.heap.size w)
 have H : ((delta_Valid.f k l0).bind fun t112 => (if t112 = true then ((delta_lens.f k l0).bind fun bt113 => (some (bt113.1, bt113.2.1, 0))) else (some (0, 0, 130)))) = some (r1, r2, r3) := h
 clear h
 replace H := Option.bind_eq_some_iff.mp H
 obtain ⟨t112, A20, H⟩ := H
 replace H : (if t112 = true then ((delta_lens.f k l0).bind fun bt113 => (some (bt113.1, bt113.2.1, 0))) else (some (0, 0, 130))) = some (r1, r2, r3) := H
 have A2 := Aside0.mk A20
 clear A20
 by_cases c3 : t112 = true
 ·
  subst c3
  have H1 : ((delta_lens.f k l0).bind fun bt113 => (some (bt113.1, bt113.2.1, 0))) = some (r1, r2, r3) := by rw [if_pos rfl] at H; exact H
  clear H
  have H := H1
  clear H1
  replace H := Option.bind_eq_some_iff.mp H
  obtain ⟨⟨t113, t114, t115⟩, A40, H⟩ := H
  replace H : (some (t113, t114, 0)) = some (r1, r2, r3) := H
  have A4 := Aside0.mk A40
  clear A40
  simp only [Option.some.injEq, Prod.mk.injEq] at H
  obtain ⟨rfl, rfl, rfl⟩ := H
  go_enter Try.func38, Try.ntmps38
  go_wp2_with (first | ((with_reducible refine gate_callee (f := 35) rfl ?_); refine goesL_ (some 6) rfl rfl Try.func35 (by kernel_rfl) rfl #[.slice A0 l0.length c0] rfl (by (try simp only [List.map_toArray, List.map_cons, List.map_nil]); first | done | rfl | (simp only [List.length_drop, List.length_take]; rfl)) ?_; (with_reducible refine (delta_Valid.calls k _ _ l0 true _ ?side1 ?side2 A2.out).mono ?_); (case side1 => repeat (first | exact HR0.out | (with_reducible refine Kd.C_alloc ?_ _) | (with_reducible refine Kd.C_drewN ?_ _) | (with_reducible refine Kd.C_drew ?_))); (case side2 => exact HC0.out); rintro e w5 ⟨rfl, hb⟩; refine ⟨_, rfl, ?_⟩; have n0_ := Aside0.mk (below_step (by repeat (first | (with_reducible first | exact HB.out | apply below_alloc | apply pw_below_drewN | apply below_drew1) | exact HB.out)) hb); clear HB; have HB := n0_; clear n0_; (try clear hb); (try clear hb2); (try clear hk); (try clear hi)) | ((with_reducible refine gate_callee (f := 64) rfl ?_); refine goesL_ (some 10) rfl rfl Try.func64 (by kernel_rfl) rfl #[.slice A0 l0.length c0] rfl (by (try simp only [List.map_toArray, List.map_cons, List.map_nil]); first | done | rfl | (simp only [List.length_drop, List.length_take]; rfl)) ?_; (with_reducible refine (delta_lens.calls k _ _ l0 t113 t114 t115 _ ?side1 ?side2 A4.out).mono ?_); (case side1 => repeat (first | exact (Kd.C_below HR0.out HB.out) | (with_reducible refine Kd.C_alloc ?_ _) | (with_reducible refine Kd.C_drewN ?_ _) | (with_reducible refine Kd.C_drew ?_))); (case side2 => exact HC0.out); rintro e w6 ⟨rfl, hb⟩; refine ⟨_, rfl, ?_⟩; have n0_ := Aside0.mk (below_step (by repeat (first | (with_reducible first | exact HB.out | apply below_alloc | apply pw_below_drewN | apply below_drew1) | exact HB.out)) hb); clear HB; have HB := n0_; clear n0_; (try clear hb); (try clear hb2); (try clear hk); (try clear hi)))
  go_ret3
  exact ⟨by first | rfl | (simp [errW_none, errW_some] <;> rfl) | (simp [*, errW_none, errW_some] <;> rfl), by repeat (first | (with_reducible first | exact HB.out | apply below_alloc | apply pw_below_drewN | apply below_drew1) | exact HB.out)⟩
 ·
  replace c3 := Bool.eq_false_iff.mpr c3
  subst c3
  have H1 : (some (0, 0, 130)) = some (r1, r2, r3) := by rw [if_neg (show ¬ (false = true) by decide)] at H; exact H
  clear H
  have H := H1
  clear H1
  simp only [Option.some.injEq, Prod.mk.injEq] at H
  obtain ⟨rfl, rfl, rfl⟩ := H
  go_enter Try.func38, Try.ntmps38
  go_wp2_with (first | ((with_reducible refine gate_callee (f := 35) rfl ?_); refine goesL_ (some 6) rfl rfl Try.func35 (by kernel_rfl) rfl #[.slice A0 l0.length c0] rfl (by (try simp only [List.map_toArray, List.map_cons, List.map_nil]); first | done | rfl | (simp only [List.length_drop, List.length_take]; rfl)) ?_; (with_reducible refine (delta_Valid.calls k _ _ l0 false _ ?side1 ?side2 A2.out).mono ?_); (case side1 => repeat (first | exact HR0.out | (with_reducible refine Kd.C_alloc ?_ _) | (with_reducible refine Kd.C_drewN ?_ _) | (with_reducible refine Kd.C_drew ?_))); (case side2 => exact HC0.out); rintro e w7 ⟨rfl, hb⟩; refine ⟨_, rfl, ?_⟩; have n0_ := Aside0.mk (below_step (by repeat (first | (with_reducible first | exact HB.out | apply below_alloc | apply pw_below_drewN | apply below_drew1) | exact HB.out)) hb); clear HB; have HB := n0_; clear n0_; (try clear hb); (try clear hb2); (try clear hk); (try clear hi)))
  go_ret3
  exact ⟨by first | rfl | (simp [errW_none, errW_some] <;> rfl) | (simp [*, errW_none, errW_some] <;> rfl), by repeat (first | (with_reducible first | exact HB.out | apply below_alloc | apply pw_below_drewN | apply below_drew1) | exact HB.out)⟩
def shift_fits.f (k : Nat) (l0 : List (S70)) (l1 : List (S70)) : Option (Int) := (delta_Lens.f k l0).bind fun bt116 => (if bt116.2.2 = 0 then ((delta_Lens.f k l1).bind fun bt119 => (if bt119.2.2 = 0 then (if bt116.1 = bt119.1 then (some 0) else (some 131)) else (some bt119.2.2))) else (some bt116.2.2))
mutual
def galleyref14_lens.l0 : Nat → List (S70) → Int → Int → Int → Option (Int × Int)
 | 0, _, _, _, _ => none
 | k + 1, x0, x4, x5, x6 => if x6 < (x0.length : Int) then (if 0 ≤ x6 then (if ((rd_T70 x0 x6).f0) = 1 then (galleyref14_lens.j1 k x0 x4 x5 x6 true) else (galleyref14_lens.j1 k x0 x4 x5 x6 (((rd_T70 x0 x6).f0) == 3))) else (none)) else (some (x4, x5))
def galleyref14_lens.j1 : Nat → List (S70) → Int → Int → Int → Bool → Option (Int × Int)
 | 0, _, _, _, _, _ => none
 | k + 1, x0, x4, x5, x6, x26 => if x26 = true then (if 0 ≤ x6 then (if x6 < (x0.length : Int) then (if ((rd_T70 x0 x6).f0) = 1 then (galleyref14_lens.l0 k x0 (wrap64 (x4 + ((rd_T70 x0 x6).f1))) (wrap64 ((wrap64 (x5 + ((rd_T70 x0 x6).f1))) + (((rd_T70 x0 x6).f2).size : Int))) (wrap64 (x6 + 1))) else (galleyref14_lens.l0 k x0 (wrap64 (x4 + ((rd_T70 x0 x6).f1))) (wrap64 (x5 + (((rd_T70 x0 x6).f2).size : Int))) (wrap64 (x6 + 1)))) else (none)) else (none)) else (if 0 ≤ x6 then (if x6 < (x0.length : Int) then (if ((rd_T70 x0 x6).f0) = 1 then (galleyref14_lens.l0 k x0 x4 (wrap64 ((wrap64 (x5 + ((rd_T70 x0 x6).f1))) + (((rd_T70 x0 x6).f2).size : Int))) (wrap64 (x6 + 1))) else (galleyref14_lens.l0 k x0 x4 (wrap64 (x5 + (((rd_T70 x0 x6).f2).size : Int))) (wrap64 (x6 + 1)))) else (none)) else (none))
end
def galleyref14_lens.f (k : Nat) (l0 : List (S70)) : Option (Int × Int) := galleyref14_lens.l0 k l0 0 0 0
end Go.Proofs.Ytidihnnkcmeaeaa.A
