-- Written by a program over the translation (the kit's print, turned so that some functions are taken by contracts of this claim's own).
import Derived.Test.YtidihnnkcmeaeaaA0
import Derived.Test.YtidihnnkcmeaeaaB
import Derived.Test.YtidihnnkcmeaeaaA5
import Derived.Test.YtidihnnkcmeaeaaA7
namespace Go.Proofs.Ytidihnnkcmeaeaa.A
open Go.RowKit Go.Proofs.YtidihnnkcmeaeaaW.PrintWords Go.Proofs.YtidihnnkcmeaeaaW.PrintLast Go.Proofs.YtidihnnkcmeaeaaW.PrintMore
attribute [local go_sem] max2_int min2_int max_two min_two max_three min_three max_four min_four   -- for this text's walks alone
set_option linter.unusedVariables false
set_option linter.unusedSimpArgs false

/-! ### galleyref14_Place: function 53 -/
mutual
def galleyref14_Place.j0 : Nat → List (S70) → Int → Int → Bool → Option (Int × Int)
 | 0, _, _, _, _ => none
 | k + 1, x0, x1, x2, x37 => if x37 = true then (some (0, 2)) else (galleyref14_Place.l0 k x0 x1 x2 0 0 0)
def galleyref14_Place.l0 : Nat → List (S70) → Int → Int → Int → Int → Int → Option (Int × Int)
 | 0, _, _, _, _, _, _ => none
 | k + 1, x0, x1, x2, x10, x11, x12 => if x12 < (x0.length : Int) then (if 0 ≤ x12 then (if ((rd_T70 x0 x12).f0) = 1 then (if x1 ≥ x10 then (if x1 < (wrap64 (x10 + ((rd_T70 x0 x12).f1))) then (some (wrap64 ((wrap64 (x11 + x1)) - x10), 0)) else (galleyref14_Place.l0 k x0 x1 x2 (wrap64 (x10 + ((rd_T70 x0 x12).f1))) (wrap64 (x11 + ((rd_T70 x0 x12).f1))) (wrap64 (x12 + 1)))) else (galleyref14_Place.l0 k x0 x1 x2 (wrap64 (x10 + ((rd_T70 x0 x12).f1))) (wrap64 (x11 + ((rd_T70 x0 x12).f1))) (wrap64 (x12 + 1)))) else (galleyref14_Place.l1 k x0 x1 x2 x10 x11 x12 0 0)) else (none)) else (some (wrap64 ((wrap64 (x11 + x1)) - x10), 0))
def galleyref14_Place.l1 : Nat → List (S70) → Int → Int → Int → Int → Int → Int → Int → Option (Int × Int)
 | 0, _, _, _, _, _, _, _, _ => none
 | k + 1, x0, x1, x2, x10, x11, x12, x13, x14 => if x12 < (x0.length : Int) then (if 0 ≤ x12 then (galleyref14_Place.j3 k x0 x1 x2 x10 x11 x12 x13 x14 (((rd_T70 x0 x12).f0) != 1)) else (none)) else (galleyref14_Place.j3 k x0 x1 x2 x10 x11 x12 x13 x14 false)
def galleyref14_Place.j3 : Nat → List (S70) → Int → Int → Int → Int → Int → Int → Int → Bool → Option (Int × Int)
 | 0, _, _, _, _, _, _, _, _, _ => none
 | k + 1, x0, x1, x2, x10, x11, x12, x13, x14, x94 => if x94 = true then (if 0 ≤ x12 then (if x12 < (x0.length : Int) then (if ((rd_T70 x0 x12).f0) = 3 then (galleyref14_Place.l1 k x0 x1 x2 x10 x11 (wrap64 (x12 + 1)) (wrap64 (x13 + (((rd_T70 x0 x12).f2).size : Int))) (wrap64 (x14 + ((rd_T70 x0 x12).f1)))) else (galleyref14_Place.l1 k x0 x1 x2 x10 x11 (wrap64 (x12 + 1)) (wrap64 (x13 + (((rd_T70 x0 x12).f2).size : Int))) x14)) else (none)) else (none)) else (if x1 ≥ x10 then (galleyref14_Place.j4 k x0 x1 x2 x10 x11 x12 x13 x14 (decide (x1 ≤ (wrap64 (x10 + x14))))) else (galleyref14_Place.j4 k x0 x1 x2 x10 x11 x12 x13 x14 false))
def galleyref14_Place.j4 : Nat → List (S70) → Int → Int → Int → Int → Int → Int → Int → Bool → Option (Int × Int)
 | 0, _, _, _, _, _, _, _, _, _ => none
 | k + 1, x0, x1, x2, x10, x11, x12, x13, x14, x127 => if x127 = true then (if x2 = 1 then (some (x11, 0)) else (some (wrap64 (x11 + x13), 0))) else (galleyref14_Place.l0 k x0 x1 x2 (wrap64 (x10 + x14)) (wrap64 (x11 + x13)) x12)
end
def galleyref14_Place.f (k : Nat) (l0 : List (S70)) (a1 : Int) (a2 : Int) : Option (Int × Int) := (galleyref14_Valid.f k l0).bind fun t983 => (if t983 = true then ((galleyref14_lens.f k l0).bind fun bt984 => (if a1 < 0 then (galleyref14_Place.j0 k l0 a1 a2 true) else (if a1 > bt984.1 then (galleyref14_Place.j0 k l0 a1 a2 true) else (if a2 = 1 then (galleyref14_Place.j0 k l0 a1 a2 false) else (galleyref14_Place.j0 k l0 a1 a2 (a2 != 2)))))) else (some (0, 130)))
set_option maxHeartbeats 8000000 in
set_option maxRecDepth 100000 in
theorem galleyref14_Place.calls (k : Nat) (A0 : Option Addr) (c0 : Nat) (l0 : List (S70)) (a1 : Int) (a2 : Int) (r1 : Int) (r2 : Int) (w : World) (hr0 : Kd.C k70 w A0 l0.length l0) (hc0 : l0.length ≤ c0) (h : galleyref14_Place.f k l0 a1 a2 = some (r1, r2)) :
  Calls Try.prog 53 #[.slice A0 l0.length c0, .int .i64 a1, .int .i64 a2] w fun e w' => e = .returned (.tuple #[.int .i64 r1, .int .i64 r2]) ∧ Below w.heap.size w w' := by
 have HR0 := Aside0.mk hr0
 have HC0 := Aside0.mk hc0
 clear hr0 hc0
 have HB := Aside0.mk (Below.refl w.heap.size w)
 have H : ((galleyref14_Valid.f k l0).bind fun t983 => (if t983 = true then ((galleyref14_lens.f k l0).bind fun bt984 => (if a1 < 0 then (galleyref14_Place.j0 k l0 a1 a2 true) else (if a1 > bt984.1 then (galleyref14_Place.j0 k l0 a1 a2 true) else (if a2 = 1 then (galleyref14_Place.j0 k l0 a1 a2 false) else (galleyref14_Place.j0 k l0 a1 a2 (a2 != 2)))))) else (some (0, 130)))) = some (r1, r2) := h
 clear h
 replace H := Option.bind_eq_some_iff.mp H
 obtain ⟨t983, A40, H⟩ := H
 replace H : (if t983 = true then ((galleyref14_lens.f k l0).bind fun bt984 => (if a1 < 0 then (galleyref14_Place.j0 k l0 a1 a2 true) else (if a1 > bt984.1 then (galleyref14_Place.j0 k l0 a1 a2 true) else (if a2 = 1 then (galleyref14_Place.j0 k l0 a1 a2 false) else (galleyref14_Place.j0 k l0 a1 a2 (a2 != 2)))))) else (some (0, 130))) = some (r1, r2) := H
 have A4 := Aside0.mk A40
 clear A40
 by_cases c5 : t983 = true
 ·
  subst c5
  have H1 : ((galleyref14_lens.f k l0).bind fun bt984 => (if a1 < 0 then (galleyref14_Place.j0 k l0 a1 a2 true) else (if a1 > bt984.1 then (galleyref14_Place.j0 k l0 a1 a2 true) else (if a2 = 1 then (galleyref14_Place.j0 k l0 a1 a2 false) else (galleyref14_Place.j0 k l0 a1 a2 (a2 != 2)))))) = some (r1, r2) := by rw [if_pos rfl] at H; exact H
  clear H
  have H := H1
  clear H1
  replace H := Option.bind_eq_some_iff.mp H
  obtain ⟨⟨t984, t985⟩, A60, H⟩ := H
  replace H : (if a1 < 0 then (galleyref14_Place.j0 k l0 a1 a2 true) else (if a1 > t984 then (galleyref14_Place.j0 k l0 a1 a2 true) else (if a2 = 1 then (galleyref14_Place.j0 k l0 a1 a2 false) else (galleyref14_Place.j0 k l0 a1 a2 (a2 != 2))))) = some (r1, r2) := H
  have A6 := Aside0.mk A60
  clear A60
  have HC7 := Aside0.mk H
  clear H
  go_enter Try.func53, Try.ntmps53
  go_upto_region 4 with (first | ((with_reducible refine gate_callee (f := 88) rfl ?_); refine goesL_ (some 16) rfl rfl Try.func88 (by kernel_rfl) rfl #[.slice A0 l0.length c0] rfl (by (try simp only [List.map_toArray, List.map_cons, List.map_nil]); first | done | rfl | (simp only [List.length_drop, List.length_take]; rfl)) ?_; (with_reducible refine (galleyref14_Valid.calls k _ _ l0 true _ ?side1 ?side2 A4.out).mono ?_); (case side1 => repeat (first | exact HR0.out | (with_reducible refine Kd.C_alloc ?_ _) | (with_reducible refine Kd.C_drewN ?_ _) | (with_reducible refine Kd.C_drew ?_))); (case side2 => exact HC0.out); rintro e w8 ⟨rfl, hb⟩; refine ⟨_, rfl, ?_⟩; have n0_ := Aside0.mk (below_step (by repeat (first | (with_reducible first | exact HB.out | apply below_alloc | apply pw_below_drewN | apply below_drew1) | exact HB.out)) hb); clear HB; have HB := n0_; clear n0_; (try clear hb); (try clear hb2); (try clear hk); (try clear hi)) | ((with_reducible refine gate_callee (f := 89) rfl ?_); refine goesL_ (some 20) rfl rfl Try.func89 (by kernel_rfl) rfl #[.slice A0 l0.length c0] rfl (by (try simp only [List.map_toArray, List.map_cons, List.map_nil]); first | done | rfl | (simp only [List.length_drop, List.length_take]; rfl)) ?_; (with_reducible refine (galleyref14_lens.calls k _ _ l0 t984 t985 _ ?side1 ?side2 A6.out).mono ?_); (case side1 => repeat (first | exact (Kd.C_below HR0.out HB.out) | (with_reducible refine Kd.C_alloc ?_ _) | (with_reducible refine Kd.C_drewN ?_ _) | (with_reducible refine Kd.C_drew ?_))); (case side2 => exact HC0.out); rintro e w' ⟨rfl, ⟨nd, rfl⟩⟩; refine ⟨_, rfl, ?_⟩))
  (try simp only [Act.put, List.setIfInBounds_toArray, List.set_cons_zero, List.set_cons_succ])
  go_cut [37] (fun v37 wc => ∃ (kq : Nat) (x37_6 : Bool), v37 = .bool x37_6 ∧ Aside0 (galleyref14_Place.j0 kq l0 a1 a2 x37_6 = some (r1, r2)) ∧ Aside0 (kq ≤ k) ∧ Aside0 (Below w.heap.size w wc))
  case first =>
   have H := HC7.out
   clear HC7
   by_cases c9 : a1 < 0
   ·
    rw [if_pos c9] at H
    have c9b0 : decide (a1 < 0) = true := decide_eq_true c9
    clear c9
    (first | rw [c9b0] | (simp only [i64_w, i32_w]; rw [c9b0]) | skip)
    have H' := Aside0.mk H
    clear H
    go_wp2
    go_meet
    case rel => exact ⟨_, (true), (by first | rfl | (simp; done) | (simp [*]; done) | (simp; exact isEmpty_bne _)), H', ⟨by first | omega | exact Nat.le_refl _⟩, ⟨by repeat (first | (with_reducible first | exact HB.out | apply below_alloc | apply pw_below_drewN | apply below_drew1) | exact HB.out)⟩⟩
   ·
    rw [if_neg c9] at H
    have c9b0 : decide (a1 < 0) = false := decide_eq_false c9
    clear c9
    (first | rw [c9b0] | (simp only [i64_w, i32_w]; rw [c9b0]) | skip)
    by_cases c10 : a1 > t984
    ·
     rw [if_pos c10] at H
     have c10b0 : decide (t984 < a1) = true := decide_eq_true c10
     clear c10
     have H' := Aside0.mk H
     clear H
     go_wp2
     go_meet
     case rel => exact ⟨_, (true), (by first | rfl | (simp; done) | (simp [*]; done) | (simp; exact isEmpty_bne _)), H', ⟨by first | omega | exact Nat.le_refl _⟩, ⟨by repeat (first | (with_reducible first | exact HB.out | apply below_alloc | apply pw_below_drewN | apply below_drew1) | exact HB.out)⟩⟩
    ·
     rw [if_neg c10] at H
     have c10b0 : decide (t984 < a1) = false := decide_eq_false c10
     clear c10
     by_cases c11 : a2 = 1
     ·
      rw [if_pos c11] at H
      have c11b0 : (a2 == 1) = true := beq_iff_eq.mpr c11
      have c11b1 : (a2 != 1) = false := bne_eq_false_iff_eq.mpr c11
      clear c11
      have H' := Aside0.mk H
      clear H
      go_wp2
      go_meet
      case rel => exact ⟨_, (false), (by first | rfl | (simp; done) | (simp [*]; done) | (simp; exact isEmpty_bne _)), H', ⟨by first | omega | exact Nat.le_refl _⟩, ⟨by repeat (first | (with_reducible first | exact HB.out | apply below_alloc | apply pw_below_drewN | apply below_drew1) | exact HB.out)⟩⟩
     ·
      rw [if_neg c11] at H
      have c11b0 : (a2 == 1) = false := beq_eq_false_iff_ne.mpr c11
      have c11b1 : (a2 != 1) = true := bne_iff_ne.mpr c11
      have H' := Aside0.mk H
      clear H
      go_wp2
      go_meet
      case rel => exact ⟨_, ((a2 != 2)), (by first | rfl | (simp; done) | (simp [*]; done) | (simp; exact isEmpty_bne _)), H', ⟨by first | omega | exact Nat.le_refl _⟩, ⟨by repeat (first | (with_reducible first | exact HB.out | apply below_alloc | apply pw_below_drewN | apply below_drew1) | exact HB.out)⟩⟩
  case rest =>
   clear HC7
   (try clear c1); (try clear p2); (try clear c5); (try clear c8); (try clear c9); (try clear c9b0); (try clear c10); (try clear c10b0); (try clear c11); (try clear c11b0); (try clear c11b1)
   obtain ⟨kq, x37_6, rfl, HA, HJ6, HB⟩ := hcut
   cases kq with
   | zero => exact absurd HA.out (by simp [galleyref14_Place.j0])
   | succ kj6 =>
    have H := HA.out
    clear HA
    simp only [galleyref14_Place.j0] at H
    by_cases c12 : x37_6 = true
    ·
     subst c12
     have H1 : (some (0, 2)) = some (r1, r2) := by rw [if_pos rfl] at H; exact H
     clear H
     have H := H1
     clear H1
     simp only [Option.some.injEq, Prod.mk.injEq] at H
     obtain ⟨rfl, rfl⟩ := H
     go_wp2
     go_ret2
     exact ⟨by first | rfl | (simp [errW_none, errW_some] <;> rfl) | (simp [*, errW_none, errW_some] <;> rfl), by repeat (first | (with_reducible first | exact HB.out | apply below_alloc | apply pw_below_drewN | apply below_drew1) | exact HB.out)⟩
    ·
     replace c12 := Bool.eq_false_iff.mpr c12
     subst c12
     have H1 : (galleyref14_Place.l0 kj6 l0 a1 a2 0 0 0) = some (r1, r2) := by rw [if_neg (show ¬ (false = true) by decide)] at H; exact H
     clear H
     have H := H1
     clear H1
     have H' := Aside0.mk H
     clear H
     go_wp2
     go_loopg [10, 11, 12] kj6 (fun kq v10 v11 v12 w' => ∃ (x10_2 : Int) (x11_2 : Int) (x12_2 : Int), v10 = .int .i64 x10_2 ∧ v11 = .int .i64 x11_2 ∧ v12 = .int .i64 x12_2 ∧ Aside0 (galleyref14_Place.l0 kq l0 a1 a2 x10_2 x11_2 x12_2 = some (r1, r2)) ∧ Aside0 (kq ≤ kj6) ∧ Aside0 (Below w.heap.size w w'))
     case atStart => exact ⟨(0), (0), (0), (by first | rfl | (simp; done) | (simp [*]; done) | (simp; exact isEmpty_bne _)), (by first | rfl | (simp; done) | (simp [*]; done) | (simp; exact isEmpty_bne _)), (by first | rfl | (simp; done) | (simp [*]; done) | (simp; exact isEmpty_bne _)), H', ⟨Nat.le_refl _⟩, ⟨by repeat (first | (with_reducible first | exact HB.out | apply below_alloc | apply pw_below_drewN | apply below_drew1) | exact HB.out)⟩⟩
     case round =>
      clear H'
      (try clear c1); (try clear p2); (try clear c5); (try clear c8); (try clear c9); (try clear c9b0); (try clear c10); (try clear c10b0); (try clear c11); (try clear c11b0); (try clear c11b1); (try clear c12); (try clear p2)
      obtain ⟨x10_2, x11_2, x12_2, rfl, rfl, rfl, HA, HK2, HB⟩ := hrel
      cases gk with
      | zero => exact absurd HA.out (by simp [galleyref14_Place.l0])
      | succ k2 =>
       have H := HA.out
       clear HA
       simp only [galleyref14_Place.l0] at H
       by_cases c13 : x12_2 < (l0.length : Int)
       ·
        rw [if_pos c13] at H
        have c13b0 : decide (x12_2 < (l0.length : Int)) = true := decide_eq_true c13
        clear c13
        by_cases c14 : 0 ≤ x12_2
        ·
         rw [if_pos c14] at H
         have c14b0 : decide (0 ≤ x12_2) = true := decide_eq_true c14
         clear c14
         by_cases c15 : ((rd_T70 l0 x12_2).f0) = 1
         ·
          rw [if_pos c15] at H
          have c15b0 : (((rd_T70 l0 x12_2).f0) == 1) = true := beq_iff_eq.mpr c15
          have c15b1 : (((rd_T70 l0 x12_2).f0) != 1) = false := bne_eq_false_iff_eq.mpr c15
          clear c15
          by_cases c16 : a1 ≥ x10_2
          ·
           rw [if_pos c16] at H
           have c16b0 : decide (x10_2 ≤ a1) = true := decide_eq_true c16
           clear c16
           by_cases c17 : a1 < (wrap64 (x10_2 + ((rd_T70 l0 x12_2).f1)))
           ·
            rw [if_pos c17] at H
            have c17b0 : decide (a1 < (wrap64 (x10_2 + ((rd_T70 l0 x12_2).f1)))) = true := decide_eq_true c17
            clear c17
            simp only [Option.some.injEq, Prod.mk.injEq] at H
            obtain ⟨rfl, rfl⟩ := H
            have p986 : 0 ≤ (x12_2 : Int) := of_decide_eq_true (by first | (with_reducible assumption) | assumption)
            have q986 : x12_2 < (l0.length : Int) := of_decide_eq_true (by first | (with_reducible assumption) | assumption)
            obtain ⟨ad986, e986, hx986_0, hx986_1, hx986_2⟩ := at_T70 HR0.out x12_2 p986 q986
            cases e986
            replace hx986_0 := (HB.out.cell (World.block_lt_of_cell? w _ hx986_0)).trans hx986_0
            replace hx986_1 := (HB.out.cell (World.block_lt_of_cell? w _ hx986_1)).trans hx986_1
            replace hx986_2 := (HB.out.cell (World.block_lt_of_cell? w _ hx986_2)).trans hx986_2
            replace p986 := eq_true p986
            replace q986 := eq_true q986
            have p987 : 0 ≤ (x12_2 : Int) := of_decide_eq_true (by first | (with_reducible assumption) | assumption)
            have q987 : x12_2 < (l0.length : Int) := of_decide_eq_true (by first | (with_reducible assumption) | assumption)
            obtain ⟨ad987, e987, hx987_0, hx987_1, hx987_2⟩ := at_T70 HR0.out x12_2 p987 q987
            obtain rfl : ad986 = ad987 := (by injection e987)
            replace hx987_0 := (HB.out.cell (World.block_lt_of_cell? w _ hx987_0)).trans hx987_0
            replace hx987_1 := (HB.out.cell (World.block_lt_of_cell? w _ hx987_1)).trans hx987_1
            replace hx987_2 := (HB.out.cell (World.block_lt_of_cell? w _ hx987_2)).trans hx987_2
            replace p987 := eq_true p987
            replace q987 := eq_true q987
            go_wp2
            go_ret2
            exact ⟨by first | rfl | (simp [errW_none, errW_some] <;> rfl) | (simp [*, errW_none, errW_some] <;> rfl), by repeat (first | (with_reducible first | exact HB.out | apply below_alloc | apply pw_below_drewN | apply below_drew1) | exact HB.out)⟩
           ·
            rw [if_neg c17] at H
            have c17b0 : decide (a1 < (wrap64 (x10_2 + ((rd_T70 l0 x12_2).f1)))) = false := decide_eq_false c17
            clear c17
            have H' := Aside0.mk H
            clear H
            have p986 : 0 ≤ (x12_2 : Int) := of_decide_eq_true (by first | (with_reducible assumption) | assumption)
            have q986 : x12_2 < (l0.length : Int) := of_decide_eq_true (by first | (with_reducible assumption) | assumption)
            obtain ⟨ad986, e986, hx986_0, hx986_1, hx986_2⟩ := at_T70 HR0.out x12_2 p986 q986
            cases e986
            replace hx986_0 := (HB.out.cell (World.block_lt_of_cell? w _ hx986_0)).trans hx986_0
            replace hx986_1 := (HB.out.cell (World.block_lt_of_cell? w _ hx986_1)).trans hx986_1
            replace hx986_2 := (HB.out.cell (World.block_lt_of_cell? w _ hx986_2)).trans hx986_2
            replace p986 := eq_true p986
            replace q986 := eq_true q986
            have p987 : 0 ≤ (x12_2 : Int) := of_decide_eq_true (by first | (with_reducible assumption) | assumption)
            have q987 : x12_2 < (l0.length : Int) := of_decide_eq_true (by first | (with_reducible assumption) | assumption)
            obtain ⟨ad987, e987, hx987_0, hx987_1, hx987_2⟩ := at_T70 HR0.out x12_2 p987 q987
            obtain rfl : ad986 = ad987 := (by injection e987)
            replace hx987_0 := (HB.out.cell (World.block_lt_of_cell? w _ hx987_0)).trans hx987_0
            replace hx987_1 := (HB.out.cell (World.block_lt_of_cell? w _ hx987_1)).trans hx987_1
            replace hx987_2 := (HB.out.cell (World.block_lt_of_cell? w _ hx987_2)).trans hx987_2
            replace p987 := eq_true p987
            replace q987 := eq_true q987
            have p988 : 0 ≤ (x12_2 : Int) := of_decide_eq_true (by first | (with_reducible assumption) | assumption)
            have q988 : x12_2 < (l0.length : Int) := of_decide_eq_true (by first | (with_reducible assumption) | assumption)
            obtain ⟨ad988, e988, hx988_0, hx988_1, hx988_2⟩ := at_T70 HR0.out x12_2 p988 q988
            obtain rfl : ad986 = ad988 := (by injection e988)
            replace hx988_0 := (HB.out.cell (World.block_lt_of_cell? w _ hx988_0)).trans hx988_0
            replace hx988_1 := (HB.out.cell (World.block_lt_of_cell? w _ hx988_1)).trans hx988_1
            replace hx988_2 := (HB.out.cell (World.block_lt_of_cell? w _ hx988_2)).trans hx988_2
            replace p988 := eq_true p988
            replace q988 := eq_true q988
            have p989 : 0 ≤ (x12_2 : Int) := of_decide_eq_true (by first | (with_reducible assumption) | assumption)
            have q989 : x12_2 < (l0.length : Int) := of_decide_eq_true (by first | (with_reducible assumption) | assumption)
            obtain ⟨ad989, e989, hx989_0, hx989_1, hx989_2⟩ := at_T70 HR0.out x12_2 p989 q989
            obtain rfl : ad986 = ad989 := (by injection e989)
            replace hx989_0 := (HB.out.cell (World.block_lt_of_cell? w _ hx989_0)).trans hx989_0
            replace hx989_1 := (HB.out.cell (World.block_lt_of_cell? w _ hx989_1)).trans hx989_1
            replace hx989_2 := (HB.out.cell (World.block_lt_of_cell? w _ hx989_2)).trans hx989_2
            replace p989 := eq_true p989
            replace q989 := eq_true q989
            go_wp2
            go_roundg k2
            case measure => have := HJ6.out; have := HK2.out; omega
            case rel => exact ⟨(wrap64 (x10_2 + ((rd_T70 l0 x12_2).f1))), (wrap64 (x11_2 + ((rd_T70 l0 x12_2).f1))), (wrap64 (x12_2 + 1)), (by first | rfl | (simp; done) | (simp [*]; done) | (simp; exact isEmpty_bne _)), (by first | rfl | (simp; done) | (simp [*]; done) | (simp; exact isEmpty_bne _)), (by first | rfl | (simp; done) | (simp [*]; done) | (simp; exact isEmpty_bne _)), H', ⟨by have := HJ6.out; have := HK2.out; omega⟩, ⟨by repeat (first | (with_reducible first | exact HB.out | apply below_alloc | apply pw_below_drewN | apply below_drew1) | exact HB.out)⟩⟩
          ·
           rw [if_neg c16] at H
           have c16b0 : decide (x10_2 ≤ a1) = false := decide_eq_false c16
           clear c16
           have H' := Aside0.mk H
           clear H
           have p986 : 0 ≤ (x12_2 : Int) := of_decide_eq_true (by first | (with_reducible assumption) | assumption)
           have q986 : x12_2 < (l0.length : Int) := of_decide_eq_true (by first | (with_reducible assumption) | assumption)
           obtain ⟨ad986, e986, hx986_0, hx986_1, hx986_2⟩ := at_T70 HR0.out x12_2 p986 q986
           cases e986
           replace hx986_0 := (HB.out.cell (World.block_lt_of_cell? w _ hx986_0)).trans hx986_0
           replace hx986_1 := (HB.out.cell (World.block_lt_of_cell? w _ hx986_1)).trans hx986_1
           replace hx986_2 := (HB.out.cell (World.block_lt_of_cell? w _ hx986_2)).trans hx986_2
           replace p986 := eq_true p986
           replace q986 := eq_true q986
           have p990 : 0 ≤ (x12_2 : Int) := of_decide_eq_true (by first | (with_reducible assumption) | assumption)
           have q990 : x12_2 < (l0.length : Int) := of_decide_eq_true (by first | (with_reducible assumption) | assumption)
           obtain ⟨ad990, e990, hx990_0, hx990_1, hx990_2⟩ := at_T70 HR0.out x12_2 p990 q990
           obtain rfl : ad986 = ad990 := (by injection e990)
           replace hx990_0 := (HB.out.cell (World.block_lt_of_cell? w _ hx990_0)).trans hx990_0
           replace hx990_1 := (HB.out.cell (World.block_lt_of_cell? w _ hx990_1)).trans hx990_1
           replace hx990_2 := (HB.out.cell (World.block_lt_of_cell? w _ hx990_2)).trans hx990_2
           replace p990 := eq_true p990
           replace q990 := eq_true q990
           have p991 : 0 ≤ (x12_2 : Int) := of_decide_eq_true (by first | (with_reducible assumption) | assumption)
           have q991 : x12_2 < (l0.length : Int) := of_decide_eq_true (by first | (with_reducible assumption) | assumption)
           obtain ⟨ad991, e991, hx991_0, hx991_1, hx991_2⟩ := at_T70 HR0.out x12_2 p991 q991
           obtain rfl : ad986 = ad991 := (by injection e991)
           replace hx991_0 := (HB.out.cell (World.block_lt_of_cell? w _ hx991_0)).trans hx991_0
           replace hx991_1 := (HB.out.cell (World.block_lt_of_cell? w _ hx991_1)).trans hx991_1
           replace hx991_2 := (HB.out.cell (World.block_lt_of_cell? w _ hx991_2)).trans hx991_2
           replace p991 := eq_true p991
           replace q991 := eq_true q991
           go_wp2
           go_roundg k2
           case measure => have := HJ6.out; have := HK2.out; omega
           case rel => exact ⟨(wrap64 (x10_2 + ((rd_T70 l0 x12_2).f1))), (wrap64 (x11_2 + ((rd_T70 l0 x12_2).f1))), (wrap64 (x12_2 + 1)), (by first | rfl | (simp; done) | (simp [*]; done) | (simp; exact isEmpty_bne _)), (by first | rfl | (simp; done) | (simp [*]; done) | (simp; exact isEmpty_bne _)), (by first | rfl | (simp; done) | (simp [*]; done) | (simp; exact isEmpty_bne _)), H', ⟨by have := HJ6.out; have := HK2.out; omega⟩, ⟨by repeat (first | (with_reducible first | exact HB.out | apply below_alloc | apply pw_below_drewN | apply below_drew1) | exact HB.out)⟩⟩
         ·
          rw [if_neg c15] at H
          have c15b0 : (((rd_T70 l0 x12_2).f0) == 1) = false := beq_eq_false_iff_ne.mpr c15
          have c15b1 : (((rd_T70 l0 x12_2).f0) != 1) = true := bne_iff_ne.mpr c15
          have H' := Aside0.mk H
          clear H
          have p986 : 0 ≤ (x12_2 : Int) := of_decide_eq_true (by first | (with_reducible assumption) | assumption)
          have q986 : x12_2 < (l0.length : Int) := of_decide_eq_true (by first | (with_reducible assumption) | assumption)
          obtain ⟨ad986, e986, hx986_0, hx986_1, hx986_2⟩ := at_T70 HR0.out x12_2 p986 q986
          cases e986
          replace hx986_0 := (HB.out.cell (World.block_lt_of_cell? w _ hx986_0)).trans hx986_0
          replace hx986_1 := (HB.out.cell (World.block_lt_of_cell? w _ hx986_1)).trans hx986_1
          replace hx986_2 := (HB.out.cell (World.block_lt_of_cell? w _ hx986_2)).trans hx986_2
          replace p986 := eq_true p986
          replace q986 := eq_true q986
          go_wp2
          go_loopg [12, 13, 14] k2 (fun kq v12 v13 v14 w' => ∃ (x12_3 : Int) (x13_3 : Int) (x14_3 : Int), v12 = .int .i64 x12_3 ∧ v13 = .int .i64 x13_3 ∧ v14 = .int .i64 x14_3 ∧ Aside0 (galleyref14_Place.l1 kq l0 a1 a2 x10_2 x11_2 x12_3 x13_3 x14_3 = some (r1, r2)) ∧ Aside0 (kq ≤ k2) ∧ Aside0 (Below w.heap.size w w'))
          case atStart => exact ⟨(x12_2), (0), (0), (by first | rfl | (simp; done) | (simp [*]; done) | (simp; exact isEmpty_bne _)), (by first | rfl | (simp; done) | (simp [*]; done) | (simp; exact isEmpty_bne _)), (by first | rfl | (simp; done) | (simp [*]; done) | (simp; exact isEmpty_bne _)), H', ⟨Nat.le_refl _⟩, ⟨by repeat (first | (with_reducible first | exact HB.out | apply below_alloc | apply pw_below_drewN | apply below_drew1) | exact HB.out)⟩⟩
          case round =>
           clear H'
           (try clear c1); (try clear p2); (try clear c5); (try clear p6); (try clear c8); (try clear c9); (try clear c9b0); (try clear p9); (try clear q9); (try clear hx9); (try clear c10); (try clear c10b0); (try clear c11); (try clear c11b0); (try clear c11b1); (try clear c12); (try clear c13); (try clear c13b0); (try clear c14); (try clear c14b0); (try clear c15); (try clear c15b0); (try clear c15b1); (try clear c16); (try clear c16b0); (try clear c17); (try clear c17b0); (try clear hx986_0); (try clear hx986_1); (try clear hx986_2); (try clear hx987_0); (try clear hx987_1); (try clear hx987_2); (try clear hx988_0); (try clear hx988_1); (try clear hx988_2); (try clear hx989_0); (try clear hx989_1); (try clear hx989_2); (try clear hx990_0); (try clear hx990_1); (try clear hx990_2); (try clear hx991_0); (try clear hx991_1); (try clear hx991_2); (try clear p2); (try clear p986); (try clear p987); (try clear p988); (try clear p989); (try clear p990); (try clear p991); (try clear q986); (try clear q987); (try clear q988); (try clear q989); (try clear q990); (try clear q991)
           obtain ⟨x12_3, x13_3, x14_3, rfl, rfl, rfl, HA, HK3, HB⟩ := hrel
           cases gk with
           | zero => exact absurd HA.out (by simp [galleyref14_Place.l1])
           | succ k3 =>
            have H := HA.out
            clear HA
            simp only [galleyref14_Place.l1] at H
            have HC18 := Aside0.mk H
            clear H
            go_upto_region 16 with (fail)
            go_cut [94] (fun v94 wc => ∃ (kq : Nat) (x94_17 : Bool), v94 = .bool x94_17 ∧ Aside0 (galleyref14_Place.j3 kq l0 a1 a2 x10_2 x11_2 x12_3 x13_3 x14_3 x94_17 = some (r1, r2)) ∧ Aside0 (kq ≤ k3) ∧ Aside0 (Below w.heap.size w wc))
            case first =>
             have H := HC18.out
             clear HC18
             by_cases c19 : x12_3 < (l0.length : Int)
             ·
              rw [if_pos c19] at H
              have c19b0 : decide (x12_3 < (l0.length : Int)) = true := decide_eq_true c19
              clear c19
              (first | rw [c19b0] | (simp only [i64_w, i32_w]; rw [c19b0]) | skip)
              by_cases c20 : 0 ≤ x12_3
              ·
               rw [if_pos c20] at H
               have c20b0 : decide (0 ≤ x12_3) = true := decide_eq_true c20
               clear c20
               have H' := Aside0.mk H
               clear H
               have p992 : 0 ≤ (x12_3 : Int) := of_decide_eq_true (by first | (with_reducible assumption) | assumption)
               have q992 : x12_3 < (l0.length : Int) := of_decide_eq_true (by first | (with_reducible assumption) | assumption)
               obtain ⟨ad992, e992, hx992_0, hx992_1, hx992_2⟩ := at_T70 HR0.out x12_3 p992 q992
               obtain rfl : ad986 = ad992 := (by injection e992)
               replace hx992_0 := (HB.out.cell (World.block_lt_of_cell? w _ hx992_0)).trans hx992_0
               replace hx992_1 := (HB.out.cell (World.block_lt_of_cell? w _ hx992_1)).trans hx992_1
               replace hx992_2 := (HB.out.cell (World.block_lt_of_cell? w _ hx992_2)).trans hx992_2
               replace p992 := eq_true p992
               replace q992 := eq_true q992
               go_wp2
               go_meet
               case rel => exact ⟨_, ((((rd_T70 l0 x12_3).f0) != 1)), (by first | rfl | (simp; done) | (simp [*]; done) | (simp; exact isEmpty_bne _)), H', ⟨by have := HJ6.out; have := HK2.out; have := HK3.out; first | omega | exact Nat.le_refl _⟩, ⟨by repeat (first | (with_reducible first | exact HB.out | apply below_alloc | apply pw_below_drewN | apply below_drew1) | exact HB.out)⟩⟩
              ·
               rw [if_neg c20] at H
               exact absurd H (by simp)
             ·
              rw [if_neg c19] at H
              have c19b0 : decide (x12_3 < (l0.length : Int)) = false := decide_eq_false c19
              clear c19
              (first | rw [c19b0] | (simp only [i64_w, i32_w]; rw [c19b0]) | skip)
              have H' := Aside0.mk H
              clear H
              go_wp2
              go_meet
              case rel => exact ⟨_, (false), (by first | rfl | (simp; done) | (simp [*]; done) | (simp; exact isEmpty_bne _)), H', ⟨by have := HJ6.out; have := HK2.out; have := HK3.out; first | omega | exact Nat.le_refl _⟩, ⟨by repeat (first | (with_reducible first | exact HB.out | apply below_alloc | apply pw_below_drewN | apply below_drew1) | exact HB.out)⟩⟩
            case rest =>
             clear HC18
             (try clear c1); (try clear c2); (try clear p2); (try clear c5); (try clear p6); (try clear c8); (try clear c9); (try clear c9b0); (try clear p9); (try clear q9); (try clear hx9); (try clear c10); (try clear c10b0); (try clear c11); (try clear c11b0); (try clear c11b1); (try clear c12); (try clear c13); (try clear c13b0); (try clear c14); (try clear c14b0); (try clear c15); (try clear c15b0); (try clear c15b1); (try clear c16); (try clear c16b0); (try clear c17); (try clear c17b0); (try clear c19); (try clear c19b0); (try clear c20); (try clear c20b0); (try clear hx986_0); (try clear hx986_1); (try clear hx986_2); (try clear hx987_0); (try clear hx987_1); (try clear hx987_2); (try clear hx988_0); (try clear hx988_1); (try clear hx988_2); (try clear hx989_0); (try clear hx989_1); (try clear hx989_2); (try clear hx990_0); (try clear hx990_1); (try clear hx990_2); (try clear hx991_0); (try clear hx991_1); (try clear hx991_2); (try clear hx992_0); (try clear hx992_1); (try clear hx992_2); (try clear p2); (try clear p6); (try clear p9); (try clear p986); (try clear p987); (try clear p988); (try clear p989); (try clear p990); (try clear p991); (try clear p992); (try clear q9); (try clear q986); (try clear q987); (try clear q988); (try clear q989); (try clear q990); (try clear q991); (try clear q992)
             obtain ⟨kq, x94_17, rfl, HA, HJ17, HB⟩ := hcut
             cases kq with
             | zero => exact absurd HA.out (by simp [galleyref14_Place.j3])
             | succ kj17 =>
              have H := HA.out
              clear HA
              simp only [galleyref14_Place.j3] at H
              by_cases c21 : x94_17 = true
              ·
               subst c21
               have H1 : (if 0 ≤ x12_3 then (if x12_3 < (l0.length : Int) then (if ((rd_T70 l0 x12_3).f0) = 3 then (galleyref14_Place.l1 kj17 l0 a1 a2 x10_2 x11_2 (wrap64 (x12_3 + 1)) (wrap64 (x13_3 + (((rd_T70 l0 x12_3).f2).size : Int))) (wrap64 (x14_3 + ((rd_T70 l0 x12_3).f1)))) else (galleyref14_Place.l1 kj17 l0 a1 a2 x10_2 x11_2 (wrap64 (x12_3 + 1)) (wrap64 (x13_3 + (((rd_T70 l0 x12_3).f2).size : Int))) x14_3)) else (none)) else (none)) = some (r1, r2) := by rw [if_pos rfl] at H; exact H
               clear H
               have H := H1
               clear H1
               by_cases c22 : 0 ≤ x12_3
               ·
                rw [if_pos c22] at H
                have c22b0 : decide (0 ≤ x12_3) = true := decide_eq_true c22
                clear c22
                by_cases c23 : x12_3 < (l0.length : Int)
                ·
                 rw [if_pos c23] at H
                 have c23b0 : decide (x12_3 < (l0.length : Int)) = true := decide_eq_true c23
                 clear c23
                 by_cases c24 : ((rd_T70 l0 x12_3).f0) = 3
                 ·
                  rw [if_pos c24] at H
                  have c24b0 : (((rd_T70 l0 x12_3).f0) == 3) = true := beq_iff_eq.mpr c24
                  have c24b1 : (((rd_T70 l0 x12_3).f0) != 3) = false := bne_eq_false_iff_eq.mpr c24
                  clear c24
                  have H' := Aside0.mk H
                  clear H
                  have p993 : 0 ≤ (x12_3 : Int) := of_decide_eq_true (by first | (with_reducible assumption) | assumption)
                  have q993 : x12_3 < (l0.length : Int) := of_decide_eq_true (by first | (with_reducible assumption) | assumption)
                  obtain ⟨ad993, e993, hx993_0, hx993_1, hx993_2⟩ := at_T70 HR0.out x12_3 p993 q993
                  obtain rfl : ad986 = ad993 := (by injection e993)
                  replace hx993_0 := (HB.out.cell (World.block_lt_of_cell? w _ hx993_0)).trans hx993_0
                  replace hx993_1 := (HB.out.cell (World.block_lt_of_cell? w _ hx993_1)).trans hx993_1
                  replace hx993_2 := (HB.out.cell (World.block_lt_of_cell? w _ hx993_2)).trans hx993_2
                  replace p993 := eq_true p993
                  replace q993 := eq_true q993
                  have p994 : 0 ≤ (x12_3 : Int) := of_decide_eq_true (by first | (with_reducible assumption) | assumption)
                  have q994 : x12_3 < (l0.length : Int) := of_decide_eq_true (by first | (with_reducible assumption) | assumption)
                  obtain ⟨ad994, e994, hx994_0, hx994_1, hx994_2⟩ := at_T70 HR0.out x12_3 p994 q994
                  obtain rfl : ad986 = ad994 := (by injection e994)
                  replace hx994_0 := (HB.out.cell (World.block_lt_of_cell? w _ hx994_0)).trans hx994_0
                  replace hx994_1 := (HB.out.cell (World.block_lt_of_cell? w _ hx994_1)).trans hx994_1
                  replace hx994_2 := (HB.out.cell (World.block_lt_of_cell? w _ hx994_2)).trans hx994_2
                  replace p994 := eq_true p994
                  replace q994 := eq_true q994
                  have p995 : 0 ≤ (x12_3 : Int) := of_decide_eq_true (by first | (with_reducible assumption) | assumption)
                  have q995 : x12_3 < (l0.length : Int) := of_decide_eq_true (by first | (with_reducible assumption) | assumption)
                  obtain ⟨ad995, e995, hx995_0, hx995_1, hx995_2⟩ := at_T70 HR0.out x12_3 p995 q995
                  obtain rfl : ad986 = ad995 := (by injection e995)
                  replace hx995_0 := (HB.out.cell (World.block_lt_of_cell? w _ hx995_0)).trans hx995_0
                  replace hx995_1 := (HB.out.cell (World.block_lt_of_cell? w _ hx995_1)).trans hx995_1
                  replace hx995_2 := (HB.out.cell (World.block_lt_of_cell? w _ hx995_2)).trans hx995_2
                  replace p995 := eq_true p995
                  replace q995 := eq_true q995
                  go_wp2
                  go_roundg kj17
                  case measure => have := HJ6.out; have := HK2.out; have := HK3.out; have := HJ17.out; omega
                  case rel => exact ⟨(wrap64 (x12_3 + 1)), (wrap64 (x13_3 + (((rd_T70 l0 x12_3).f2).size : Int))), (wrap64 (x14_3 + ((rd_T70 l0 x12_3).f1))), (by first | rfl | (simp; done) | (simp [*]; done) | (simp; exact isEmpty_bne _)), (by first | rfl | (simp; done) | (simp [*]; done) | (simp; exact isEmpty_bne _)), (by first | rfl | (simp; done) | (simp [*]; done) | (simp; exact isEmpty_bne _)), H', ⟨by have := HJ6.out; have := HK2.out; have := HK3.out; have := HJ17.out; omega⟩, ⟨by repeat (first | (with_reducible first | exact HB.out | apply below_alloc | apply pw_below_drewN | apply below_drew1) | exact HB.out)⟩⟩
                 ·
                  rw [if_neg c24] at H
                  have c24b0 : (((rd_T70 l0 x12_3).f0) == 3) = false := beq_eq_false_iff_ne.mpr c24
                  have c24b1 : (((rd_T70 l0 x12_3).f0) != 3) = true := bne_iff_ne.mpr c24
                  have H' := Aside0.mk H
                  clear H
                  have p993 : 0 ≤ (x12_3 : Int) := of_decide_eq_true (by first | (with_reducible assumption) | assumption)
                  have q993 : x12_3 < (l0.length : Int) := of_decide_eq_true (by first | (with_reducible assumption) | assumption)
                  obtain ⟨ad993, e993, hx993_0, hx993_1, hx993_2⟩ := at_T70 HR0.out x12_3 p993 q993
                  obtain rfl : ad986 = ad993 := (by injection e993)
                  replace hx993_0 := (HB.out.cell (World.block_lt_of_cell? w _ hx993_0)).trans hx993_0
                  replace hx993_1 := (HB.out.cell (World.block_lt_of_cell? w _ hx993_1)).trans hx993_1
                  replace hx993_2 := (HB.out.cell (World.block_lt_of_cell? w _ hx993_2)).trans hx993_2
                  replace p993 := eq_true p993
                  replace q993 := eq_true q993
                  have p994 : 0 ≤ (x12_3 : Int) := of_decide_eq_true (by first | (with_reducible assumption) | assumption)
                  have q994 : x12_3 < (l0.length : Int) := of_decide_eq_true (by first | (with_reducible assumption) | assumption)
                  obtain ⟨ad994, e994, hx994_0, hx994_1, hx994_2⟩ := at_T70 HR0.out x12_3 p994 q994
                  obtain rfl : ad986 = ad994 := (by injection e994)
                  replace hx994_0 := (HB.out.cell (World.block_lt_of_cell? w _ hx994_0)).trans hx994_0
                  replace hx994_1 := (HB.out.cell (World.block_lt_of_cell? w _ hx994_1)).trans hx994_1
                  replace hx994_2 := (HB.out.cell (World.block_lt_of_cell? w _ hx994_2)).trans hx994_2
                  replace p994 := eq_true p994
                  replace q994 := eq_true q994
                  go_wp2
                  go_roundg kj17
                  case measure => have := HJ6.out; have := HK2.out; have := HK3.out; have := HJ17.out; omega
                  case rel => exact ⟨(wrap64 (x12_3 + 1)), (wrap64 (x13_3 + (((rd_T70 l0 x12_3).f2).size : Int))), (x14_3), (by first | rfl | (simp; done) | (simp [*]; done) | (simp; exact isEmpty_bne _)), (by first | rfl | (simp; done) | (simp [*]; done) | (simp; exact isEmpty_bne _)), (by first | rfl | (simp; done) | (simp [*]; done) | (simp; exact isEmpty_bne _)), H', ⟨by have := HJ6.out; have := HK2.out; have := HK3.out; have := HJ17.out; omega⟩, ⟨by repeat (first | (with_reducible first | exact HB.out | apply below_alloc | apply pw_below_drewN | apply below_drew1) | exact HB.out)⟩⟩
                ·
                 rw [if_neg c23] at H
                 exact absurd H (by simp)
               ·
                rw [if_neg c22] at H
                exact absurd H (by simp)
              ·
               replace c21 := Bool.eq_false_iff.mpr c21
               subst c21
               have H1 : (if a1 ≥ x10_2 then (galleyref14_Place.j4 kj17 l0 a1 a2 x10_2 x11_2 x12_3 x13_3 x14_3 (decide (a1 ≤ (wrap64 (x10_2 + x14_3))))) else (galleyref14_Place.j4 kj17 l0 a1 a2 x10_2 x11_2 x12_3 x13_3 x14_3 false)) = some (r1, r2) := by rw [if_neg (show ¬ (false = true) by decide)] at H; exact H
               clear H
               have H := H1
               clear H1
               have HC25 := Aside0.mk H
               clear H
               go_upto_region 21 with (fail)
               go_cut [127] (fun v127 wc => ∃ (kq : Nat) (x127_24 : Bool), v127 = .bool x127_24 ∧ Aside0 (galleyref14_Place.j4 kq l0 a1 a2 x10_2 x11_2 x12_3 x13_3 x14_3 x127_24 = some (r1, r2)) ∧ Aside0 (kq ≤ kj17) ∧ Aside0 (Below w.heap.size w wc))
               case first =>
                have H := HC25.out
                clear HC25
                by_cases c26 : a1 ≥ x10_2
                ·
                 rw [if_pos c26] at H
                 have c26b0 : decide (x10_2 ≤ a1) = true := decide_eq_true c26
                 clear c26
                 (first | rw [c26b0] | (simp only [i64_w, i32_w]; rw [c26b0]) | skip)
                 have H' := Aside0.mk H
                 clear H
                 go_wp2
                 go_meet
                 case rel => exact ⟨_, (decide (a1 ≤ (wrap64 (x10_2 + x14_3)))), (by first | rfl | (simp; done) | (simp [*]; done) | (simp; exact isEmpty_bne _)), H', ⟨by have := HJ6.out; have := HK2.out; have := HK3.out; have := HJ17.out; first | omega | exact Nat.le_refl _⟩, ⟨by repeat (first | (with_reducible first | exact HB.out | apply below_alloc | apply pw_below_drewN | apply below_drew1) | exact HB.out)⟩⟩
                ·
                 rw [if_neg c26] at H
                 have c26b0 : decide (x10_2 ≤ a1) = false := decide_eq_false c26
                 clear c26
                 (first | rw [c26b0] | (simp only [i64_w, i32_w]; rw [c26b0]) | skip)
                 have H' := Aside0.mk H
                 clear H
                 go_wp2
                 go_meet
                 case rel => exact ⟨_, (false), (by first | rfl | (simp; done) | (simp [*]; done) | (simp; exact isEmpty_bne _)), H', ⟨by have := HJ6.out; have := HK2.out; have := HK3.out; have := HJ17.out; first | omega | exact Nat.le_refl _⟩, ⟨by repeat (first | (with_reducible first | exact HB.out | apply below_alloc | apply pw_below_drewN | apply below_drew1) | exact HB.out)⟩⟩
               case rest =>
                clear HC25
                (try clear c1); (try clear c2); (try clear p2); (try clear c5); (try clear p6); (try clear c8); (try clear c9); (try clear c9b0); (try clear p9); (try clear q9); (try clear hx9); (try clear c10); (try clear c10b0); (try clear c11); (try clear c11b0); (try clear c11b1); (try clear c12); (try clear c13); (try clear c13b0); (try clear c14); (try clear c14b0); (try clear c15); (try clear c15b0); (try clear c15b1); (try clear c16); (try clear c16b0); (try clear c17); (try clear c17b0); (try clear c19); (try clear c19b0); (try clear c20); (try clear c20b0); (try clear c21); (try clear c22); (try clear c22b0); (try clear c23); (try clear c23b0); (try clear c24); (try clear c24b0); (try clear c24b1); (try clear c26); (try clear c26b0); (try clear hx986_0); (try clear hx986_1); (try clear hx986_2); (try clear hx987_0); (try clear hx987_1); (try clear hx987_2); (try clear hx988_0); (try clear hx988_1); (try clear hx988_2); (try clear hx989_0); (try clear hx989_1); (try clear hx989_2); (try clear hx990_0); (try clear hx990_1); (try clear hx990_2); (try clear hx991_0); (try clear hx991_1); (try clear hx991_2); (try clear hx992_0); (try clear hx992_1); (try clear hx992_2); (try clear hx993_0); (try clear hx993_1); (try clear hx993_2); (try clear hx994_0); (try clear hx994_1); (try clear hx994_2); (try clear hx995_0); (try clear hx995_1); (try clear hx995_2); (try clear p2); (try clear p6); (try clear p9); (try clear p986); (try clear p987); (try clear p988); (try clear p989); (try clear p990); (try clear p991); (try clear p992); (try clear p993); (try clear p994); (try clear p995); (try clear q9); (try clear q986); (try clear q987); (try clear q988); (try clear q989); (try clear q990); (try clear q991); (try clear q992); (try clear q993); (try clear q994); (try clear q995)
                obtain ⟨kq, x127_24, rfl, HA, HJ24, HB⟩ := hcut
                cases kq with
                | zero => exact absurd HA.out (by simp [galleyref14_Place.j4])
                | succ kj24 =>
                 have H := HA.out
                 clear HA
                 simp only [galleyref14_Place.j4] at H
                 by_cases c27 : x127_24 = true
                 ·
                  subst c27
                  have H1 : (if a2 = 1 then (some (x11_2, 0)) else (some (wrap64 (x11_2 + x13_3), 0))) = some (r1, r2) := by rw [if_pos rfl] at H; exact H
                  clear H
                  have H := H1
                  clear H1
                  by_cases c28 : a2 = 1
                  ·
                   rw [if_pos c28] at H
                   have c28b0 : (a2 == 1) = true := beq_iff_eq.mpr c28
                   have c28b1 : (a2 != 1) = false := bne_eq_false_iff_eq.mpr c28
                   clear c28
                   simp only [Option.some.injEq, Prod.mk.injEq] at H
                   obtain ⟨rfl, rfl⟩ := H
                   go_wp2
                   go_ret2
                   exact ⟨by first | rfl | (simp [errW_none, errW_some] <;> rfl) | (simp [*, errW_none, errW_some] <;> rfl), by repeat (first | (with_reducible first | exact HB.out | apply below_alloc | apply pw_below_drewN | apply below_drew1) | exact HB.out)⟩
                  ·
                   rw [if_neg c28] at H
                   have c28b0 : (a2 == 1) = false := beq_eq_false_iff_ne.mpr c28
                   have c28b1 : (a2 != 1) = true := bne_iff_ne.mpr c28
                   simp only [Option.some.injEq, Prod.mk.injEq] at H
                   obtain ⟨rfl, rfl⟩ := H
                   go_wp2
                   go_ret2
                   exact ⟨by first | rfl | (simp [errW_none, errW_some] <;> rfl) | (simp [*, errW_none, errW_some] <;> rfl), by repeat (first | (with_reducible first | exact HB.out | apply below_alloc | apply pw_below_drewN | apply below_drew1) | exact HB.out)⟩
                 ·
                  replace c27 := Bool.eq_false_iff.mpr c27
                  subst c27
                  have H1 : (galleyref14_Place.l0 kj24 l0 a1 a2 (wrap64 (x10_2 + x14_3)) (wrap64 (x11_2 + x13_3)) x12_3) = some (r1, r2) := by rw [if_neg (show ¬ (false = true) by decide)] at H; exact H
                  clear H
                  have H := H1
                  clear H1
                  have H' := Aside0.mk H
                  clear H
                  go_wp2
                  go_roundg kj24
                  case measure => have := HJ6.out; have := HK2.out; have := HK3.out; have := HJ17.out; have := HJ24.out; omega
                  case rel => exact ⟨(wrap64 (x10_2 + x14_3)), (wrap64 (x11_2 + x13_3)), (x12_3), (by first | rfl | (simp; done) | (simp [*]; done) | (simp; exact isEmpty_bne _)), (by first | rfl | (simp; done) | (simp [*]; done) | (simp; exact isEmpty_bne _)), (by first | rfl | (simp; done) | (simp [*]; done) | (simp; exact isEmpty_bne _)), H', ⟨by have := HJ6.out; have := HK2.out; have := HK3.out; have := HJ17.out; have := HJ24.out; omega⟩, ⟨by repeat (first | (with_reducible first | exact HB.out | apply below_alloc | apply pw_below_drewN | apply below_drew1) | exact HB.out)⟩⟩
        ·
         rw [if_neg c14] at H
         exact absurd H (by simp)
       ·
        rw [if_neg c13] at H
        have c13b0 : decide (x12_2 < (l0.length : Int)) = false := decide_eq_false c13
        clear c13
        simp only [Option.some.injEq, Prod.mk.injEq] at H
        obtain ⟨rfl, rfl⟩ := H
        go_wp2
        go_ret2
        exact ⟨by first | rfl | (simp [errW_none, errW_some] <;> rfl) | (simp [*, errW_none, errW_some] <;> rfl), by repeat (first | (with_reducible first | exact HB.out | apply below_alloc | apply pw_below_drewN | apply below_drew1) | exact HB.out)⟩
 ·
  replace c5 := Bool.eq_false_iff.mpr c5
  subst c5
  have H1 : (some (0, 130)) = some (r1, r2) := by rw [if_neg (show ¬ (false = true) by decide)] at H; exact H
  clear H
  have H := H1
  clear H1
  simp only [Option.some.injEq, Prod.mk.injEq] at H
  obtain ⟨rfl, rfl⟩ := H
  go_enter Try.func53, Try.ntmps53
  go_wp2_with (first | ((with_reducible refine gate_callee (f := 88) rfl ?_); refine goesL_ (some 16) rfl rfl Try.func88 (by kernel_rfl) rfl #[.slice A0 l0.length c0] rfl (by (try simp only [List.map_toArray, List.map_cons, List.map_nil]); first | done | rfl | (simp only [List.length_drop, List.length_take]; rfl)) ?_; (with_reducible refine (galleyref14_Valid.calls k _ _ l0 false _ ?side1 ?side2 A4.out).mono ?_); (case side1 => repeat (first | exact HR0.out | (with_reducible refine Kd.C_alloc ?_ _) | (with_reducible refine Kd.C_drewN ?_ _) | (with_reducible refine Kd.C_drew ?_))); (case side2 => exact HC0.out); rintro e w29 ⟨rfl, hb⟩; refine ⟨_, rfl, ?_⟩; have n0_ := Aside0.mk (below_step (by repeat (first | (with_reducible first | exact HB.out | apply below_alloc | apply pw_below_drewN | apply below_drew1) | exact HB.out)) hb); clear HB; have HB := n0_; clear n0_; (try clear hb); (try clear hb2); (try clear hk); (try clear hi)))
  go_ret2
  exact ⟨by first | rfl | (simp [errW_none, errW_some] <;> rfl) | (simp [*, errW_none, errW_some] <;> rfl), by repeat (first | (with_reducible first | exact HB.out | apply below_alloc | apply pw_below_drewN | apply below_drew1) | exact HB.out)⟩

end Go.Proofs.Ytidihnnkcmeaeaa.A
