-- Written by a program over the translation (the kit's print, turned so that some functions are taken by contracts of this claim's own).
import Derived.Test.YtidihnnkcmeaeaaA0
import Derived.Test.YtidihnnkcmeaeaaB
import Derived.Test.YtidihnnkcmeaeaaA12
namespace Go.Proofs.Ytidihnnkcmeaeaa.A
open Go.RowKit Go.Proofs.YtidihnnkcmeaeaaW.PrintWords Go.Proofs.YtidihnnkcmeaeaaW.PrintLast Go.Proofs.YtidihnnkcmeaeaaW.PrintMore
attribute [local go_sem] max2_int min2_int max_two min_two max_three min_three max_four min_four   -- for this text's walks alone
set_option linter.unusedVariables false
set_option linter.unusedSimpArgs false

/-! ### galleyref13_Canon: function 37 -/
mutual
def galleyref13_Canon.l0 : Nat → List (S70) → Int → Option ((List (S70)) × Int)
 | 0, _, _ => none
 | k + 1, x0, x4 => if x4 < (x0.length : Int) then (if 0 ≤ x4 then (if ((rd_T70 x0 x4).f0) < 1 then (some (([] : List (S70)), 130)) else (if ((rd_T70 x0 x4).f0) > 3 then (some (([] : List (S70)), 130)) else (if ((rd_T70 x0 x4).f0) = 2 then (galleyref13_Canon.l0 k x0 (wrap64 (x4 + 1))) else (if ((rd_T70 x0 x4).f1) < 0 then (some (([] : List (S70)), 130)) else (galleyref13_Canon.l0 k x0 (wrap64 (x4 + 1))))))) else (none)) else (galleyref13_Canon.l1 k x0 0 0 ([] : List (S70)) 0)
def galleyref13_Canon.l1 : Nat → List (S70) → Int → Int → List (S70) → Int → Option ((List (S70)) × Int)
 | 0, _, _, _, _, _ => none
 | k + 1, x0, x6, x7, x8, x9 => if x9 < (x0.length : Int) then (if 0 ≤ x9 then (if ((rd_T70 x0 x9).f0) = 2 then (galleyref13_Canon.j2 k x0 x6 x7 x8 x9 ((rd_T70 x0 x9).f0) 0 ((rd_T70 x0 x9).f2)) else (galleyref13_Canon.j2 k x0 x6 x7 x8 x9 ((rd_T70 x0 x9).f0) ((rd_T70 x0 x9).f1) (⟨#[]⟩ : ByteArray))) else (none)) else (some (x8, 0))
def galleyref13_Canon.j2 : Nat → List (S70) → Int → Int → List (S70) → Int → Int → Int → ByteArray → Option ((List (S70)) × Int)
 | 0, _, _, _, _, _, _, _, _ => none
 | k + 1, x0, x6, x7, x8, x9, x10, x11, x12 => if x11 > 268435456 then (some (([] : List (S70)), 5)) else (if x10 = 1 then (if (wrap64 (x6 + x11)) > 268435456 then (some (([] : List (S70)), 5)) else (if (wrap64 ((wrap64 (x7 + x11)) + (x12.size : Int))) > 268435456 then (some (([] : List (S70)), 5)) else ((galleyref13_add.f k x8 x10 x11 x12).bind fun t337 => (galleyref13_Canon.l1 k x0 (wrap64 (x6 + x11)) (wrap64 ((wrap64 (x7 + x11)) + (x12.size : Int))) t337 (wrap64 (x9 + 1)))))) else (if (wrap64 (x6 + x11)) > 268435456 then (some (([] : List (S70)), 5)) else (if (wrap64 (x7 + (x12.size : Int))) > 268435456 then (some (([] : List (S70)), 5)) else ((galleyref13_add.f k x8 x10 x11 x12).bind fun t340 => (galleyref13_Canon.l1 k x0 (wrap64 (x6 + x11)) (wrap64 (x7 + (x12.size : Int))) t340 (wrap64 (x9 + 1)))))))
end
def galleyref13_Canon.f (k : Nat) (l0 : List (S70)) : Option ((List (S70)) × Int) := galleyref13_Canon.l0 k l0 0
set_option maxHeartbeats 8000000 in
set_option maxRecDepth 100000 in
theorem galleyref13_Canon.calls (k : Nat) (A0 : Option Addr) (c0 : Nat) (l0 : List (S70)) (r1 : List (S70)) (r2 : Int) (w : World) (hr0 : Kd.C k70 w A0 l0.length l0) (hc0 : l0.length ≤ c0) (h : galleyref13_Canon.f k l0 = some (r1, r2)) :
  Calls Try.prog 37 #[.slice A0 l0.length c0] w fun e w' => ∃ v0_ : Value, e = .returned (.tuple #[v0_, .int .i64 r2]) ∧ Kd.R k70 70 w' w.heap.size (fun _ => True) v0_ r1 ∧ Below w.heap.size w w' := by
 have HR0 := Aside0.mk hr0
 have HC0 := Aside0.mk hc0
 clear hr0 hc0
 have HB := Aside0.mk (Below.refl w.heap.size w)
 have H : (galleyref13_Canon.l0 k l0 0) = some (r1, r2) := h
 clear h
 have H' := Aside0.mk H
 clear H
 go_enter Try.func37, Try.ntmps37
 go_wp2
 repeat (go_quiet (fail); try go_wp2)
 go_loopg [4] k (fun kq v4 w' => ∃ (x4_1 : Int), v4 = .int .i64 x4_1 ∧ Aside0 (galleyref13_Canon.l0 kq l0 x4_1 = some (r1, r2)) ∧ Aside0 (kq ≤ k) ∧ Aside0 (Below w.heap.size w w'))
 case atStart => exact ⟨(0), (by first | rfl | (simp; done) | (simp [*]; done) | (simp; exact isEmpty_bne _)), H', ⟨Nat.le_refl _⟩, ⟨by repeat (first | (with_reducible first | exact HB.out | apply below_alloc | apply pw_below_drewN | apply below_drew1) | exact HB.out)⟩⟩
 case round =>
  clear H'
  obtain ⟨x4_1, rfl, HA, HK1, HB⟩ := hrel
  cases gk with
  | zero => exact absurd HA.out (by simp [galleyref13_Canon.l0])
  | succ k1 =>
   have H := HA.out
   clear HA
   simp only [galleyref13_Canon.l0] at H
   by_cases c2 : x4_1 < (l0.length : Int)
   ·
    rw [if_pos c2] at H
    have c2b0 : decide (x4_1 < (l0.length : Int)) = true := decide_eq_true c2
    clear c2
    by_cases c3 : 0 ≤ x4_1
    ·
     rw [if_pos c3] at H
     have c3b0 : decide (0 ≤ x4_1) = true := decide_eq_true c3
     clear c3
     by_cases c4 : ((rd_T70 l0 x4_1).f0) < 1
     ·
      rw [if_pos c4] at H
      have c4b0 : decide (((rd_T70 l0 x4_1).f0) < 1) = true := decide_eq_true c4
      clear c4
      simp only [Option.some.injEq, Prod.mk.injEq] at H
      obtain ⟨rfl, rfl⟩ := H
      have p332 : 0 ≤ (x4_1 : Int) := of_decide_eq_true (by first | (with_reducible assumption) | assumption)
      have q332 : x4_1 < (l0.length : Int) := of_decide_eq_true (by first | (with_reducible assumption) | assumption)
      obtain ⟨ad332, e332, hx332_0, hx332_1, hx332_2⟩ := at_T70 HR0.out x4_1 p332 q332
      cases e332
      replace hx332_0 := (HB.out.cell (World.block_lt_of_cell? w _ hx332_0)).trans hx332_0
      replace hx332_1 := (HB.out.cell (World.block_lt_of_cell? w _ hx332_1)).trans hx332_1
      replace hx332_2 := (HB.out.cell (World.block_lt_of_cell? w _ hx332_2)).trans hx332_2
      replace p332 := eq_true p332
      replace q332 := eq_true q332
      go_wp2
      repeat (go_quiet (fail); try go_wp2)
      go_ret2
      exact ⟨_, by first | rfl | (simp [errW_none, errW_some] <;> rfl) | (simp [*, errW_none, errW_some] <;> rfl), by first | exact Kd.R_nil _ _ _ _ _ | exact Kd.N_nil _ _ _ _ _ | exact Kd.V_nil _ _ _ _ _ | exact Kd.Q_nil _ _ _ _ _ | exact Kd.S_nil _ _ _ _ _, by repeat (first | (with_reducible first | exact HB.out | apply below_alloc | apply pw_below_drewN | apply below_drew1) | exact HB.out)⟩
     ·
      rw [if_neg c4] at H
      have c4b0 : decide (((rd_T70 l0 x4_1).f0) < 1) = false := decide_eq_false c4
      clear c4
      by_cases c5 : ((rd_T70 l0 x4_1).f0) > 3
      ·
       rw [if_pos c5] at H
       have c5b0 : decide (3 < ((rd_T70 l0 x4_1).f0)) = true := decide_eq_true c5
       clear c5
       simp only [Option.some.injEq, Prod.mk.injEq] at H
       obtain ⟨rfl, rfl⟩ := H
       have p332 : 0 ≤ (x4_1 : Int) := of_decide_eq_true (by first | (with_reducible assumption) | assumption)
       have q332 : x4_1 < (l0.length : Int) := of_decide_eq_true (by first | (with_reducible assumption) | assumption)
       obtain ⟨ad332, e332, hx332_0, hx332_1, hx332_2⟩ := at_T70 HR0.out x4_1 p332 q332
       cases e332
       replace hx332_0 := (HB.out.cell (World.block_lt_of_cell? w _ hx332_0)).trans hx332_0
       replace hx332_1 := (HB.out.cell (World.block_lt_of_cell? w _ hx332_1)).trans hx332_1
       replace hx332_2 := (HB.out.cell (World.block_lt_of_cell? w _ hx332_2)).trans hx332_2
       replace p332 := eq_true p332
       replace q332 := eq_true q332
       go_wp2
       repeat (go_quiet (fail); try go_wp2)
       go_ret2
       exact ⟨_, by first | rfl | (simp [errW_none, errW_some] <;> rfl) | (simp [*, errW_none, errW_some] <;> rfl), by first | exact Kd.R_nil _ _ _ _ _ | exact Kd.N_nil _ _ _ _ _ | exact Kd.V_nil _ _ _ _ _ | exact Kd.Q_nil _ _ _ _ _ | exact Kd.S_nil _ _ _ _ _, by repeat (first | (with_reducible first | exact HB.out | apply below_alloc | apply pw_below_drewN | apply below_drew1) | exact HB.out)⟩
      ·
       rw [if_neg c5] at H
       have c5b0 : decide (3 < ((rd_T70 l0 x4_1).f0)) = false := decide_eq_false c5
       clear c5
       by_cases c6 : ((rd_T70 l0 x4_1).f0) = 2
       ·
        rw [if_pos c6] at H
        have c6b0 : (((rd_T70 l0 x4_1).f0) == 2) = true := beq_iff_eq.mpr c6
        have c6b1 : (((rd_T70 l0 x4_1).f0) != 2) = false := bne_eq_false_iff_eq.mpr c6
        clear c6
        have H' := Aside0.mk H
        clear H
        have p332 : 0 ≤ (x4_1 : Int) := of_decide_eq_true (by first | (with_reducible assumption) | assumption)
        have q332 : x4_1 < (l0.length : Int) := of_decide_eq_true (by first | (with_reducible assumption) | assumption)
        obtain ⟨ad332, e332, hx332_0, hx332_1, hx332_2⟩ := at_T70 HR0.out x4_1 p332 q332
        cases e332
        replace hx332_0 := (HB.out.cell (World.block_lt_of_cell? w _ hx332_0)).trans hx332_0
        replace hx332_1 := (HB.out.cell (World.block_lt_of_cell? w _ hx332_1)).trans hx332_1
        replace hx332_2 := (HB.out.cell (World.block_lt_of_cell? w _ hx332_2)).trans hx332_2
        replace p332 := eq_true p332
        replace q332 := eq_true q332
        go_wp2
        repeat (go_quiet (fail); try go_wp2)
        go_roundg k1
        case measure => have := HK1.out; omega
        case rel => exact ⟨(wrap64 (x4_1 + 1)), (by first | rfl | (simp; done) | (simp [*]; done) | (simp; exact isEmpty_bne _)), H', ⟨by have := HK1.out; omega⟩, ⟨by repeat (first | (with_reducible first | exact HB.out | apply below_alloc | apply pw_below_drewN | apply below_drew1) | exact HB.out)⟩⟩
       ·
        rw [if_neg c6] at H
        have c6b0 : (((rd_T70 l0 x4_1).f0) == 2) = false := beq_eq_false_iff_ne.mpr c6
        have c6b1 : (((rd_T70 l0 x4_1).f0) != 2) = true := bne_iff_ne.mpr c6
        by_cases c7 : ((rd_T70 l0 x4_1).f1) < 0
        ·
         rw [if_pos c7] at H
         have c7b0 : decide (((rd_T70 l0 x4_1).f1) < 0) = true := decide_eq_true c7
         clear c7
         simp only [Option.some.injEq, Prod.mk.injEq] at H
         obtain ⟨rfl, rfl⟩ := H
         have p332 : 0 ≤ (x4_1 : Int) := of_decide_eq_true (by first | (with_reducible assumption) | assumption)
         have q332 : x4_1 < (l0.length : Int) := of_decide_eq_true (by first | (with_reducible assumption) | assumption)
         obtain ⟨ad332, e332, hx332_0, hx332_1, hx332_2⟩ := at_T70 HR0.out x4_1 p332 q332
         cases e332
         replace hx332_0 := (HB.out.cell (World.block_lt_of_cell? w _ hx332_0)).trans hx332_0
         replace hx332_1 := (HB.out.cell (World.block_lt_of_cell? w _ hx332_1)).trans hx332_1
         replace hx332_2 := (HB.out.cell (World.block_lt_of_cell? w _ hx332_2)).trans hx332_2
         replace p332 := eq_true p332
         replace q332 := eq_true q332
         have p333 : 0 ≤ (x4_1 : Int) := of_decide_eq_true (by first | (with_reducible assumption) | assumption)
         have q333 : x4_1 < (l0.length : Int) := of_decide_eq_true (by first | (with_reducible assumption) | assumption)
         obtain ⟨ad333, e333, hx333_0, hx333_1, hx333_2⟩ := at_T70 HR0.out x4_1 p333 q333
         obtain rfl : ad332 = ad333 := (by injection e333)
         replace hx333_0 := (HB.out.cell (World.block_lt_of_cell? w _ hx333_0)).trans hx333_0
         replace hx333_1 := (HB.out.cell (World.block_lt_of_cell? w _ hx333_1)).trans hx333_1
         replace hx333_2 := (HB.out.cell (World.block_lt_of_cell? w _ hx333_2)).trans hx333_2
         replace p333 := eq_true p333
         replace q333 := eq_true q333
         go_wp2
         repeat (go_quiet (fail); try go_wp2)
         go_ret2
         exact ⟨_, by first | rfl | (simp [errW_none, errW_some] <;> rfl) | (simp [*, errW_none, errW_some] <;> rfl), by first | exact Kd.R_nil _ _ _ _ _ | exact Kd.N_nil _ _ _ _ _ | exact Kd.V_nil _ _ _ _ _ | exact Kd.Q_nil _ _ _ _ _ | exact Kd.S_nil _ _ _ _ _, by repeat (first | (with_reducible first | exact HB.out | apply below_alloc | apply pw_below_drewN | apply below_drew1) | exact HB.out)⟩
        ·
         rw [if_neg c7] at H
         have c7b0 : decide (((rd_T70 l0 x4_1).f1) < 0) = false := decide_eq_false c7
         clear c7
         have H' := Aside0.mk H
         clear H
         have p332 : 0 ≤ (x4_1 : Int) := of_decide_eq_true (by first | (with_reducible assumption) | assumption)
         have q332 : x4_1 < (l0.length : Int) := of_decide_eq_true (by first | (with_reducible assumption) | assumption)
         obtain ⟨ad332, e332, hx332_0, hx332_1, hx332_2⟩ := at_T70 HR0.out x4_1 p332 q332
         cases e332
         replace hx332_0 := (HB.out.cell (World.block_lt_of_cell? w _ hx332_0)).trans hx332_0
         replace hx332_1 := (HB.out.cell (World.block_lt_of_cell? w _ hx332_1)).trans hx332_1
         replace hx332_2 := (HB.out.cell (World.block_lt_of_cell? w _ hx332_2)).trans hx332_2
         replace p332 := eq_true p332
         replace q332 := eq_true q332
         have p333 : 0 ≤ (x4_1 : Int) := of_decide_eq_true (by first | (with_reducible assumption) | assumption)
         have q333 : x4_1 < (l0.length : Int) := of_decide_eq_true (by first | (with_reducible assumption) | assumption)
         obtain ⟨ad333, e333, hx333_0, hx333_1, hx333_2⟩ := at_T70 HR0.out x4_1 p333 q333
         obtain rfl : ad332 = ad333 := (by injection e333)
         replace hx333_0 := (HB.out.cell (World.block_lt_of_cell? w _ hx333_0)).trans hx333_0
         replace hx333_1 := (HB.out.cell (World.block_lt_of_cell? w _ hx333_1)).trans hx333_1
         replace hx333_2 := (HB.out.cell (World.block_lt_of_cell? w _ hx333_2)).trans hx333_2
         replace p333 := eq_true p333
         replace q333 := eq_true q333
         go_wp2
         repeat (go_quiet (fail); try go_wp2)
         go_roundg k1
         case measure => have := HK1.out; omega
         case rel => exact ⟨(wrap64 (x4_1 + 1)), (by first | rfl | (simp; done) | (simp [*]; done) | (simp; exact isEmpty_bne _)), H', ⟨by have := HK1.out; omega⟩, ⟨by repeat (first | (with_reducible first | exact HB.out | apply below_alloc | apply pw_below_drewN | apply below_drew1) | exact HB.out)⟩⟩
    ·
     rw [if_neg c3] at H
     exact absurd H (by simp)
   ·
    rw [if_neg c2] at H
    have c2b0 : decide (x4_1 < (l0.length : Int)) = false := decide_eq_false c2
    clear c2
    have H' := Aside0.mk H
    clear H
    go_wp2
    repeat (go_quiet (fail); try go_wp2)
    go_loopg [6, 7, 8, 9] k1 (fun kq v6 v7 v8 v9 w' => ∃ (x6_2 : Int) (x7_2 : Int) (x8_2 : List (S70)) (x9_2 : Int), v6 = .int .i64 x6_2 ∧ v7 = .int .i64 x7_2 ∧ v9 = .int .i64 x9_2 ∧ Aside0 (galleyref13_Canon.l1 kq l0 x6_2 x7_2 x8_2 x9_2 = some (r1, r2)) ∧ Aside0 (kq ≤ k1) ∧ Aside0 (Kd.R k70 70 w' w.heap.size (fun _ => True) v8 x8_2) ∧ Aside0 (Below w.heap.size w w'))
    case atStart => exact ⟨(0), (0), (([] : List (S70))), (0), (by first | rfl | (simp; done) | (simp [*]; done) | (simp; exact isEmpty_bne _)), (by first | rfl | (simp; done) | (simp [*]; done) | (simp; exact isEmpty_bne _)), (by first | rfl | (simp; done) | (simp [*]; done) | (simp; exact isEmpty_bne _)), H', ⟨Nat.le_refl _⟩, ⟨by first | exact Kd.R_nil _ _ _ _ _ | exact Kd.N_nil _ _ _ _ _ | exact Kd.V_nil _ _ _ _ _ | exact Kd.Q_nil _ _ _ _ _ | exact Kd.S_nil _ _ _ _ _⟩, ⟨by repeat (first | (with_reducible first | exact HB.out | apply below_alloc | apply pw_below_drewN | apply below_drew1) | exact HB.out)⟩⟩
    case round =>
     clear H'
     (try clear c2); (try clear c2b0); (try clear p2); (try clear c3); (try clear c3b0); (try clear p3); (try clear q3); (try clear hx3); (try clear c4); (try clear c4b0); (try clear c5); (try clear c5b0); (try clear c6); (try clear c6b0); (try clear c6b1); (try clear p6); (try clear c7); (try clear c7b0); (try clear hx332_0); (try clear hx332_1); (try clear hx332_2); (try clear hx333_0); (try clear hx333_1); (try clear hx333_2); (try clear p332); (try clear p333); (try clear q332); (try clear q333)
     obtain ⟨x6_2, x7_2, x8_2, x9_2, rfl, rfl, rfl, HA, HK2, HO_8, HB⟩ := hrel
     cases gk with
     | zero => exact absurd HA.out (by simp [galleyref13_Canon.l1])
     | succ k2 =>
      have H := HA.out
      clear HA
      simp only [galleyref13_Canon.l1] at H
      by_cases c8 : x9_2 < (l0.length : Int)
      ·
       rw [if_pos c8] at H
       have c8b0 : decide (x9_2 < (l0.length : Int)) = true := decide_eq_true c8
       clear c8
       by_cases c9 : 0 ≤ x9_2
       ·
        rw [if_pos c9] at H
        have c9b0 : decide (0 ≤ x9_2) = true := decide_eq_true c9
        clear c9
        have HC10 := Aside0.mk H
        clear H
        have p334 : 0 ≤ (x9_2 : Int) := of_decide_eq_true (by first | (with_reducible assumption) | assumption)
        have q334 : x9_2 < (l0.length : Int) := of_decide_eq_true (by first | (with_reducible assumption) | assumption)
        obtain ⟨ad334, e334, hx334_0, hx334_1, hx334_2⟩ := at_T70 HR0.out x9_2 p334 q334
        cases e334
        replace hx334_0 := (HB.out.cell (World.block_lt_of_cell? w _ hx334_0)).trans hx334_0
        replace hx334_1 := (HB.out.cell (World.block_lt_of_cell? w _ hx334_1)).trans hx334_1
        replace hx334_2 := (HB.out.cell (World.block_lt_of_cell? w _ hx334_2)).trans hx334_2
        replace p334 := eq_true p334
        replace q334 := eq_true q334
        have p335 : 0 ≤ (x9_2 : Int) := of_decide_eq_true (by first | (with_reducible assumption) | assumption)
        have q335 : x9_2 < (l0.length : Int) := of_decide_eq_true (by first | (with_reducible assumption) | assumption)
        obtain ⟨ad335, e335, hx335_0, hx335_1, hx335_2⟩ := at_T70 HR0.out x9_2 p335 q335
        obtain rfl : ad334 = ad335 := (by injection e335)
        replace hx335_0 := (HB.out.cell (World.block_lt_of_cell? w _ hx335_0)).trans hx335_0
        replace hx335_1 := (HB.out.cell (World.block_lt_of_cell? w _ hx335_1)).trans hx335_1
        replace hx335_2 := (HB.out.cell (World.block_lt_of_cell? w _ hx335_2)).trans hx335_2
        replace p335 := eq_true p335
        replace q335 := eq_true q335
        go_upto_if 59 with (fail)
        repeat (go_quiet (fail); go_upto_if 59 with (fail))
        go_cut [11, 12] (fun v11 v12 wc => ∃ (kq : Nat) (x11_9 : Int) (x12_9 : ByteArray), v11 = .int .i64 x11_9 ∧ v12 = .string x12_9 ∧ Aside0 (galleyref13_Canon.j2 kq l0 x6_2 x7_2 x8_2 x9_2 ((rd_T70 l0 x9_2).f0) x11_9 x12_9 = some (r1, r2)) ∧ Aside0 (kq ≤ k2) ∧ Aside0 (Kd.R k70 70 wc w.heap.size (fun _ => True) u8 x8_2) ∧ Aside0 (Below w.heap.size w wc))
        case first =>
         have H := HC10.out
         clear HC10
         by_cases c11 : ((rd_T70 l0 x9_2).f0) = 2
         ·
          rw [if_pos c11] at H
          have c11b0 : (((rd_T70 l0 x9_2).f0) == 2) = true := beq_iff_eq.mpr c11
          have c11b1 : (((rd_T70 l0 x9_2).f0) != 2) = false := bne_eq_false_iff_eq.mpr c11
          clear c11
          (first | rw [c11b0] | (simp only [i64_w, i32_w]; rw [c11b0]) | skip)
          have H' := Aside0.mk H
          clear H
          have p336 : 0 ≤ (x9_2 : Int) := of_decide_eq_true (by first | (with_reducible assumption) | assumption)
          have q336 : x9_2 < (l0.length : Int) := of_decide_eq_true (by first | (with_reducible assumption) | assumption)
          obtain ⟨ad336, e336, hx336_0, hx336_1, hx336_2⟩ := at_T70 HR0.out x9_2 p336 q336
          obtain rfl : ad334 = ad336 := (by injection e336)
          replace hx336_0 := (HB.out.cell (World.block_lt_of_cell? w _ hx336_0)).trans hx336_0
          replace hx336_1 := (HB.out.cell (World.block_lt_of_cell? w _ hx336_1)).trans hx336_1
          replace hx336_2 := (HB.out.cell (World.block_lt_of_cell? w _ hx336_2)).trans hx336_2
          replace p336 := eq_true p336
          replace q336 := eq_true q336
          go_wp2
          repeat (go_quiet (fail); try go_wp2)
          go_meet
          case rel => exact ⟨_, (0), ((rd_T70 l0 x9_2).f2), (by first | rfl | (simp; done) | (simp [*]; done) | (simp; exact isEmpty_bne _)), (by first | rfl | (simp; done) | (simp [*]; done) | (simp; exact isEmpty_bne _)), H', ⟨by have := HK1.out; have := HK2.out; first | omega | exact Nat.le_refl _⟩, ⟨by (with_reducible repeat (first | apply Kd.R_alloc | apply Kd.R_drewN | apply Kd.R_drew)); exact HO_8.out⟩, ⟨by repeat (first | (with_reducible first | exact HB.out | apply below_alloc | apply pw_below_drewN | apply below_drew1) | exact HB.out)⟩⟩
         ·
          rw [if_neg c11] at H
          have c11b0 : (((rd_T70 l0 x9_2).f0) == 2) = false := beq_eq_false_iff_ne.mpr c11
          have c11b1 : (((rd_T70 l0 x9_2).f0) != 2) = true := bne_iff_ne.mpr c11
          (first | rw [c11b0] | (simp only [i64_w, i32_w]; rw [c11b0]) | skip)
          have H' := Aside0.mk H
          clear H
          go_wp2
          repeat (go_quiet (fail); try go_wp2)
          go_meet
          case rel => exact ⟨_, ((rd_T70 l0 x9_2).f1), ((⟨#[]⟩ : ByteArray)), (by first | rfl | (simp; done) | (simp [*]; done) | (simp; exact isEmpty_bne _)), (by first | rfl | (simp; done) | (simp [*]; done) | (simp; exact isEmpty_bne _)), H', ⟨by have := HK1.out; have := HK2.out; first | omega | exact Nat.le_refl _⟩, ⟨by (with_reducible repeat (first | apply Kd.R_alloc | apply Kd.R_drewN | apply Kd.R_drew)); exact HO_8.out⟩, ⟨by repeat (first | (with_reducible first | exact HB.out | apply below_alloc | apply pw_below_drewN | apply below_drew1) | exact HB.out)⟩⟩
        case rest =>
         clear HC10
         (try clear c1); (try clear c2); (try clear c2b0); (try clear p2); (try clear c3); (try clear c3b0); (try clear p3); (try clear q3); (try clear hx3); (try clear c4); (try clear c4b0); (try clear c5); (try clear c5b0); (try clear c6); (try clear c6b0); (try clear c6b1); (try clear p6); (try clear c7); (try clear c7b0); (try clear c8); (try clear c8b0); (try clear c9); (try clear c9b0); (try clear c11); (try clear c11b0); (try clear c11b1); (try clear hx332_0); (try clear hx332_1); (try clear hx332_2); (try clear hx333_0); (try clear hx333_1); (try clear hx333_2); (try clear hx334_0); (try clear hx334_1); (try clear hx334_2); (try clear hx335_0); (try clear hx335_1); (try clear hx335_2); (try clear hx336_0); (try clear hx336_1); (try clear hx336_2); (try clear p2); (try clear p3); (try clear p332); (try clear p333); (try clear p334); (try clear p335); (try clear p336); (try clear p6); (try clear q3); (try clear q332); (try clear q333); (try clear q334); (try clear q335); (try clear q336)
         obtain ⟨kq, x11_9, x12_9, rfl, rfl, HA, HJ9, HO_8, HB⟩ := hcut
         cases kq with
         | zero => exact absurd HA.out (by simp [galleyref13_Canon.j2])
         | succ kj9 =>
          have H := HA.out
          clear HA
          simp only [galleyref13_Canon.j2] at H
          by_cases c12 : x11_9 > 268435456
          ·
           rw [if_pos c12] at H
           have c12b0 : decide (268435456 < x11_9) = true := decide_eq_true c12
           clear c12
           simp only [Option.some.injEq, Prod.mk.injEq] at H
           obtain ⟨rfl, rfl⟩ := H
           go_wp2
           repeat (go_quiet (fail); try go_wp2)
           go_ret2
           exact ⟨_, by first | rfl | (simp [errW_none, errW_some] <;> rfl) | (simp [*, errW_none, errW_some] <;> rfl), by first | exact Kd.R_nil _ _ _ _ _ | exact Kd.N_nil _ _ _ _ _ | exact Kd.V_nil _ _ _ _ _ | exact Kd.Q_nil _ _ _ _ _ | exact Kd.S_nil _ _ _ _ _, by repeat (first | (with_reducible first | exact HB.out | apply below_alloc | apply pw_below_drewN | apply below_drew1) | exact HB.out)⟩
          ·
           rw [if_neg c12] at H
           have c12b0 : decide (268435456 < x11_9) = false := decide_eq_false c12
           clear c12
           by_cases c13 : ((rd_T70 l0 x9_2).f0) = 1
           ·
            rw [if_pos c13] at H
            have c13b0 : (((rd_T70 l0 x9_2).f0) == 1) = true := beq_iff_eq.mpr c13
            have c13b1 : (((rd_T70 l0 x9_2).f0) != 1) = false := bne_eq_false_iff_eq.mpr c13
            clear c13
            by_cases c14 : (wrap64 (x6_2 + x11_9)) > 268435456
            ·
             rw [if_pos c14] at H
             have c14b0 : decide (268435456 < (wrap64 (x6_2 + x11_9))) = true := decide_eq_true c14
             clear c14
             simp only [Option.some.injEq, Prod.mk.injEq] at H
             obtain ⟨rfl, rfl⟩ := H
             go_wp2
             repeat (go_quiet (fail); try go_wp2)
             go_ret2
             exact ⟨_, by first | rfl | (simp [errW_none, errW_some] <;> rfl) | (simp [*, errW_none, errW_some] <;> rfl), by first | exact Kd.R_nil _ _ _ _ _ | exact Kd.N_nil _ _ _ _ _ | exact Kd.V_nil _ _ _ _ _ | exact Kd.Q_nil _ _ _ _ _ | exact Kd.S_nil _ _ _ _ _, by repeat (first | (with_reducible first | exact HB.out | apply below_alloc | apply pw_below_drewN | apply below_drew1) | exact HB.out)⟩
            ·
             rw [if_neg c14] at H
             have c14b0 : decide (268435456 < (wrap64 (x6_2 + x11_9))) = false := decide_eq_false c14
             clear c14
             by_cases c15 : (wrap64 ((wrap64 (x7_2 + x11_9)) + (x12_9.size : Int))) > 268435456
             ·
              rw [if_pos c15] at H
              have c15b0 : decide (268435456 < (wrap64 ((wrap64 (x7_2 + x11_9)) + (x12_9.size : Int)))) = true := decide_eq_true c15
              clear c15
              simp only [Option.some.injEq, Prod.mk.injEq] at H
              obtain ⟨rfl, rfl⟩ := H
              go_wp2
              repeat (go_quiet (fail); try go_wp2)
              go_ret2
              exact ⟨_, by first | rfl | (simp [errW_none, errW_some] <;> rfl) | (simp [*, errW_none, errW_some] <;> rfl), by first | exact Kd.R_nil _ _ _ _ _ | exact Kd.N_nil _ _ _ _ _ | exact Kd.V_nil _ _ _ _ _ | exact Kd.Q_nil _ _ _ _ _ | exact Kd.S_nil _ _ _ _ _, by repeat (first | (with_reducible first | exact HB.out | apply below_alloc | apply pw_below_drewN | apply below_drew1) | exact HB.out)⟩
             ·
              rw [if_neg c15] at H
              have c15b0 : decide (268435456 < (wrap64 ((wrap64 (x7_2 + x11_9)) + (x12_9.size : Int)))) = false := decide_eq_false c15
              clear c15
              replace H := Option.bind_eq_some_iff.mp H
              obtain ⟨t337, A160, H⟩ := H
              replace H : (galleyref13_Canon.l1 kj9 l0 (wrap64 (x6_2 + x11_9)) (wrap64 ((wrap64 (x7_2 + x11_9)) + (x12_9.size : Int))) t337 (wrap64 (x9_2 + 1))) = some (r1, r2) := H
              have A16 := Aside0.mk A160
              clear A160
              have H' := Aside0.mk H
              clear H
              obtain ⟨Ao17, co17, eo17⟩ := Kd.R_slice HO_8.out
              subst eo17
              go_wp2_with (first | (go_at_call 78; (with_reducible refine (galleyref13_add.calls kj9 (fun k_ => some k_ = (.slice Ao17 x8_2.length co17 : Value).ownBlock) (.slice Ao17 x8_2.length co17) x8_2 ((rd_T70 l0 x9_2).f0) x11_9 x12_9 t337 w _ ?side1 ?side2 A16.out).mono ?_); (case side1 => repeat (first | (with_reducible first | exact HB.out | apply below_alloc | apply pw_below_drewN | apply below_drew1) | exact HB.out)); (case side2 => exact Kd.R_tight rfl HO_8.out); rintro e w18 ⟨v338, rfl, ho0, hb, hkp⟩; have n0_ := Aside0.mk (Kd.R_mono (ok' := fun k_ => True) ho0 (fun k_ hk_ => trivial)); have n1_ := Aside0.mk (hb); clear HB; clear HO_8; have HO339 := n0_; have HB := n1_; clear n0_ n1_; (try clear hb); (try clear hkp); (try clear ho0)))
              repeat (go_quiet (first | (go_at_call 78; (with_reducible refine (galleyref13_add.calls kj9 (fun k_ => some k_ = (.slice Ao17 x8_2.length co17 : Value).ownBlock) (.slice Ao17 x8_2.length co17) x8_2 ((rd_T70 l0 x9_2).f0) x11_9 x12_9 t337 w _ ?side1 ?side2 A16.out).mono ?_); (case side1 => repeat (first | (with_reducible first | exact HB.out | apply below_alloc | apply pw_below_drewN | apply below_drew1) | exact HB.out)); (case side2 => exact Kd.R_tight rfl HO_8.out); rintro e w18 ⟨v338, rfl, ho0, hb, hkp⟩; have n0_ := Aside0.mk (Kd.R_mono (ok' := fun k_ => True) ho0 (fun k_ hk_ => trivial)); have n1_ := Aside0.mk (hb); clear HB; clear HO_8; have HO339 := n0_; have HB := n1_; clear n0_ n1_; (try clear hb); (try clear hkp); (try clear ho0))); try go_wp2_with (first | (go_at_call 78; (with_reducible refine (galleyref13_add.calls kj9 (fun k_ => some k_ = (.slice Ao17 x8_2.length co17 : Value).ownBlock) (.slice Ao17 x8_2.length co17) x8_2 ((rd_T70 l0 x9_2).f0) x11_9 x12_9 t337 w _ ?side1 ?side2 A16.out).mono ?_); (case side1 => repeat (first | (with_reducible first | exact HB.out | apply below_alloc | apply pw_below_drewN | apply below_drew1) | exact HB.out)); (case side2 => exact Kd.R_tight rfl HO_8.out); rintro e w18 ⟨v338, rfl, ho0, hb, hkp⟩; have n0_ := Aside0.mk (Kd.R_mono (ok' := fun k_ => True) ho0 (fun k_ hk_ => trivial)); have n1_ := Aside0.mk (hb); clear HB; clear HO_8; have HO339 := n0_; have HB := n1_; clear n0_ n1_; (try clear hb); (try clear hkp); (try clear ho0))))
              go_roundg kj9
              case measure => have := HK1.out; have := HK2.out; have := HJ9.out; omega
              case rel => exact ⟨(wrap64 (x6_2 + x11_9)), (wrap64 ((wrap64 (x7_2 + x11_9)) + (x12_9.size : Int))), (t337), (wrap64 (x9_2 + 1)), (by first | rfl | (simp; done) | (simp [*]; done) | (simp; exact isEmpty_bne _)), (by first | rfl | (simp; done) | (simp [*]; done) | (simp; exact isEmpty_bne _)), (by first | rfl | (simp; done) | (simp [*]; done) | (simp; exact isEmpty_bne _)), H', ⟨by have := HK1.out; have := HK2.out; have := HJ9.out; omega⟩, ⟨by (with_reducible repeat (first | apply Kd.R_alloc | apply Kd.R_drewN | apply Kd.R_drew)); exact HO339.out⟩, ⟨by repeat (first | (with_reducible first | exact HB.out | apply below_alloc | apply pw_below_drewN | apply below_drew1) | exact HB.out)⟩⟩
           ·
            rw [if_neg c13] at H
            have c13b0 : (((rd_T70 l0 x9_2).f0) == 1) = false := beq_eq_false_iff_ne.mpr c13
            have c13b1 : (((rd_T70 l0 x9_2).f0) != 1) = true := bne_iff_ne.mpr c13
            by_cases c19 : (wrap64 (x6_2 + x11_9)) > 268435456
            ·
             rw [if_pos c19] at H
             have c19b0 : decide (268435456 < (wrap64 (x6_2 + x11_9))) = true := decide_eq_true c19
             clear c19
             simp only [Option.some.injEq, Prod.mk.injEq] at H
             obtain ⟨rfl, rfl⟩ := H
             go_wp2
             repeat (go_quiet (fail); try go_wp2)
             go_ret2
             exact ⟨_, by first | rfl | (simp [errW_none, errW_some] <;> rfl) | (simp [*, errW_none, errW_some] <;> rfl), by first | exact Kd.R_nil _ _ _ _ _ | exact Kd.N_nil _ _ _ _ _ | exact Kd.V_nil _ _ _ _ _ | exact Kd.Q_nil _ _ _ _ _ | exact Kd.S_nil _ _ _ _ _, by repeat (first | (with_reducible first | exact HB.out | apply below_alloc | apply pw_below_drewN | apply below_drew1) | exact HB.out)⟩
            ·
             rw [if_neg c19] at H
             have c19b0 : decide (268435456 < (wrap64 (x6_2 + x11_9))) = false := decide_eq_false c19
             clear c19
             by_cases c20 : (wrap64 (x7_2 + (x12_9.size : Int))) > 268435456
             ·
              rw [if_pos c20] at H
              have c20b0 : decide (268435456 < (wrap64 (x7_2 + (x12_9.size : Int)))) = true := decide_eq_true c20
              clear c20
              simp only [Option.some.injEq, Prod.mk.injEq] at H
              obtain ⟨rfl, rfl⟩ := H
              go_wp2
              repeat (go_quiet (fail); try go_wp2)
              go_ret2
              exact ⟨_, by first | rfl | (simp [errW_none, errW_some] <;> rfl) | (simp [*, errW_none, errW_some] <;> rfl), by first | exact Kd.R_nil _ _ _ _ _ | exact Kd.N_nil _ _ _ _ _ | exact Kd.V_nil _ _ _ _ _ | exact Kd.Q_nil _ _ _ _ _ | exact Kd.S_nil _ _ _ _ _, by repeat (first | (with_reducible first | exact HB.out | apply below_alloc | apply pw_below_drewN | apply below_drew1) | exact HB.out)⟩
             ·
              rw [if_neg c20] at H
              have c20b0 : decide (268435456 < (wrap64 (x7_2 + (x12_9.size : Int)))) = false := decide_eq_false c20
              clear c20
              replace H := Option.bind_eq_some_iff.mp H
              obtain ⟨t340, A210, H⟩ := H
              replace H : (galleyref13_Canon.l1 kj9 l0 (wrap64 (x6_2 + x11_9)) (wrap64 (x7_2 + (x12_9.size : Int))) t340 (wrap64 (x9_2 + 1))) = some (r1, r2) := H
              have A21 := Aside0.mk A210
              clear A210
              have H' := Aside0.mk H
              clear H
              obtain ⟨Ao22, co22, eo22⟩ := Kd.R_slice HO_8.out
              subst eo22
              go_wp2_with (first | (go_at_call 78; (with_reducible refine (galleyref13_add.calls kj9 (fun k_ => some k_ = (.slice Ao22 x8_2.length co22 : Value).ownBlock) (.slice Ao22 x8_2.length co22) x8_2 ((rd_T70 l0 x9_2).f0) x11_9 x12_9 t340 w _ ?side1 ?side2 A21.out).mono ?_); (case side1 => repeat (first | (with_reducible first | exact HB.out | apply below_alloc | apply pw_below_drewN | apply below_drew1) | exact HB.out)); (case side2 => exact Kd.R_tight rfl HO_8.out); rintro e w23 ⟨v341, rfl, ho0, hb, hkp⟩; have n0_ := Aside0.mk (Kd.R_mono (ok' := fun k_ => True) ho0 (fun k_ hk_ => trivial)); have n1_ := Aside0.mk (hb); clear HB; clear HO_8; have HO342 := n0_; have HB := n1_; clear n0_ n1_; (try clear hb); (try clear hkp); (try clear ho0)))
              repeat (go_quiet (first | (go_at_call 78; (with_reducible refine (galleyref13_add.calls kj9 (fun k_ => some k_ = (.slice Ao22 x8_2.length co22 : Value).ownBlock) (.slice Ao22 x8_2.length co22) x8_2 ((rd_T70 l0 x9_2).f0) x11_9 x12_9 t340 w _ ?side1 ?side2 A21.out).mono ?_); (case side1 => repeat (first | (with_reducible first | exact HB.out | apply below_alloc | apply pw_below_drewN | apply below_drew1) | exact HB.out)); (case side2 => exact Kd.R_tight rfl HO_8.out); rintro e w23 ⟨v341, rfl, ho0, hb, hkp⟩; have n0_ := Aside0.mk (Kd.R_mono (ok' := fun k_ => True) ho0 (fun k_ hk_ => trivial)); have n1_ := Aside0.mk (hb); clear HB; clear HO_8; have HO342 := n0_; have HB := n1_; clear n0_ n1_; (try clear hb); (try clear hkp); (try clear ho0))); try go_wp2_with (first | (go_at_call 78; (with_reducible refine (galleyref13_add.calls kj9 (fun k_ => some k_ = (.slice Ao22 x8_2.length co22 : Value).ownBlock) (.slice Ao22 x8_2.length co22) x8_2 ((rd_T70 l0 x9_2).f0) x11_9 x12_9 t340 w _ ?side1 ?side2 A21.out).mono ?_); (case side1 => repeat (first | (with_reducible first | exact HB.out | apply below_alloc | apply pw_below_drewN | apply below_drew1) | exact HB.out)); (case side2 => exact Kd.R_tight rfl HO_8.out); rintro e w23 ⟨v341, rfl, ho0, hb, hkp⟩; have n0_ := Aside0.mk (Kd.R_mono (ok' := fun k_ => True) ho0 (fun k_ hk_ => trivial)); have n1_ := Aside0.mk (hb); clear HB; clear HO_8; have HO342 := n0_; have HB := n1_; clear n0_ n1_; (try clear hb); (try clear hkp); (try clear ho0))))
              go_roundg kj9
              case measure => have := HK1.out; have := HK2.out; have := HJ9.out; omega
              case rel => exact ⟨(wrap64 (x6_2 + x11_9)), (wrap64 (x7_2 + (x12_9.size : Int))), (t340), (wrap64 (x9_2 + 1)), (by first | rfl | (simp; done) | (simp [*]; done) | (simp; exact isEmpty_bne _)), (by first | rfl | (simp; done) | (simp [*]; done) | (simp; exact isEmpty_bne _)), (by first | rfl | (simp; done) | (simp [*]; done) | (simp; exact isEmpty_bne _)), H', ⟨by have := HK1.out; have := HK2.out; have := HJ9.out; omega⟩, ⟨by (with_reducible repeat (first | apply Kd.R_alloc | apply Kd.R_drewN | apply Kd.R_drew)); exact HO342.out⟩, ⟨by repeat (first | (with_reducible first | exact HB.out | apply below_alloc | apply pw_below_drewN | apply below_drew1) | exact HB.out)⟩⟩
       ·
        rw [if_neg c9] at H
        exact absurd H (by simp)
      ·
       rw [if_neg c8] at H
       have c8b0 : decide (x9_2 < (l0.length : Int)) = false := decide_eq_false c8
       clear c8
       simp only [Option.some.injEq, Prod.mk.injEq] at H
       obtain ⟨rfl, rfl⟩ := H
       go_wp2
       repeat (go_quiet (fail); try go_wp2)
       go_ret2
       exact ⟨_, by first | rfl | (simp [errW_none, errW_some] <;> rfl) | (simp [*, errW_none, errW_some] <;> rfl), by (with_reducible repeat (first | apply Kd.R_alloc | apply Kd.R_drewN | apply Kd.R_drew)); exact HO_8.out, by repeat (first | (with_reducible first | exact HB.out | apply below_alloc | apply pw_below_drewN | apply below_drew1) | exact HB.out)⟩

end Go.Proofs.Ytidihnnkcmeaeaa.A
