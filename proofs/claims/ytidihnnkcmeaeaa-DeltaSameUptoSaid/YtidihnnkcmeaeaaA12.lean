-- Written by a program over the translation (the kit's print, turned so that some functions are taken by contracts of this claim's own).
import Derived.Test.YtidihnnkcmeaeaaA0
import Derived.Test.YtidihnnkcmeaeaaB
namespace Go.Proofs.Ytidihnnkcmeaeaa.A
open Go.RowKit Go.Proofs.YtidihnnkcmeaeaaW.PrintWords Go.Proofs.YtidihnnkcmeaeaaW.PrintLast Go.Proofs.YtidihnnkcmeaeaaW.PrintMore
attribute [local go_sem] max2_int min2_int max_two min_two max_three min_three max_four min_four   -- for this text's walks alone
set_option linter.unusedVariables false
set_option linter.unusedSimpArgs false

/-! ### galleyref13_add: function 78 -/
mutual
def galleyref13_add.j0 : Nat → List (S70) → Int → Int → ByteArray → Bool → Option ((List (S70)))
 | 0, _, _, _, _, _ => none
 | k + 1, x0, x1, x2, x3, x26 => if x26 = true then (some x0) else (if x1 = 2 then (if (wrap64 ((x0.length : Int) - 1)) ≥ 0 then (if 0 ≤ (wrap64 ((x0.length : Int) - 1)) then (if (wrap64 ((x0.length : Int) - 1)) < (x0.length : Int) then (galleyref13_add.j1 k x0 x1 x2 x3 (wrap64 ((x0.length : Int) - 1)) (((rd_T70 x0 (wrap64 ((x0.length : Int) - 1))).f0) == 3)) else (none)) else (none)) else (galleyref13_add.j1 k x0 x1 x2 x3 (wrap64 ((x0.length : Int) - 1)) false)) else (galleyref13_add.j1 k x0 x1 x2 x3 (wrap64 ((x0.length : Int) - 1)) false))
def galleyref13_add.j1 : Nat → List (S70) → Int → Int → ByteArray → Int → Bool → Option ((List (S70)))
 | 0, _, _, _, _, _, _ => none
 | k + 1, x0, x1, x2, x3, x9, x44 => if x44 = true then (if 0 ≤ x9 then (if x9 < (x0.length : Int) then ((some (([] : List (S70)) : List (S70))).bind fun y207 => (if x9 ≤ (x0.length : Int) then ((some (x0.take (x9 : Int).toNat : List (S70))).bind fun y210 => (if y207.length + y210.length < 4398046511104 then ((galleyref13_add.f k (y207 ++ y210) 2 0 x3).bind fun t217 => (if t217.length < 4398046511104 then (some (t217 ++ [(⟨3, (rd_T70 x0 x9).f1, (⟨#[]⟩ : ByteArray)⟩ : S70)])) else (none))) else (none))) else (none))) else (none)) else (none)) else ((some (([] : List (S70)) : List (S70))).bind fun y223 => (if y223.length + x0.length < 4398046511104 then ((some (y223 ++ x0 : List (S70))).bind fun y226 => (if x9 ≥ 0 then (if 0 ≤ x9 then (if x9 < (x0.length : Int) then (galleyref13_add.j2 k x1 x2 x3 x9 y226 (((rd_T70 x0 x9).f0) == x1)) else (none)) else (none)) else (galleyref13_add.j2 k x1 x2 x3 x9 y226 false))) else (none)))
def galleyref13_add.j2 : Nat → Int → Int → ByteArray → Int → List (S70) → Bool → Option ((List (S70)))
 | 0, _, _, _, _, _, _ => none
 | k + 1, x1, x2, x3, x9, x12, x75 => if x75 = true then (if 0 ≤ x9 then (if x9 < (x12.length : Int) then ((some (x12.set (x9 : Int).toNat (⟨(rd_T70 x12 x9).f0, wrap64 (((rd_T70 x12 x9).f1) + x2), (rd_T70 x12 x9).f2⟩ : S70) : List (S70))).bind fun y231 => (if ((rd_T70 y231 x9).f2).size + x3.size ≤ 9223372036854775807 then (some (y231.set (x9 : Int).toNat (⟨(rd_T70 y231 x9).f0, (rd_T70 y231 x9).f1, ((rd_T70 y231 x9).f2) ++ x3⟩ : S70))) else (none))) else (none)) else (none)) else (if x1 = 2 then (if x12.length < 4398046511104 then (some (x12 ++ [(⟨2, 0, x3⟩ : S70)])) else (none)) else (if x12.length < 4398046511104 then (some (x12 ++ [(⟨x1, x2, (⟨#[]⟩ : ByteArray)⟩ : S70)])) else (none)))
def galleyref13_add.f : Nat → List (S70) → Int → Int → ByteArray → Option ((List (S70)))
 | 0, _, _, _, _ => none
 | k + 1, l0, a1, a2, a3 => if a1 = 2 then (if a3.toList = ([] : List UInt8) then (galleyref13_add.j0 k l0 a1 a2 a3 true) else (galleyref13_add.j0 k l0 a1 a2 a3 false)) else (galleyref13_add.j0 k l0 a1 a2 a3 (a2 == 0))
end
set_option maxHeartbeats 8000000 in
set_option maxRecDepth 100000 in
theorem galleyref13_add.calls (k : Nat) : ∀ (P0_ : Nat → Prop) (u9000_ : Value) (l0 : List (S70)) (a1 : Int) (a2 : Int) (a3 : ByteArray) (r : List (S70)) (w0 w : World) (hB : Below w0.heap.size w0 w) (ho0 : Kd.R k70 70 w w0.heap.size P0_ u9000_ l0) (h : galleyref13_add.f k l0 a1 a2 a3 = some r),
  Calls Try.prog 78 #[u9000_, .int .i64 a1, .int .i64 a2, .string a3] w fun e w' => ∃ v0_ : Value, e = .returned (v0_) ∧ Kd.R k70 70 w' w0.heap.size (fun k_ => (P0_ k_ ∨ w.heap.size ≤ k_)) v0_ r ∧ Below w0.heap.size w0 w' ∧ Kept w w' (fun k_ => P0_ k_) := by
 induction k using Nat.strongRecOn with
 | _ k ih =>
 intro P0_ u9000_ l0 a1 a2 a3 r w0 w hB ho0 h
 cases k with
 | zero => exact absurd h (by simp [galleyref13_add.f])
 | succ k =>
 simp only [galleyref13_add.f] at h
 have hu70 := Try.underlying70
 have HO0 := Aside0.mk (show Kd.R k70 70 w w0.heap.size (fun k_ => (P0_ k_ ∨ w.heap.size ≤ k_)) u9000_ l0 from Kd.R_mono ho0 (fun k_ hk => (.inl hk)))
 have HK := Aside0.mk (Kept.refl w (fun k_ => P0_ k_))
 have HW0 := Aside0.mk hB.size
 have HB := Aside0.mk hB
 clear hB
 have H : (if a1 = 2 then (if a3.toList = ([] : List UInt8) then (galleyref13_add.j0 k l0 a1 a2 a3 true) else (galleyref13_add.j0 k l0 a1 a2 a3 false)) else (galleyref13_add.j0 k l0 a1 a2 a3 (a2 == 0))) = some r := h
 clear h
 have HC5 := Aside0.mk H
 clear H
 go_enter Try.func78, Try.ntmps78
 go_upto_region 1 with (fail)
 go_cut [26] (fun v26 wc => ∃ (kq : Nat) (x26_4 : Bool), v26 = .bool x26_4 ∧ Aside0 (galleyref13_add.j0 kq l0 a1 a2 a3 x26_4 = some r) ∧ Aside0 (kq ≤ k) ∧ Aside0 (Kd.R k70 70 wc w0.heap.size (fun k_ => (P0_ k_ ∨ w.heap.size ≤ k_)) u9000_ l0) ∧ Aside0 (Kept w wc (fun k_ => P0_ k_)) ∧ Aside0 (Below w0.heap.size w0 wc))
 case first =>
  have H := HC5.out
  clear HC5
  by_cases c6 : a1 = 2
  ·
   rw [if_pos c6] at H
   have c6b0 : (a1 == 2) = true := beq_iff_eq.mpr c6
   have c6b1 : (a1 != 2) = false := bne_eq_false_iff_eq.mpr c6
   clear c6
   (first | rw [c6b0] | (simp only [i64_w, i32_w]; rw [c6b0]) | skip)
   by_cases c7 : a3.toList = ([] : List UInt8)
   ·
    rw [if_pos c7] at H
    have c7b0 : (a3.toList == ([] : List UInt8)) = true := beq_iff_eq.mpr c7
    have c7b1 : (a3.toList != ([] : List UInt8)) = false := bne_eq_false_iff_eq.mpr c7
    clear c7
    have H' := Aside0.mk H
    clear H
    go_wp2
    go_meet
    case rel => exact ⟨_, (true), (by first | rfl | (simp; done) | (simp [*]; done) | (simp; exact isEmpty_bne _)), H', ⟨by first | omega | exact Nat.le_refl _⟩, ⟨by (with_reducible repeat (first | apply Kd.R_alloc | apply Kd.R_drewN | apply Kd.R_drew)); exact HO0.out⟩, ⟨by repeat (first | (with_reducible first | exact HK.out | apply Kept.alloc | apply Kept.drewN | apply Kept.drew) | exact HK.out)⟩, ⟨by repeat (first | (with_reducible first | exact HB.out | apply below_alloc | apply pw_below_drewN | apply below_drew1) | exact HB.out)⟩⟩
   ·
    rw [if_neg c7] at H
    have c7b0 : (a3.toList == ([] : List UInt8)) = false := beq_eq_false_iff_ne.mpr c7
    have c7b1 : (a3.toList != ([] : List UInt8)) = true := bne_iff_ne.mpr c7
    have H' := Aside0.mk H
    clear H
    go_wp2
    go_meet
    case rel => exact ⟨_, (false), (by first | rfl | (simp; done) | (simp [*]; done) | (simp; exact isEmpty_bne _)), H', ⟨by first | omega | exact Nat.le_refl _⟩, ⟨by (with_reducible repeat (first | apply Kd.R_alloc | apply Kd.R_drewN | apply Kd.R_drew)); exact HO0.out⟩, ⟨by repeat (first | (with_reducible first | exact HK.out | apply Kept.alloc | apply Kept.drewN | apply Kept.drew) | exact HK.out)⟩, ⟨by repeat (first | (with_reducible first | exact HB.out | apply below_alloc | apply pw_below_drewN | apply below_drew1) | exact HB.out)⟩⟩
  ·
   rw [if_neg c6] at H
   have c6b0 : (a1 == 2) = false := beq_eq_false_iff_ne.mpr c6
   have c6b1 : (a1 != 2) = true := bne_iff_ne.mpr c6
   (first | rw [c6b0] | (simp only [i64_w, i32_w]; rw [c6b0]) | skip)
   have H' := Aside0.mk H
   clear H
   go_wp2
   go_meet
   case rel => exact ⟨_, ((a2 == 0)), (by first | rfl | (simp; done) | (simp [*]; done) | (simp; exact isEmpty_bne _)), H', ⟨by first | omega | exact Nat.le_refl _⟩, ⟨by (with_reducible repeat (first | apply Kd.R_alloc | apply Kd.R_drewN | apply Kd.R_drew)); exact HO0.out⟩, ⟨by repeat (first | (with_reducible first | exact HK.out | apply Kept.alloc | apply Kept.drewN | apply Kept.drew) | exact HK.out)⟩, ⟨by repeat (first | (with_reducible first | exact HB.out | apply below_alloc | apply pw_below_drewN | apply below_drew1) | exact HB.out)⟩⟩
 case rest =>
  clear HC5
  (try clear p2); (try clear c6); (try clear c6b0); (try clear c6b1); (try clear c7); (try clear c7b0); (try clear c7b1)
  obtain ⟨kq, x26_4, rfl, HA, HJ4, HO_0, HK, HB⟩ := hcut
  cases kq with
  | zero => exact absurd HA.out (by simp [galleyref13_add.j0])
  | succ kj4 =>
   have H := HA.out
   clear HA
   simp only [galleyref13_add.j0] at H
   by_cases c8 : x26_4 = true
   ·
    subst c8
    have H1 : (some l0) = some r := by rw [if_pos rfl] at H; exact H
    clear H
    have H := H1
    clear H1
    obtain rfl := Option.some.inj H
    go_wp2
    go_ret
    exact ⟨_, by first | rfl | (simp [errW_none, errW_some] <;> rfl) | (simp [*, errW_none, errW_some] <;> rfl), by (with_reducible repeat (first | apply Kd.R_alloc | apply Kd.R_drewN | apply Kd.R_drew)); exact HO_0.out, by repeat (first | (with_reducible first | exact HB.out | apply below_alloc | apply pw_below_drewN | apply below_drew1) | exact HB.out), by repeat (first | (with_reducible first | exact HK.out | apply Kept.alloc | apply Kept.drewN | apply Kept.drew) | exact HK.out)⟩
   ·
    replace c8 := Bool.eq_false_iff.mpr c8
    subst c8
    have H1 : (if a1 = 2 then (if (wrap64 ((l0.length : Int) - 1)) ≥ 0 then (if 0 ≤ (wrap64 ((l0.length : Int) - 1)) then (if (wrap64 ((l0.length : Int) - 1)) < (l0.length : Int) then (galleyref13_add.j1 kj4 l0 a1 a2 a3 (wrap64 ((l0.length : Int) - 1)) (((rd_T70 l0 (wrap64 ((l0.length : Int) - 1))).f0) == 3)) else (none)) else (none)) else (galleyref13_add.j1 kj4 l0 a1 a2 a3 (wrap64 ((l0.length : Int) - 1)) false)) else (galleyref13_add.j1 kj4 l0 a1 a2 a3 (wrap64 ((l0.length : Int) - 1)) false)) = some r := by rw [if_neg (show ¬ (false = true) by decide)] at H; exact H
    clear H
    have H := H1
    clear H1
    have HC9 := Aside0.mk H
    clear H
    obtain ⟨Ao10, co10, eo10⟩ := Kd.R_slice HO_0.out
    subst eo10
    go_upto_region 4 with (fail)
    go_cut [44] (fun v44 wc => ∃ (kq : Nat) (x44_8 : Bool), v44 = .bool x44_8 ∧ Aside0 (galleyref13_add.j1 kq l0 a1 a2 a3 (wrap64 ((l0.length : Int) - 1)) x44_8 = some r) ∧ Aside0 (kq ≤ kj4) ∧ Aside0 (Kd.R k70 70 wc w0.heap.size (fun k_ => (P0_ k_ ∨ w.heap.size ≤ k_)) (.slice Ao10 l0.length co10) l0) ∧ Aside0 (Kept w wc (fun k_ => P0_ k_)) ∧ Aside0 (Below w0.heap.size w0 wc))
    case first =>
     have H := HC9.out
     clear HC9
     by_cases c11 : a1 = 2
     ·
      rw [if_pos c11] at H
      have c11b0 : (a1 == 2) = true := beq_iff_eq.mpr c11
      have c11b1 : (a1 != 2) = false := bne_eq_false_iff_eq.mpr c11
      clear c11
      (first | rw [c11b0] | (simp only [i64_w, i32_w]; rw [c11b0]) | skip)
      by_cases c12 : (wrap64 ((l0.length : Int) - 1)) ≥ 0
      ·
       rw [if_pos c12] at H
       have c12b0 : decide (0 ≤ (wrap64 ((l0.length : Int) - 1))) = true := decide_eq_true c12
       clear c12
       obtain ⟨ji13, hji13⟩ : ∃ j_ : Int, (wrap64 ((l0.length : Int) - 1)) = j_ := ⟨_, rfl⟩
       replace H : (if 0 ≤ (ji13) then (if (ji13) < (l0.length : Int) then (galleyref13_add.j1 kj4 l0 a1 a2 a3 ji13 (((rd_T70 l0 (ji13)).f0) == 3)) else (none)) else (none)) = some r := by first | (rw [hji13] at H; exact H) | (simp only [hji13] at H ⊢; exact H)
       (try rw [hji13] at c12b0)
       have hji13w : (IntKind.i64.wrap ((l0.length : Int) - 1)) = ji13 := (i64_w _).trans hji13
       by_cases c14 : 0 ≤ (ji13)
       ·
        rw [if_pos c14] at H
        have c14b0 : decide (0 ≤ (ji13)) = true := decide_eq_true c14
        clear c14
        by_cases c15 : (ji13) < (l0.length : Int)
        ·
         rw [if_pos c15] at H
         have c15b0 : decide ((ji13) < (l0.length : Int)) = true := decide_eq_true c15
         clear c15
         have H' := Aside0.mk H
         clear H
         have p205 : 0 ≤ ((ji13) : Int) := of_decide_eq_true (by first | (with_reducible assumption) | assumption)
         have q205 : (ji13) < (l0.length : Int) := of_decide_eq_true (by first | (with_reducible assumption) | assumption)
         obtain ⟨ad205, e205, hx205_0, hx205_1, hx205_2⟩ := at_T70 (Kd.R_reads' HO_0.out).2.2 (ji13) p205 q205
         cases e205
         replace p205 := eq_true p205
         replace q205 := eq_true q205
         go_wp2
         go_meet
         case rel => exact ⟨_, ((((rd_T70 l0 (ji13)).f0) == 3)), (by first | rfl | (simp; done) | (simp only [← hji13] <;> (first | rfl | simp)) | (simp [*]; done)), (by first | exact H' | (rw [hji13]; exact H')), ⟨by have := HJ4.out; first | omega | exact Nat.le_refl _⟩, ⟨by (with_reducible repeat (first | apply Kd.R_alloc | apply Kd.R_drewN | apply Kd.R_drew)); exact HO_0.out⟩, ⟨by repeat (first | (with_reducible first | exact HK.out | apply Kept.alloc | apply Kept.drewN | apply Kept.drew) | exact HK.out)⟩, ⟨by repeat (first | (with_reducible first | exact HB.out | apply below_alloc | apply pw_below_drewN | apply below_drew1) | exact HB.out)⟩⟩
        ·
         rw [if_neg c15] at H
         exact absurd H (by simp)
       ·
        rw [if_neg c14] at H
        exact absurd H (by simp)
      ·
       rw [if_neg c12] at H
       have c12b0 : decide (0 ≤ (wrap64 ((l0.length : Int) - 1))) = false := decide_eq_false c12
       clear c12
       have H' := Aside0.mk H
       clear H
       go_wp2
       go_meet
       case rel => exact ⟨_, (false), (by first | rfl | (simp; done) | (simp [*]; done) | (simp; exact isEmpty_bne _)), H', ⟨by have := HJ4.out; first | omega | exact Nat.le_refl _⟩, ⟨by (with_reducible repeat (first | apply Kd.R_alloc | apply Kd.R_drewN | apply Kd.R_drew)); exact HO_0.out⟩, ⟨by repeat (first | (with_reducible first | exact HK.out | apply Kept.alloc | apply Kept.drewN | apply Kept.drew) | exact HK.out)⟩, ⟨by repeat (first | (with_reducible first | exact HB.out | apply below_alloc | apply pw_below_drewN | apply below_drew1) | exact HB.out)⟩⟩
     ·
      rw [if_neg c11] at H
      have c11b0 : (a1 == 2) = false := beq_eq_false_iff_ne.mpr c11
      have c11b1 : (a1 != 2) = true := bne_iff_ne.mpr c11
      (first | rw [c11b0] | (simp only [i64_w, i32_w]; rw [c11b0]) | skip)
      have H' := Aside0.mk H
      clear H
      go_wp2
      go_meet
      case rel => exact ⟨_, (false), (by first | rfl | (simp; done) | (simp [*]; done) | (simp; exact isEmpty_bne _)), H', ⟨by have := HJ4.out; first | omega | exact Nat.le_refl _⟩, ⟨by (with_reducible repeat (first | apply Kd.R_alloc | apply Kd.R_drewN | apply Kd.R_drew)); exact HO_0.out⟩, ⟨by repeat (first | (with_reducible first | exact HK.out | apply Kept.alloc | apply Kept.drewN | apply Kept.drew) | exact HK.out)⟩, ⟨by repeat (first | (with_reducible first | exact HB.out | apply below_alloc | apply pw_below_drewN | apply below_drew1) | exact HB.out)⟩⟩
    case rest =>
     clear HC9
     (try clear c1); (try clear p2); (try clear q2); (try clear hx2); (try clear c6); (try clear c6b0); (try clear c6b1); (try clear p6); (try clear c7); (try clear c7b0); (try clear c7b1); (try clear c8); (try clear c11); (try clear c11b0); (try clear c11b1); (try clear c12); (try clear c12b0); (try clear c14); (try clear c14b0); (try clear c15); (try clear c15b0); (try clear hx205_0); (try clear hx205_1); (try clear hx205_2); (try clear p2); (try clear p205); (try clear q205)
     obtain ⟨kq, x44_8, rfl, HA, HJ8, HO_0, HK, HB⟩ := hcut
     cases kq with
     | zero => exact absurd HA.out (by simp [galleyref13_add.j1])
     | succ kj8 =>
      have H := HA.out
      clear HA
      simp only [galleyref13_add.j1] at H
      by_cases c16 : x44_8 = true
      ·
       subst c16
       have H1 : (if 0 ≤ (wrap64 ((l0.length : Int) - 1)) then (if (wrap64 ((l0.length : Int) - 1)) < (l0.length : Int) then ((some (([] : List (S70)) : List (S70))).bind fun y207 => (if (wrap64 ((l0.length : Int) - 1)) ≤ (l0.length : Int) then ((some (l0.take ((wrap64 ((l0.length : Int) - 1)) : Int).toNat : List (S70))).bind fun y210 => (if y207.length + y210.length < 4398046511104 then ((galleyref13_add.f kj8 (y207 ++ y210) 2 0 a3).bind fun t217 => (if t217.length < 4398046511104 then (some (t217 ++ [(⟨3, (rd_T70 l0 (wrap64 ((l0.length : Int) - 1))).f1, (⟨#[]⟩ : ByteArray)⟩ : S70)])) else (none))) else (none))) else (none))) else (none)) else (none)) = some r := by rw [if_pos rfl] at H; exact H
       clear H
       have H := H1
       clear H1
       obtain ⟨ji17, hji17⟩ : ∃ j_ : Int, (wrap64 ((l0.length : Int) - 1)) = j_ := ⟨_, rfl⟩
       replace H : (if 0 ≤ (ji17) then (if (ji17) < (l0.length : Int) then ((some (([] : List (S70)) : List (S70))).bind fun y207 => (if (ji17) ≤ (l0.length : Int) then ((some (l0.take ((ji17) : Int).toNat : List (S70))).bind fun y210 => (if y207.length + y210.length < 4398046511104 then ((galleyref13_add.f kj8 (y207 ++ y210) 2 0 a3).bind fun t217 => (if t217.length < 4398046511104 then (some (t217 ++ [(⟨3, (rd_T70 l0 (ji17)).f1, (⟨#[]⟩ : ByteArray)⟩ : S70)])) else (none))) else (none))) else (none))) else (none)) else (none)) = some r := by first | (rw [hji17] at H; exact H) | (simp only [hji17] at H ⊢; exact H)
       have hji17w : (IntKind.i64.wrap ((l0.length : Int) - 1)) = ji17 := (i64_w _).trans hji17
       by_cases c18 : 0 ≤ (ji17)
       ·
        rw [if_pos c18] at H
        have c18b0 : decide (0 ≤ (ji17)) = true := decide_eq_true c18
        clear c18
        by_cases c19 : (ji17) < (l0.length : Int)
        ·
         rw [if_pos c19] at H
         have c19b0 : decide ((ji17) < (l0.length : Int)) = true := decide_eq_true c19
         clear c19
         obtain ⟨y207, hy207⟩ : ∃ y_ : List (S70), y_ = (([] : List (S70))) := ⟨_, rfl⟩
         replace H : (if (ji17) ≤ (l0.length : Int) then ((some (l0.take ((ji17) : Int).toNat : List (S70))).bind fun y210 => (if y207.length + y210.length < 4398046511104 then ((galleyref13_add.f kj8 (y207 ++ y210) 2 0 a3).bind fun t217 => (if t217.length < 4398046511104 then (some (t217 ++ [(⟨3, (rd_T70 l0 (ji17)).f1, (⟨#[]⟩ : ByteArray)⟩ : S70)])) else (none))) else (none))) else (none)) = some r := by first | (rw [hy207]; with_reducible exact H) | (have H2_ := (Option.bind_some _ _).symm.trans H; rw [hy207]; with_reducible exact H2_) | (have H2_ := (Option.bind_some _ _).symm.trans H; with_reducible exact H2_) | with_reducible exact H | (rw [hy207]; exact H) | exact H
         have Ny207 := Aside0.mk hy207
         clear hy207
         have c20b0 := eq_true (of_decide_eq_true (by first | (with_reducible assumption) | assumption) : 0 ≤ (ji17))
         by_cases c21 : (ji17) ≤ (l0.length : Int)
         ·
          rw [if_pos c21] at H
          have c21b0 := eq_true c21
          have c21b1 : decide ((ji17) ≤ (l0.length : Int)) = true := decide_eq_true c21
          clear c21
          obtain ⟨y210, hy210⟩ : ∃ y_ : List (S70), y_ = (l0.take ((ji17) : Int).toNat) := ⟨_, rfl⟩
          replace H : (if y207.length + y210.length < 4398046511104 then ((galleyref13_add.f kj8 (y207 ++ y210) 2 0 a3).bind fun t217 => (if t217.length < 4398046511104 then (some (t217 ++ [(⟨3, (rd_T70 l0 (ji17)).f1, (⟨#[]⟩ : ByteArray)⟩ : S70)])) else (none))) else (none)) = some r := by first | (rw [hy210]; with_reducible exact H) | (have H2_ := (Option.bind_some _ _).symm.trans H; rw [hy210]; with_reducible exact H2_) | (have H2_ := (Option.bind_some _ _).symm.trans H; with_reducible exact H2_) | with_reducible exact H | (rw [hy210]; exact H) | exact H
          have Ny210 := Aside0.mk hy210
          clear hy210
          by_cases c22 : y207.length + y210.length < 4398046511104
          ·
           rw [if_pos c22] at H
           have LMc22 := Aside0.mk c22
           clear c22
           obtain ⟨y214, hy214⟩ : ∃ y_ : List (S70), y_ = (y207 ++ y210) := ⟨_, rfl⟩
           replace H : ((galleyref13_add.f kj8 y214 2 0 a3).bind fun t217 => (if t217.length < 4398046511104 then (some (t217 ++ [(⟨3, (rd_T70 l0 (ji17)).f1, (⟨#[]⟩ : ByteArray)⟩ : S70)])) else (none))) = some r := by first | (rw [hy214]; with_reducible exact H) | (have H2_ := (Option.bind_some _ _).symm.trans H; rw [hy214]; with_reducible exact H2_) | (have H2_ := (Option.bind_some _ _).symm.trans H; with_reducible exact H2_) | with_reducible exact H | (rw [hy214]; exact H) | exact H
           have Ny214 := Aside0.mk hy214
           clear hy214
           replace H := Option.bind_eq_some_iff.mp H
           obtain ⟨t217, A230, H⟩ := H
           replace H : (if t217.length < 4398046511104 then (some (t217 ++ [(⟨3, (rd_T70 l0 (ji17)).f1, (⟨#[]⟩ : ByteArray)⟩ : S70)])) else (none)) = some r := H
           have A23 := Aside0.mk A230
           clear A230
           by_cases c24 : t217.length < 4398046511104
           ·
            rw [if_pos c24] at H
            have LMc24 := Aside0.mk c24
            clear c24
            obtain ⟨y220, hy220⟩ : ∃ y_ : List (S70), y_ = (t217 ++ [(⟨3, (rd_T70 l0 (ji17)).f1, (⟨#[]⟩ : ByteArray)⟩ : S70)]) := ⟨_, rfl⟩
            replace H : (some y220) = some r := by first | (rw [hy220]; with_reducible exact H) | (have H2_ := (Option.bind_some _ _).symm.trans H; rw [hy220]; with_reducible exact H2_) | (have H2_ := (Option.bind_some _ _).symm.trans H; with_reducible exact H2_) | with_reducible exact H | (rw [hy220]; exact H) | exact H
            have Ny220 := Aside0.mk hy220
            clear hy220
            obtain rfl := Option.some.inj H
            have p206 : 0 ≤ ((ji17) : Int) := of_decide_eq_true (by first | (with_reducible assumption) | assumption)
            have q206 : (ji17) < (l0.length : Int) := of_decide_eq_true (by first | (with_reducible assumption) | assumption)
            obtain ⟨ad206, e206, hx206_0, hx206_1, hx206_2⟩ := at_T70 (Kd.R_reads' HO_0.out).2.2 (ji17) p206 q206
            cases e206
            replace p206 := eq_true p206
            replace q206 := eq_true q206
            go_wp2_with (first | ((with_reducible refine gate_dst (N := 50) rfl ?_); refine Kd.R_lit k70 _ 70 ?hg (N := 50) ?hd (xs := ([] : List (S70))) (inner := []) (ok := fun _ => True) (okp := fun _ => True) ?hr ?hp (fun _ hk => hk) trivial (Below.refl _ _) (Nat.le_refl _) (by simp) ?_; (case hd => rfl); (case hg => rfl); (case hr => first | (go_simp; done) | (go_simp; rfl)); (case hp => exact (Reps.none _ _)); intro v208 w25 ho26 hb hg_ hnew_; clear hg_ hnew_; (first | rw [← Ny207.out] at ho26 | (simp only [Int.reduceToNat] at ho26; rw [← Ny207.out] at ho26)); have n0_ := Aside0.mk (Kd.R_elder' (by (with_reducible repeat (first | apply Kd.R_alloc | apply Kd.R_drewN | apply Kd.R_drew)); exact HO_0.out) (Kd.R_base ho26) hb); have n1_ := Aside0.mk (Kd.R_lower (Kd.R_new' (Kd.R_newM (M := fun k_ => (P0_ k_ ∨ w.heap.size ≤ k_)) ho26 (by first | exact HK.out.1 | exact (show Kept w _ (fun k_ => P0_ k_) from by repeat (first | (with_reducible first | exact HK.out | apply Kept.alloc | apply Kept.drewN | apply Kept.drew) | exact HK.out)).1) (fun k_ h_ => .inr h_)) (Kd.R_lt (by (with_reducible repeat (first | apply Kd.R_alloc | apply Kd.R_drewN | apply Kd.R_drew)); exact HO_0.out))) (below_size (by repeat (first | (with_reducible first | exact HB.out | apply below_alloc | apply pw_below_drewN | apply below_drew1) | exact HB.out)))); have n2_ := Aside0.mk (Kept.below (S := (fun k_ => P0_ k_)) (by repeat (first | (with_reducible first | exact HK.out | apply Kept.alloc | apply Kept.drewN | apply Kept.drew) | exact HK.out)) hb); have n3_ := Aside0.mk (below_step (by repeat (first | (with_reducible first | exact HB.out | apply below_alloc | apply pw_below_drewN | apply below_drew1) | exact HB.out)) hb); clear HO_0; clear HK; clear HB; have HO_0 := n0_; have HO209 := n1_; have HK := n2_; have HB := n3_; clear n0_ n1_ n2_ n3_; clear hb ho26; have q27 : ((ji17) : Int) ≤ ((l0.length : Int) : Int) := of_decide_eq_true (by first | (with_reducible assumption) | assumption); obtain ⟨i027, hi027, _, hsz27, _⟩ := info_parts info70; have hroom27 : l0.length ≤ co10 := (Kd.R_reads' HO_0.out).2.1; have hC27 : Kd.C k70 _ (some ad206) l0.length l0 := (Kd.R_reads' HO_0.out).2.2; have hcut27 := cut_to (P := Try.prog) 25 70 .i64 Try.underlying25 hi027 (some ad206) l0.length co10 (ji17) (of_decide_eq_true (by first | (with_reducible assumption) | assumption)) q27 hroom27; have hr27 := Kd.C_take (m := ((ji17) : Int).toNat) hC27 (by omega); have hy27 : y210.length = ((ji17) : Int).toNat := (by rw [Ny210.out, List.length_take]; omega); rw [← Ny210.out] at hr27; rw [← hy27] at hcut27; have HR213 := Aside0.mk hr27; have HC213 := Aside0.mk (show y210.length ≤ co10 from by omega); clear hr27 hC27 hroom27 hi027 hsz27; have KY27 := Aside0.mk hy27; clear hy27; have KL27 := Aside0.mk (show ((ji17) : Int).toNat ≤ l0.length from by omega); replace q27 := eq_true q27) | ((with_reducible refine gate_builtin (b := .append) (xs := #[.tmp 50, .tmp 53]) rfl ?_); at_builtin; refine Kd.R_append_rows k70 (w0 := w0) w0.heap.size rfl (.tmp 50) (.tmp 53) 25 70 (.agg #[(.int .i64 0), (.int .i64 0), (.string ⟨#[]⟩)]) 32 rfl Try.underlying25 info70 rfl (by decide) (by omega) v208 y207 y210 _ _ _ (fun k_ => (P0_ k_ ∨ w.heap.size ≤ k_) ∧ some k_ ≠ (.slice (some ad206) l0.length co10 : Value).ownBlock) (fun _ => False) rfl rfl ?aO ?aR (fun _ _ h => h) (fun _ h => h.elim) ?aF ?aB ?aS ?aL ?_; (case aR => repeat (first | exact (by repeat (first | (with_reducible exact HR213.out) | (with_reducible refine Kd.C_alloc ?_ _) | (with_reducible refine Kd.C_drewN ?_ _) | (with_reducible refine Kd.C_drew ?_) | exact HR213.out)) | (with_reducible refine Kd.C_alloc ?_ _) | (with_reducible refine Kd.C_drewN ?_ _) | (with_reducible refine Kd.C_drew ?_))); (case aB => exact (by repeat (first | (with_reducible first | exact HB.out | apply below_alloc | apply pw_below_drewN | apply below_drew1) | exact HB.out))); (case aF => exact (fun k_ hk => ⟨(.inr (Nat.le_trans (by first | exact HK.out.1 | exact (show Kept w _ (fun k_ => P0_ k_) from by repeat (first | (with_reducible first | exact HK.out | apply Kept.alloc | apply Kept.drewN | apply Kept.drew) | exact HK.out)).1) hk)), Kd.fresh' (Kd.R_lt (by (with_reducible repeat (first | apply Kd.R_alloc | apply Kd.R_drewN | apply Kd.R_drew)); exact HO_0.out)) k_ hk⟩)); (case aO => exact (by (with_reducible repeat (first | apply Kd.R_alloc | apply Kd.R_drewN | apply Kd.R_drew)); exact Kd.R_mono HO209.out (fun _ hk => ⟨hk.1.1, hk.2⟩))); (case aS => exact (below_size (by repeat (first | (with_reducible first | exact HB.out | apply below_alloc | apply pw_below_drewN | apply below_drew1) | exact HB.out)))); (case aL => have := LMc22.out; omega); intro v215 w28 ho hb hg hat; rw [← Ny214.out] at ho; have n0_ := Aside0.mk (Kd.R_after (ok := (fun k_ => (P0_ k_ ∨ w.heap.size ≤ k_))) (by (with_reducible repeat (first | apply Kd.R_alloc | apply Kd.R_drewN | apply Kd.R_drew)); exact HO_0.out) hg hat); have n1_ := Aside0.mk (hb); have n2_ := Aside0.mk (Kept.of_grown (S := (fun k_ => P0_ k_)) hg (by repeat (first | (with_reducible first | exact HK.out | apply Kept.alloc | apply Kept.drewN | apply Kept.drew) | exact HK.out)) (fun k_ e_ => (HO209.out.1 k_ e_).1.1)); have n3_ := Aside0.mk ((show Kd.C k70 w28 (some ad206) y210.length y210 from by rw [Ny210.out]; exact Kd.C_take (m := ((ji17) : Int).toNat) ((Kd.R_reads' (Kd.R_after (ok := (fun k_ => (P0_ k_ ∨ w.heap.size ≤ k_))) (by (with_reducible repeat (first | apply Kd.R_alloc | apply Kd.R_drewN | apply Kd.R_drew)); exact HO_0.out) hg hat)).2.2) KL27.out)); have n4_ := Aside0.mk (ho); clear HO_0; clear HB; clear HK; clear HR213; clear HO209; have HO_0 := n0_; have HB := n1_; have HK := n2_; have HR213 := n3_; have HO216 := n4_; clear n0_ n1_ n2_ n3_ n4_; clear ho hb hg hat; obtain ⟨Ao29, co29, eo29⟩ := Kd.R_slice HO216.out; subst eo29) | ((with_reducible refine gate_callee (f := 78) rfl ?_); refine goesL_ (some 56) rfl rfl Try.func78 (by kernel_rfl) rfl #[.slice Ao29 y214.length co29, .int .i64 2, .int .i64 0, .string a3] rfl (by (try simp only [List.map_toArray, List.map_cons, List.map_nil]); first | done | rfl | (simp only [List.length_drop, List.length_take]; rfl)) ?_; (with_reducible refine (ih kj8 (by have := HJ4.out; have := HJ8.out; omega) (fun k_ => some k_ = (.slice Ao29 y214.length co29 : Value).ownBlock) (.slice Ao29 y214.length co29) y214 2 0 a3 t217 w0 _ ?side1 ?side2 A23.out).mono ?_); (case side1 => repeat (first | (with_reducible first | exact HB.out | apply below_alloc | apply pw_below_drewN | apply below_drew1) | exact HB.out)); (case side2 => exact Kd.R_tight rfl HO216.out); rintro e w30 ⟨v218, rfl, ho0, hb, hkp⟩; refine ⟨_, rfl, ?_⟩; have n0_ := Aside0.mk (Kd.R_mono (ok' := fun k_ => (P0_ k_ ∨ w.heap.size ≤ k_) ∧ some k_ ≠ (v218 : Value).ownBlock) (Kd.R_keptB (HO_0.out) hkp (fun k_ hk_ hs_ => (hk_.2) hs_)) (fun k_ hk_ => ⟨hk_.1.1, fun e_ => Or.elim (ho0.1 k_ e_.symm) (fun hs_ => hk_.2.1 hs_) (fun hn_ => Nat.not_le.2 hk_.2.2 hn_)⟩)); have n1_ := Aside0.mk (Kd.R_mono (ok' := fun k_ => (P0_ k_ ∨ w.heap.size ≤ k_) ∧ some k_ ≠ (.slice (some ad206) l0.length co10 : Value).ownBlock) ho0 (fun k_ hk_ => ⟨Or.elim hk_ (fun hs_ => (HO216.out.1 k_ (hs_).symm).1) (fun hn_ => (.inr (Nat.le_trans (by first | exact HK.out.1 | exact (show Kept w _ (fun k_ => P0_ k_) from by repeat (first | (with_reducible first | exact HK.out | apply Kept.alloc | apply Kept.drewN | apply Kept.drew) | exact HK.out)).1) hn_))), Or.elim hk_ (fun hs_ => fun e_ => (((HO_0.out).1 k_ e_.symm).2) hs_) (fun hn_ => (Kd.fresh' (Kd.R_lt (by (with_reducible repeat (first | apply Kd.R_alloc | apply Kd.R_drewN | apply Kd.R_drew)); exact HO_0.out)) k_ hn_))⟩)); have n2_ := Aside0.mk (Kept.then_ (S := (fun k_ => P0_ k_)) (by repeat (first | (with_reducible first | exact HK.out | apply Kept.alloc | apply Kept.drewN | apply Kept.drew) | exact HK.out)) hkp (fun k_ hs_ => (fun e_ => (HO216.out.1 k_ e_.symm).1) hs_)); have n3_ := Aside0.mk (hb); clear HO_0; clear HK; clear HB; clear HO216; have HO_0 := n0_; have HO219 := n1_; have HK := n2_; have HB := n3_; clear n0_ n1_ n2_ n3_; (try clear hb); (try clear hkp); (try clear ho0)) | ((with_reducible refine gate_builtin (b := .append) (xs := #[.tmp 57, .tmp 60]) rfl ?_); at_builtin; refine Kd.R_append k70 (w0 := w0) w0.heap.size rfl (.tmp 57) (.tmp 60) 25 70 (.agg #[(.int .i64 0), (.int .i64 0), (.string ⟨#[]⟩)]) 32 rfl Try.underlying25 info70 rfl (by decide) (by omega) v218 t217 (⟨3, (rd_T70 l0 (ji17)).f1, (⟨#[]⟩ : ByteArray)⟩ : S70) [.int .i64 3, .int .i64 ((rd_T70 l0 (ji17)).f1), .string (⟨#[]⟩ : ByteArray)] (fun k_ => (P0_ k_ ∨ w.heap.size ≤ k_) ∧ some k_ ≠ (.slice (some ad206) l0.length co10 : Value).ownBlock) (fun _ => False) rfl rfl ?aP (fun _ hk => hk.elim) ?aF ?aO ?aB ?aS ?aL ?_; (case aP => exact k70_mkM _ _ _ (⟨3, (rd_T70 l0 (ji17)).f1, (⟨#[]⟩ : ByteArray)⟩ : S70)); (case aB => exact (by repeat (first | (with_reducible first | exact HB.out | apply below_alloc | apply pw_below_drewN | apply below_drew1) | exact HB.out))); (case aF => exact (fun k_ hk => ⟨(.inr (Nat.le_trans (by first | exact HK.out.1 | exact (show Kept w _ (fun k_ => P0_ k_) from by repeat (first | (with_reducible first | exact HK.out | apply Kept.alloc | apply Kept.drewN | apply Kept.drew) | exact HK.out)).1) hk)), Kd.fresh' (Kd.R_lt (by (with_reducible repeat (first | apply Kd.R_alloc | apply Kd.R_drewN | apply Kd.R_drew)); exact HO_0.out)) k_ hk⟩)); (case aO => exact (by (with_reducible repeat (first | apply Kd.R_alloc | apply Kd.R_drewN | apply Kd.R_drew)); exact HO219.out)); (case aS => exact (below_size (by repeat (first | (with_reducible first | exact HB.out | apply below_alloc | apply pw_below_drewN | apply below_drew1) | exact HB.out)))); (case aL => have := LMc24.out; omega); intro v221 w31 ho hb hg hat; rw [← Ny220.out] at ho; have n0_ := Aside0.mk (Kd.R_after (ok := (fun k_ => (P0_ k_ ∨ w.heap.size ≤ k_))) (by (with_reducible repeat (first | apply Kd.R_alloc | apply Kd.R_drewN | apply Kd.R_drew)); exact HO_0.out) hg hat); have n1_ := Aside0.mk (hb); have n2_ := Aside0.mk (Kept.of_grown (S := (fun k_ => P0_ k_)) hg (by repeat (first | (with_reducible first | exact HK.out | apply Kept.alloc | apply Kept.drewN | apply Kept.drew) | exact HK.out)) (fun k_ e_ => (HO219.out.1 k_ e_).1)); have n3_ := Aside0.mk (ho); clear HO_0; clear HB; clear HK; clear HO219; have HO_0 := n0_; have HB := n1_; have HK := n2_; have HO222 := n3_; clear n0_ n1_ n2_ n3_; clear ho hb hg hat))
            go_ret
            exact ⟨_, by first | rfl | (simp [errW_none, errW_some] <;> rfl) | (simp only [← hji17]; first | rfl | (simp [errW_none, errW_some] <;> rfl)) | (simp [*, errW_none, errW_some] <;> rfl), by (with_reducible repeat (first | apply Kd.R_alloc | apply Kd.R_drewN | apply Kd.R_drew)); exact Kd.R_mono HO222.out (fun _ hk => hk.1), by repeat (first | (with_reducible first | exact HB.out | apply below_alloc | apply pw_below_drewN | apply below_drew1) | exact HB.out), by repeat (first | (with_reducible first | exact HK.out | apply Kept.alloc | apply Kept.drewN | apply Kept.drew) | exact HK.out)⟩
           ·
            rw [if_neg c24] at H
            exact absurd H (by simp)
          ·
           rw [if_neg c22] at H
           exact absurd H (by simp)
         ·
          rw [if_neg c21] at H
          exact absurd H (by simp)
        ·
         rw [if_neg c19] at H
         exact absurd H (by simp)
       ·
        rw [if_neg c18] at H
        exact absurd H (by simp)
      ·
       replace c16 := Bool.eq_false_iff.mpr c16
       subst c16
       have H1 : ((some (([] : List (S70)) : List (S70))).bind fun y223 => (if y223.length + l0.length < 4398046511104 then ((some (y223 ++ l0 : List (S70))).bind fun y226 => (if (wrap64 ((l0.length : Int) - 1)) ≥ 0 then (if 0 ≤ (wrap64 ((l0.length : Int) - 1)) then (if (wrap64 ((l0.length : Int) - 1)) < (l0.length : Int) then (galleyref13_add.j2 kj8 a1 a2 a3 (wrap64 ((l0.length : Int) - 1)) y226 (((rd_T70 l0 (wrap64 ((l0.length : Int) - 1))).f0) == a1)) else (none)) else (none)) else (galleyref13_add.j2 kj8 a1 a2 a3 (wrap64 ((l0.length : Int) - 1)) y226 false))) else (none))) = some r := by rw [if_neg (show ¬ (false = true) by decide)] at H; exact H
       clear H
       have H := H1
       clear H1
       obtain ⟨y223, hy223⟩ : ∃ y_ : List (S70), y_ = (([] : List (S70))) := ⟨_, rfl⟩
       replace H : (if y223.length + l0.length < 4398046511104 then ((some (y223 ++ l0 : List (S70))).bind fun y226 => (if (wrap64 ((l0.length : Int) - 1)) ≥ 0 then (if 0 ≤ (wrap64 ((l0.length : Int) - 1)) then (if (wrap64 ((l0.length : Int) - 1)) < (l0.length : Int) then (galleyref13_add.j2 kj8 a1 a2 a3 (wrap64 ((l0.length : Int) - 1)) y226 (((rd_T70 l0 (wrap64 ((l0.length : Int) - 1))).f0) == a1)) else (none)) else (none)) else (galleyref13_add.j2 kj8 a1 a2 a3 (wrap64 ((l0.length : Int) - 1)) y226 false))) else (none)) = some r := by first | (rw [hy223]; with_reducible exact H) | (have H2_ := (Option.bind_some _ _).symm.trans H; rw [hy223]; with_reducible exact H2_) | (have H2_ := (Option.bind_some _ _).symm.trans H; with_reducible exact H2_) | with_reducible exact H | (rw [hy223]; exact H) | exact H
       have Ny223 := Aside0.mk hy223
       clear hy223
       by_cases c32 : y223.length + l0.length < 4398046511104
       ·
        rw [if_pos c32] at H
        have LMc32 := Aside0.mk c32
        clear c32
        obtain ⟨y226, hy226⟩ : ∃ y_ : List (S70), y_ = (y223 ++ l0) := ⟨_, rfl⟩
        replace H : (if (wrap64 ((l0.length : Int) - 1)) ≥ 0 then (if 0 ≤ (wrap64 ((l0.length : Int) - 1)) then (if (wrap64 ((l0.length : Int) - 1)) < (l0.length : Int) then (galleyref13_add.j2 kj8 a1 a2 a3 (wrap64 ((l0.length : Int) - 1)) y226 (((rd_T70 l0 (wrap64 ((l0.length : Int) - 1))).f0) == a1)) else (none)) else (none)) else (galleyref13_add.j2 kj8 a1 a2 a3 (wrap64 ((l0.length : Int) - 1)) y226 false)) = some r := by first | (rw [hy226]; with_reducible exact H) | (have H2_ := (Option.bind_some _ _).symm.trans H; rw [hy226]; with_reducible exact H2_) | (have H2_ := (Option.bind_some _ _).symm.trans H; with_reducible exact H2_) | with_reducible exact H | (rw [hy226]; exact H) | exact H
        have Ny226 := Aside0.mk hy226
        clear hy226
        have HC33 := Aside0.mk H
        clear H
        go_upto_region 9 with (first | ((with_reducible refine gate_dst (N := 62) rfl ?_); refine Kd.R_lit k70 _ 70 ?hg (N := 62) ?hd (xs := ([] : List (S70))) (inner := []) (ok := fun _ => True) (okp := fun _ => True) ?hr ?hp (fun _ hk => hk) trivial (Below.refl _ _) (Nat.le_refl _) (by simp) ?_; (case hd => rfl); (case hg => rfl); (case hr => first | (go_simp; done) | (go_simp; rfl)); (case hp => exact (Reps.none _ _)); intro v224 w34 ho35 hb hg_ hnew_; clear hg_ hnew_; (first | rw [← Ny223.out] at ho35 | (simp only [Int.reduceToNat] at ho35; rw [← Ny223.out] at ho35)); have n0_ := Aside0.mk (Kd.R_elder' (by (with_reducible repeat (first | apply Kd.R_alloc | apply Kd.R_drewN | apply Kd.R_drew)); exact HO_0.out) (Kd.R_base ho35) hb); have n1_ := Aside0.mk (Kd.R_lower (Kd.R_new' (Kd.R_newM (M := fun k_ => (P0_ k_ ∨ w.heap.size ≤ k_)) ho35 (by first | exact HK.out.1 | exact (show Kept w _ (fun k_ => P0_ k_) from by repeat (first | (with_reducible first | exact HK.out | apply Kept.alloc | apply Kept.drewN | apply Kept.drew) | exact HK.out)).1) (fun k_ h_ => .inr h_)) (Kd.R_lt (by (with_reducible repeat (first | apply Kd.R_alloc | apply Kd.R_drewN | apply Kd.R_drew)); exact HO_0.out))) (below_size (by repeat (first | (with_reducible first | exact HB.out | apply below_alloc | apply pw_below_drewN | apply below_drew1) | exact HB.out)))); have n2_ := Aside0.mk (Kept.below (S := (fun k_ => P0_ k_)) (by repeat (first | (with_reducible first | exact HK.out | apply Kept.alloc | apply Kept.drewN | apply Kept.drew) | exact HK.out)) hb); have n3_ := Aside0.mk (below_step (by repeat (first | (with_reducible first | exact HB.out | apply below_alloc | apply pw_below_drewN | apply below_drew1) | exact HB.out)) hb); clear HO_0; clear HK; clear HB; have HO_0 := n0_; have HO225 := n1_; have HK := n2_; have HB := n3_; clear n0_ n1_ n2_ n3_; clear hb ho35) | ((with_reducible refine gate_builtin (b := .append) (xs := #[.tmp 62, .tmp 63]) rfl ?_); at_builtin; refine Kd.R_append_rows k70 (w0 := w0) w0.heap.size rfl (.tmp 62) (.tmp 63) 25 70 (.agg #[(.int .i64 0), (.int .i64 0), (.string ⟨#[]⟩)]) 32 rfl Try.underlying25 info70 rfl (by decide) (by omega) v224 y223 l0 _ _ _ (fun k_ => (P0_ k_ ∨ w.heap.size ≤ k_) ∧ some k_ ≠ (.slice Ao10 l0.length co10 : Value).ownBlock) (fun _ => False) rfl rfl ?aO ?aR (fun _ _ h => h) (fun _ h => h.elim) ?aF ?aB ?aS ?aL ?_; (case aR => repeat (first | exact (Kd.R_reads' HO_0.out).2.2 | (with_reducible refine Kd.C_alloc ?_ _) | (with_reducible refine Kd.C_drewN ?_ _) | (with_reducible refine Kd.C_drew ?_))); (case aB => exact (by repeat (first | (with_reducible first | exact HB.out | apply below_alloc | apply pw_below_drewN | apply below_drew1) | exact HB.out))); (case aF => exact (fun k_ hk => ⟨(.inr (Nat.le_trans (by first | exact HK.out.1 | exact (show Kept w _ (fun k_ => P0_ k_) from by repeat (first | (with_reducible first | exact HK.out | apply Kept.alloc | apply Kept.drewN | apply Kept.drew) | exact HK.out)).1) hk)), Kd.fresh' (Kd.R_lt (by (with_reducible repeat (first | apply Kd.R_alloc | apply Kd.R_drewN | apply Kd.R_drew)); exact HO_0.out)) k_ hk⟩)); (case aO => exact (by (with_reducible repeat (first | apply Kd.R_alloc | apply Kd.R_drewN | apply Kd.R_drew)); exact Kd.R_mono HO225.out (fun _ hk => ⟨hk.1.1, hk.2⟩))); (case aS => exact (below_size (by repeat (first | (with_reducible first | exact HB.out | apply below_alloc | apply pw_below_drewN | apply below_drew1) | exact HB.out)))); (case aL => have := LMc32.out; omega); intro v227 w36 ho hb hg hat; rw [← Ny226.out] at ho; have n0_ := Aside0.mk (Kd.R_after (ok := (fun k_ => (P0_ k_ ∨ w.heap.size ≤ k_))) (by (with_reducible repeat (first | apply Kd.R_alloc | apply Kd.R_drewN | apply Kd.R_drew)); exact HO_0.out) hg hat); have n1_ := Aside0.mk (hb); have n2_ := Aside0.mk (Kept.of_grown (S := (fun k_ => P0_ k_)) hg (by repeat (first | (with_reducible first | exact HK.out | apply Kept.alloc | apply Kept.drewN | apply Kept.drew) | exact HK.out)) (fun k_ e_ => (HO225.out.1 k_ e_).1.1)); have n3_ := Aside0.mk (ho); clear HO_0; clear HB; clear HK; clear HO225; have HO_0 := n0_; have HB := n1_; have HK := n2_; have HO228 := n3_; clear n0_ n1_ n2_ n3_; clear ho hb hg hat))
        (try simp only [Act.put, List.setIfInBounds_toArray, List.set_cons_zero, List.set_cons_succ])
        go_cut [75] (fun v75 wc => ∃ (kq : Nat) (x75_32 : Bool), v75 = .bool x75_32 ∧ Aside0 (galleyref13_add.j2 kq a1 a2 a3 (wrap64 ((l0.length : Int) - 1)) y226 x75_32 = some r) ∧ Aside0 (kq ≤ kj8) ∧ Aside0 (Kd.R k70 70 wc w0.heap.size (fun k_ => (P0_ k_ ∨ w.heap.size ≤ k_)) v227 y226) ∧ Aside0 (Kept w wc (fun k_ => P0_ k_)) ∧ Aside0 (Below w0.heap.size w0 wc))
        case first =>
         have H := HC33.out
         clear HC33
         by_cases c37 : (wrap64 ((l0.length : Int) - 1)) ≥ 0
         ·
          rw [if_pos c37] at H
          have c37b0 : decide (0 ≤ (wrap64 ((l0.length : Int) - 1))) = true := decide_eq_true c37
          clear c37
          (first | rw [c37b0] | (simp only [i64_w, i32_w]; rw [c37b0]) | skip)
          obtain ⟨ji38, hji38⟩ : ∃ j_ : Int, (wrap64 ((l0.length : Int) - 1)) = j_ := ⟨_, rfl⟩
          replace H : (if 0 ≤ (ji38) then (if (ji38) < (l0.length : Int) then (galleyref13_add.j2 kj8 a1 a2 a3 (ji38) y226 (((rd_T70 l0 (ji38)).f0) == a1)) else (none)) else (none)) = some r := by first | (rw [hji38] at H; exact H) | (simp only [hji38] at H ⊢; exact H)
          (try rw [hji38] at c37b0)
          have hji38w : (IntKind.i64.wrap ((l0.length : Int) - 1)) = ji38 := (i64_w _).trans hji38
          by_cases c39 : 0 ≤ (ji38)
          ·
           rw [if_pos c39] at H
           have c39b0 : decide (0 ≤ (ji38)) = true := decide_eq_true c39
           clear c39
           by_cases c40 : (ji38) < (l0.length : Int)
           ·
            rw [if_pos c40] at H
            have c40b0 : decide ((ji38) < (l0.length : Int)) = true := decide_eq_true c40
            clear c40
            have H' := Aside0.mk H
            clear H
            have p229 : 0 ≤ ((ji38) : Int) := of_decide_eq_true (by first | (with_reducible assumption) | assumption)
            have q229 : (ji38) < (l0.length : Int) := of_decide_eq_true (by first | (with_reducible assumption) | assumption)
            obtain ⟨ad229, e229, hx229_0, hx229_1, hx229_2⟩ := at_T70 (Kd.R_reads' HO_0.out).2.2 (ji38) p229 q229
            cases e229
            replace p229 := eq_true p229
            replace q229 := eq_true q229
            go_wp2
            go_meet
            case rel => exact ⟨_, ((((rd_T70 l0 (ji38)).f0) == a1)), (by first | rfl | (simp; done) | (simp only [← hji38] <;> (first | rfl | simp)) | (simp [*]; done)), (by first | exact H' | (rw [hji38]; exact H')), ⟨by have := HJ4.out; have := HJ8.out; first | omega | exact Nat.le_refl _⟩, ⟨by (with_reducible repeat (first | apply Kd.R_alloc | apply Kd.R_drewN | apply Kd.R_drew)); exact Kd.R_mono HO228.out (fun _ hk => hk.1)⟩, ⟨by repeat (first | (with_reducible first | exact HK.out | apply Kept.alloc | apply Kept.drewN | apply Kept.drew) | exact HK.out)⟩, ⟨by repeat (first | (with_reducible first | exact HB.out | apply below_alloc | apply pw_below_drewN | apply below_drew1) | exact HB.out)⟩⟩
           ·
            rw [if_neg c40] at H
            exact absurd H (by simp)
          ·
           rw [if_neg c39] at H
           exact absurd H (by simp)
         ·
          rw [if_neg c37] at H
          have c37b0 : decide (0 ≤ (wrap64 ((l0.length : Int) - 1))) = false := decide_eq_false c37
          clear c37
          (first | rw [c37b0] | (simp only [i64_w, i32_w]; rw [c37b0]) | skip)
          have H' := Aside0.mk H
          clear H
          go_wp2
          go_meet
          case rel => exact ⟨_, (false), (by first | rfl | (simp; done) | (simp [*]; done) | (simp; exact isEmpty_bne _)), H', ⟨by have := HJ4.out; have := HJ8.out; first | omega | exact Nat.le_refl _⟩, ⟨by (with_reducible repeat (first | apply Kd.R_alloc | apply Kd.R_drewN | apply Kd.R_drew)); exact Kd.R_mono HO228.out (fun _ hk => hk.1)⟩, ⟨by repeat (first | (with_reducible first | exact HK.out | apply Kept.alloc | apply Kept.drewN | apply Kept.drew) | exact HK.out)⟩, ⟨by repeat (first | (with_reducible first | exact HB.out | apply below_alloc | apply pw_below_drewN | apply below_drew1) | exact HB.out)⟩⟩
        case rest =>
         clear HC33
         (try clear c1); (try clear c2); (try clear p2); (try clear q2); (try clear hx2); (try clear c3); (try clear c4); (try clear c6); (try clear c6b0); (try clear c6b1); (try clear p6); (try clear c7); (try clear c7b0); (try clear c7b1); (try clear c8); (try clear c11); (try clear c11b0); (try clear c11b1); (try clear c12); (try clear c12b0); (try clear c14); (try clear c14b0); (try clear c15); (try clear c15b0); (try clear c16); (try clear c18); (try clear c18b0); (try clear c19); (try clear c19b0); (try clear c20); (try clear c20b0); (try clear p20); (try clear q20); (try clear hx20); (try clear c21); (try clear c21b0); (try clear c21b1); (try clear c22); (try clear p22); (try clear q22); (try clear hx22); (try clear c24); (try clear q27); (try clear c32); (try clear c37); (try clear c37b0); (try clear c39); (try clear c39b0); (try clear c40); (try clear c40b0); (try clear hx205_0); (try clear hx205_1); (try clear hx205_2); (try clear hx206_0); (try clear hx206_1); (try clear hx206_2); (try clear hx229_0); (try clear hx229_1); (try clear hx229_2); (try clear p2); (try clear p205); (try clear p206); (try clear p229); (try clear p6); (try clear q2); (try clear q205); (try clear q206); (try clear q229); (try clear q27)
         obtain ⟨kq, x75_32, rfl, HA, HJ32, HO_12, HK, HB⟩ := hcut
         cases kq with
         | zero => exact absurd HA.out (by simp [galleyref13_add.j2])
         | succ kj32 =>
          have H := HA.out
          clear HA
          simp only [galleyref13_add.j2] at H
          by_cases c41 : x75_32 = true
          ·
           subst c41
           have H1 : (if 0 ≤ (wrap64 ((l0.length : Int) - 1)) then (if (wrap64 ((l0.length : Int) - 1)) < (y226.length : Int) then ((some (y226.set ((wrap64 ((l0.length : Int) - 1)) : Int).toNat (⟨(rd_T70 y226 (wrap64 ((l0.length : Int) - 1))).f0, wrap64 (((rd_T70 y226 (wrap64 ((l0.length : Int) - 1))).f1) + a2), (rd_T70 y226 (wrap64 ((l0.length : Int) - 1))).f2⟩ : S70) : List (S70))).bind fun y231 => (if ((rd_T70 y231 (wrap64 ((l0.length : Int) - 1))).f2).size + a3.size ≤ 9223372036854775807 then (some (y231.set ((wrap64 ((l0.length : Int) - 1)) : Int).toNat (⟨(rd_T70 y231 (wrap64 ((l0.length : Int) - 1))).f0, (rd_T70 y231 (wrap64 ((l0.length : Int) - 1))).f1, ((rd_T70 y231 (wrap64 ((l0.length : Int) - 1))).f2) ++ a3⟩ : S70))) else (none))) else (none)) else (none)) = some r := by rw [if_pos rfl] at H; exact H
           clear H
           have H := H1
           clear H1
           obtain ⟨ji42, hji42⟩ : ∃ j_ : Int, (wrap64 ((l0.length : Int) - 1)) = j_ := ⟨_, rfl⟩
           replace H : (if 0 ≤ (ji42) then (if (ji42) < (y226.length : Int) then ((some (y226.set ((ji42) : Int).toNat (⟨(rd_T70 y226 (ji42)).f0, wrap64 (((rd_T70 y226 (ji42)).f1) + a2), (rd_T70 y226 (ji42)).f2⟩ : S70) : List (S70))).bind fun y231 => (if ((rd_T70 y231 (ji42)).f2).size + a3.size ≤ 9223372036854775807 then (some (y231.set ((ji42) : Int).toNat (⟨(rd_T70 y231 (ji42)).f0, (rd_T70 y231 (ji42)).f1, ((rd_T70 y231 (ji42)).f2) ++ a3⟩ : S70))) else (none))) else (none)) else (none)) = some r := by first | (rw [hji42] at H; exact H) | (simp only [hji42] at H ⊢; exact H)
           have hji42w : (IntKind.i64.wrap ((l0.length : Int) - 1)) = ji42 := (i64_w _).trans hji42
           by_cases c43 : 0 ≤ (ji42)
           ·
            rw [if_pos c43] at H
            have c43b0 : decide (0 ≤ (ji42)) = true := decide_eq_true c43
            clear c43
            by_cases c44 : (ji42) < (y226.length : Int)
            ·
             rw [if_pos c44] at H
             have c44b0 : decide ((ji42) < (y226.length : Int)) = true := decide_eq_true c44
             clear c44
             obtain ⟨y231, hy231⟩ : ∃ y_ : List (S70), y_ = (y226.set ((ji42) : Int).toNat (⟨(rd_T70 y226 (ji42)).f0, wrap64 (((rd_T70 y226 (ji42)).f1) + a2), (rd_T70 y226 (ji42)).f2⟩ : S70)) := ⟨_, rfl⟩
             replace H : (if ((rd_T70 y231 (ji42)).f2).size + a3.size ≤ 9223372036854775807 then (some (y231.set ((ji42) : Int).toNat (⟨(rd_T70 y231 (ji42)).f0, (rd_T70 y231 (ji42)).f1, ((rd_T70 y231 (ji42)).f2) ++ a3⟩ : S70))) else (none)) = some r := by first | (rw [hy231]; with_reducible exact H) | (have H2_ := (Option.bind_some _ _).symm.trans H; rw [hy231]; with_reducible exact H2_) | (have H2_ := (Option.bind_some _ _).symm.trans H; with_reducible exact H2_) | with_reducible exact H | (rw [hy231]; exact H) | exact H
             have Ny231 := Aside0.mk hy231
             clear hy231
             by_cases c46 : ((rd_T70 y231 (ji42)).f2).size + a3.size ≤ 9223372036854775807
             ·
              rw [if_pos c46] at H
              have c46b0 := eq_true c46
              have c46b1 : decide (((rd_T70 y231 (ji42)).f2).size + a3.size ≤ 9223372036854775807) = true := decide_eq_true c46
              try have c46b2 : (9223372036854775807 < ((rd_T70 y231 (ji42)).f2).size + a3.size) = False := eq_false (Nat.not_lt.2 c46)
              obtain ⟨y233, hy233⟩ : ∃ y_ : List (S70), y_ = (y231.set ((ji42) : Int).toNat (⟨(rd_T70 y231 (ji42)).f0, (rd_T70 y231 (ji42)).f1, ((rd_T70 y231 (ji42)).f2) ++ a3⟩ : S70)) := ⟨_, rfl⟩
              replace H : (some y233) = some r := by first | (rw [hy233]; with_reducible exact H) | (have H2_ := (Option.bind_some _ _).symm.trans H; rw [hy233]; with_reducible exact H2_) | (have H2_ := (Option.bind_some _ _).symm.trans H; with_reducible exact H2_) | with_reducible exact H | (rw [hy233]; exact H) | exact H
              have Ny233 := Aside0.mk hy233
              clear hy233
              obtain rfl := Option.some.inj H
              obtain ⟨Ao48, co48, eo48⟩ := Kd.R_slice HO_12.out
              subst eo48
              have p230 : 0 ≤ ((ji42) : Int) := of_decide_eq_true (by first | (with_reducible assumption) | assumption)
              have q230 : (ji42) < (y226.length : Int) := of_decide_eq_true (by first | (with_reducible assumption) | assumption)
              obtain ⟨ad230, e230, hx230_0, hx230_1, hx230_2⟩ := at_T70 (Kd.R_reads' HO_12.out).2.2 (ji42) p230 q230
              cases e230
              replace p230 := eq_true p230
              replace q230 := eq_true q230
              have p45 : 0 ≤ ((ji42) : Int) := of_decide_eq_true (by first | (with_reducible assumption) | assumption)
              have q45 : ((ji42) : Int) < ((y226.length : Int) : Int) := of_decide_eq_true (by first | (with_reducible assumption) | assumption)
              obtain ⟨go45, co45, eo45, gb45, gl45, cl45, HG45⟩ := Kd.R_form HO_12.out (by omega)
              (first | cases eo45 | (injection eo45 with ea_ en_ ec_; (first | subst ea_ | (injection ea_ with ea_; subst ea_)); subst ec_; clear en_))
              have GB45 := Aside0.mk gb45
              have GG45 := Aside0.mk HG45
              clear gb45 gl45 HG45
              have HMgo45 := Aside0.mk (show (P0_ go45 ∨ w.heap.size ≤ go45) from (HO_12.out.1 _ rfl))
              (first | simp only [add_plain] at hx230_0 | skip)
              (first | simp only [add_plain] at hx230_1 | skip)
              (first | simp only [add_plain] at hx230_2 | skip)
              obtain ⟨ce45, hcl45, hM45, hcc45, hfr45⟩ := Kd.R_elem HO_12.out z70 ((ji42) : Int) p45 q45
              obtain rfl := k70_openM hM45
              have hx45_0 : wc.cell? ⟨go45, ((ji42) : Int).toNat * 3, none⟩ = some (.int .i64 ((rd_T70 y226 (ji42)).f0)) := hcc45 0 _ rfl
              have hx45_1 : wc.cell? ⟨go45, ((ji42) : Int).toNat * 3 + 1, none⟩ = some (.int .i64 ((rd_T70 y226 (ji42)).f1)) := hcc45 1 _ rfl
              have hx45_2 : wc.cell? ⟨go45, ((ji42) : Int).toNat * 3 + 2, none⟩ = some (.string ((rd_T70 y226 (ji42)).f2)) := hcc45 2 _ rfl
              have hf45_0 : wc.frozen? ⟨go45, ((ji42) : Int).toNat * 3, none⟩ = false := hfr45 0
              have hf45_1 : wc.frozen? ⟨go45, ((ji42) : Int).toNat * 3 + 1, none⟩ = false := hfr45 1
              have hf45_2 : wc.frozen? ⟨go45, ((ji42) : Int).toNat * 3 + 2, none⟩ = false := hfr45 2
              clear hcl45 hcc45 hfr45 hM45
              replace p45 := eq_true p45
              replace q45 := eq_true q45
              have HX49 := Aside0.mk (show Kd.R k70 70 wc w0.heap.size (fun k_ => (P0_ k_ ∨ w.heap.size ≤ k_)) (.slice (some ⟨go45, 0, none⟩) y226.length co48) y226 from (by (with_reducible repeat (first | apply Kd.R_alloc | apply Kd.R_drewN | apply Kd.R_drew)); exact HO_12.out))
              obtain ⟨ce49, hcl49, hM49, hcc49, hfr49⟩ := Kd.R_elem HX49.out z70 ((ji42) : Int) (of_decide_eq_true (by first | (with_reducible assumption) | assumption)) (by have h_ : ((ji42) : Int) < ((y226.length : Int) : Int) := of_decide_eq_true (by first | (with_reducible assumption) | assumption); first | exact h_ | (have e_ := (Kd.R_reads' HO_12.out).1; omega) | simpa using h_)
              obtain rfl := k70_openM hM49
              have HP49 := Kd.R_seg HX49.out ((ji42) : Int) (of_decide_eq_true (by first | (with_reducible assumption) | assumption)) (by have h_ : ((ji42) : Int) < ((y226.length : Int) : Int) := of_decide_eq_true (by first | (with_reducible assumption) | assumption); first | exact h_ | (have e_ := (Kd.R_reads' HO_12.out).1; omega) | simpa using h_) (seg := [.int .i64 (wrap64 (((rd_T70 y226 (ji42)).f1) + a2))]) (j := 1) hcl49 hcc49 (show 2 ≤ 3 from by decide) (x' := (⟨(rd_T70 y226 (ji42)).f0, wrap64 (((rd_T70 y226 (ji42)).f1) + a2), (rd_T70 y226 (ji42)).f2⟩ : S70)) (k70_mkM _ _ _ (⟨(rd_T70 y226 (ji42)).f0, wrap64 (((rd_T70 y226 (ji42)).f1) + a2), (rd_T70 y226 (ji42)).f2⟩ : S70) ) (fun _ hk => hk)
              have hx49_1 := hcc49 1 _ rfl
              (try simp only [show (k70).sz = 3 from rfl, Nat.mul_one, Nat.add_zero] at hx49_1)
              have hf49_1 := hfr49 1
              (try simp only [show (k70).sz = 3 from rfl, Nat.mul_one, Nat.add_zero] at hf49_1)
              clear hcl49 hcc49 hfr49 hM49
              go_wp2_with (first | ((with_reducible refine gate_store (t := 3) (p := 86) rfl ?_); refine store_event (t := 3) (p := 86) (v := ?vo_w50) (w1 := (wc.setCell ⟨go45, ((ji42) : Int).toNat * 3 + 1, none⟩ (.int .i64 (wrap64 (((rd_T70 y226 (ji42)).f1) + a2))))) ?hg ?ho ?hn ?hr ?_; (case ho => rfl); (case hg => rfl); (case hn => rfl); (case hr => first | (go_simp; done) | (go_simp; rfl)); intro w50 hw; have hg : wc.grownBy w50 (some go45) := (by rw [hw]; exact HP49.2); have hp_ : Kd.R k70 70 w50 w0.heap.size (fun k_ => (P0_ k_ ∨ w.heap.size ≤ k_)) (.slice (some ⟨go45, 0, none⟩) y226.length co48) y231 := (by rw [hw, Ny231.out]; exact HP49.1); clear HP49; have n0_ := Aside0.mk (hp_); have n1_ := Aside0.mk ((by rw [hw]; exact below_set (HB.out) GB45.out : Below w0.heap.size w0 w50)); have n2_ := Aside0.mk (Kept.of_grown (S := (fun k_ => P0_ k_)) hg (by repeat (first | (with_reducible first | exact HK.out | apply Kept.alloc | apply Kept.drewN | apply Kept.drew) | exact HK.out)) (fun k_ e_ => (HO_12.out.1 k_ e_))); clear HO_12; clear HB; clear HK; have HO_12 := n0_; have HB := n1_; have HK := n2_; clear n0_ n1_ n2_; clear hg hw hp_; have p232 : 0 ≤ ((ji42) : Int) := of_decide_eq_true (by first | (with_reducible assumption) | assumption); have q232 : (ji42) < (y231.length : Int) := (by have h_ : ((ji42) : Int) < ((y226.length : Int) : Int) := of_decide_eq_true (by first | (with_reducible assumption) | assumption); first | (have e_ := (Kd.R_reads' HO_12.out).1; omega) | simpa only [Ny231.out, List.length_set] using h_); have ql232 : (((ji42) : Int) < ((y226.length : Int) : Int)) = True := eq_true (of_decide_eq_true (by first | (with_reducible assumption) | assumption)); obtain ⟨ad232, e232, hx232_0, hx232_1, hx232_2⟩ := at_T70 (Kd.R_reads' HO_12.out).2.2 (ji42) p232 q232; obtain rfl : (⟨go45, 0, none⟩ : Addr) = ad232 := (by injection e232); (first | simp only [add_plain] at hx232_0 | simp only [add_at] at hx232_0 | simp only [Addr.add, Nat.zero_add] at hx232_0 | skip); (first | simp only [add_plain] at hx232_1 | simp only [add_at] at hx232_1 | simp only [Addr.add, Nat.zero_add] at hx232_1 | skip); (first | simp only [add_plain] at hx232_2 | simp only [add_at] at hx232_2 | simp only [Addr.add, Nat.zero_add] at hx232_2 | skip); replace p232 := eq_true p232; replace q232 := eq_true q232; have p47 : 0 ≤ ((ji42) : Int) := of_decide_eq_true (by first | (with_reducible assumption) | assumption); have q47 : ((ji42) : Int) < ((y226.length : Int) : Int) := of_decide_eq_true (by first | (with_reducible assumption) | assumption); obtain ⟨ce47, hcl47, hM47, hcc47, hfr47⟩ := Kd.R_elem HO_12.out z70 ((ji42) : Int) p47 q47; obtain rfl := k70_openM hM47; have hx47_0 : w50.cell? ⟨go45, ((ji42) : Int).toNat * 3, none⟩ = some (.int .i64 ((rd_T70 y231 (ji42)).f0)) := hcc47 0 _ rfl; have hx47_1 : w50.cell? ⟨go45, ((ji42) : Int).toNat * 3 + 1, none⟩ = some (.int .i64 ((rd_T70 y231 (ji42)).f1)) := hcc47 1 _ rfl; have hx47_2 : w50.cell? ⟨go45, ((ji42) : Int).toNat * 3 + 2, none⟩ = some (.string ((rd_T70 y231 (ji42)).f2)) := hcc47 2 _ rfl; have hf47_0 : w50.frozen? ⟨go45, ((ji42) : Int).toNat * 3, none⟩ = false := hfr47 0; have hf47_1 : w50.frozen? ⟨go45, ((ji42) : Int).toNat * 3 + 1, none⟩ = false := hfr47 1; have hf47_2 : w50.frozen? ⟨go45, ((ji42) : Int).toNat * 3 + 2, none⟩ = false := hfr47 2; clear hcl47 hcc47 hfr47 hM47; replace p47 := eq_true p47; replace q47 := eq_true q47; have HX51 := Aside0.mk (show Kd.R k70 70 w50 w0.heap.size (fun k_ => (P0_ k_ ∨ w.heap.size ≤ k_)) (.slice (some ⟨go45, 0, none⟩) y226.length co48) y231 from (by (with_reducible repeat (first | apply Kd.R_alloc | apply Kd.R_drewN | apply Kd.R_drew)); exact HO_12.out)); obtain ⟨ce51, hcl51, hM51, hcc51, hfr51⟩ := Kd.R_elem HX51.out z70 ((ji42) : Int) (of_decide_eq_true (by first | (with_reducible assumption) | assumption)) (by have h_ : ((ji42) : Int) < ((y226.length : Int) : Int) := of_decide_eq_true (by first | (with_reducible assumption) | assumption); first | exact h_ | (have e_ := (Kd.R_reads' HO_12.out).1; omega) | simpa using h_); obtain rfl := k70_openM hM51; have HP51 := Kd.R_seg HX51.out ((ji42) : Int) (of_decide_eq_true (by first | (with_reducible assumption) | assumption)) (by have h_ : ((ji42) : Int) < ((y226.length : Int) : Int) := of_decide_eq_true (by first | (with_reducible assumption) | assumption); first | exact h_ | (have e_ := (Kd.R_reads' HO_12.out).1; omega) | simpa using h_) (seg := [.string (((rd_T70 y231 (ji42)).f2) ++ a3)]) (j := 2) hcl51 hcc51 (show 3 ≤ 3 from by decide) (x' := (⟨(rd_T70 y231 (ji42)).f0, (rd_T70 y231 (ji42)).f1, ((rd_T70 y231 (ji42)).f2) ++ a3⟩ : S70)) (k70_mkM _ _ _ (⟨(rd_T70 y231 (ji42)).f0, (rd_T70 y231 (ji42)).f1, ((rd_T70 y231 (ji42)).f2) ++ a3⟩ : S70) ) (fun _ hk => hk); have hx51_2 := hcc51 2 _ rfl; (try simp only [show (k70).sz = 3 from rfl, Nat.mul_one, Nat.add_zero] at hx51_2); have hf51_2 := hfr51 2; (try simp only [show (k70).sz = 3 from rfl, Nat.mul_one, Nat.add_zero] at hf51_2); clear hcl51 hcc51 hfr51 hM51) | ((with_reducible refine gate_store (t := 9) (p := 97) rfl ?_); refine store_event (t := 9) (p := 97) (v := ?vo_w52) (w1 := (w50.setCell ⟨go45, ((ji42) : Int).toNat * 3 + 2, none⟩ (.string (((rd_T70 y231 (ji42)).f2) ++ a3)))) ?hg ?ho ?hn ?hr ?_; (case ho => rfl); (case hg => rfl); (case hn => rfl); (case hr => first | (go_simp; done) | (go_simp; rfl)); intro w52 hw; have hg : w50.grownBy w52 (some go45) := (by rw [hw]; exact HP51.2); have hp_ : Kd.R k70 70 w52 w0.heap.size (fun k_ => (P0_ k_ ∨ w.heap.size ≤ k_)) (.slice (some ⟨go45, 0, none⟩) y226.length co48) y233 := (by rw [hw, Ny233.out]; exact HP51.1); clear HP51; have n0_ := Aside0.mk (hp_); have n1_ := Aside0.mk ((by rw [hw]; exact below_set (HB.out) GB45.out : Below w0.heap.size w0 w52)); have n2_ := Aside0.mk (Kept.of_grown (S := (fun k_ => P0_ k_)) hg (by repeat (first | (with_reducible first | exact HK.out | apply Kept.alloc | apply Kept.drewN | apply Kept.drew) | exact HK.out)) (fun k_ e_ => (HO_12.out.1 k_ e_))); clear HO_12; clear HB; clear HK; have HO_12 := n0_; have HB := n1_; have HK := n2_; clear n0_ n1_ n2_; clear hg hw hp_))
              go_ret
              exact ⟨_, by first | rfl | (simp [errW_none, errW_some] <;> rfl) | (simp only [← hji42]; first | rfl | (simp [errW_none, errW_some] <;> rfl)) | (simp [*, errW_none, errW_some] <;> rfl), by (with_reducible repeat (first | apply Kd.R_alloc | apply Kd.R_drewN | apply Kd.R_drew)); exact HO_12.out, by repeat (first | (with_reducible first | exact HB.out | apply below_alloc | apply pw_below_drewN | apply below_drew1) | exact HB.out), by repeat (first | (with_reducible first | exact HK.out | apply Kept.alloc | apply Kept.drewN | apply Kept.drew) | exact HK.out)⟩
             ·
              rw [if_neg c46] at H
              exact absurd H (by simp)
            ·
             rw [if_neg c44] at H
             exact absurd H (by simp)
           ·
            rw [if_neg c43] at H
            exact absurd H (by simp)
          ·
           replace c41 := Bool.eq_false_iff.mpr c41
           subst c41
           have H1 : (if a1 = 2 then (if y226.length < 4398046511104 then (some (y226 ++ [(⟨2, 0, a3⟩ : S70)])) else (none)) else (if y226.length < 4398046511104 then (some (y226 ++ [(⟨a1, a2, (⟨#[]⟩ : ByteArray)⟩ : S70)])) else (none))) = some r := by rw [if_neg (show ¬ (false = true) by decide)] at H; exact H
           clear H
           have H := H1
           clear H1
           by_cases c53 : a1 = 2
           ·
            rw [if_pos c53] at H
            have c53b0 : (a1 == 2) = true := beq_iff_eq.mpr c53
            have c53b1 : (a1 != 2) = false := bne_eq_false_iff_eq.mpr c53
            clear c53
            by_cases c54 : y226.length < 4398046511104
            ·
             rw [if_pos c54] at H
             have LMc54 := Aside0.mk c54
             clear c54
             obtain ⟨y234, hy234⟩ : ∃ y_ : List (S70), y_ = (y226 ++ [(⟨2, 0, a3⟩ : S70)]) := ⟨_, rfl⟩
             replace H : (some y234) = some r := by first | (rw [hy234]; with_reducible exact H) | (have H2_ := (Option.bind_some _ _).symm.trans H; rw [hy234]; with_reducible exact H2_) | (have H2_ := (Option.bind_some _ _).symm.trans H; with_reducible exact H2_) | with_reducible exact H | (rw [hy234]; exact H) | exact H
             have Ny234 := Aside0.mk hy234
             clear hy234
             obtain rfl := Option.some.inj H
             go_wp2_with (first | ((with_reducible refine gate_builtin (b := .append) (xs := #[.tmp 101, .tmp 104]) rfl ?_); at_builtin; refine Kd.R_append k70 (w0 := w0) w0.heap.size rfl (.tmp 101) (.tmp 104) 25 70 (.agg #[(.int .i64 0), (.int .i64 0), (.string ⟨#[]⟩)]) 32 rfl Try.underlying25 info70 rfl (by decide) (by omega) v227 y226 (⟨2, 0, a3⟩ : S70) [.int .i64 2, .int .i64 0, .string a3] (fun k_ => (P0_ k_ ∨ w.heap.size ≤ k_)) (fun _ => False) rfl rfl ?aP (fun _ hk => hk.elim) ?aF ?aO ?aB ?aS ?aL ?_; (case aP => exact k70_mkM _ _ _ (⟨2, 0, a3⟩ : S70)); (case aB => exact (by repeat (first | (with_reducible first | exact HB.out | apply below_alloc | apply pw_below_drewN | apply below_drew1) | exact HB.out))); (case aF => exact (fun k_ hk => (.inr (Nat.le_trans (by first | exact HK.out.1 | exact (show Kept w _ (fun k_ => P0_ k_) from by repeat (first | (with_reducible first | exact HK.out | apply Kept.alloc | apply Kept.drewN | apply Kept.drew) | exact HK.out)).1) hk)))); (case aO => exact (by (with_reducible repeat (first | apply Kd.R_alloc | apply Kd.R_drewN | apply Kd.R_drew)); exact HO_12.out)); (case aS => exact (below_size (by repeat (first | (with_reducible first | exact HB.out | apply below_alloc | apply pw_below_drewN | apply below_drew1) | exact HB.out)))); (case aL => have := LMc54.out; omega); intro v235 w55 ho hb hg hat; rw [← Ny234.out] at ho; have n0_ := Aside0.mk (hb); have n1_ := Aside0.mk (Kept.of_grown (S := (fun k_ => P0_ k_)) hg (by repeat (first | (with_reducible first | exact HK.out | apply Kept.alloc | apply Kept.drewN | apply Kept.drew) | exact HK.out)) (fun k_ e_ => (HO_12.out.1 k_ e_))); have n2_ := Aside0.mk (ho); clear HB; clear HK; clear HO_12; have HB := n0_; have HK := n1_; have HO236 := n2_; clear n0_ n1_ n2_; clear ho hb hg hat))
             go_ret
             exact ⟨_, by first | rfl | (simp [errW_none, errW_some] <;> rfl) | (simp [*, errW_none, errW_some] <;> rfl), by (with_reducible repeat (first | apply Kd.R_alloc | apply Kd.R_drewN | apply Kd.R_drew)); exact HO236.out, by repeat (first | (with_reducible first | exact HB.out | apply below_alloc | apply pw_below_drewN | apply below_drew1) | exact HB.out), by repeat (first | (with_reducible first | exact HK.out | apply Kept.alloc | apply Kept.drewN | apply Kept.drew) | exact HK.out)⟩
            ·
             rw [if_neg c54] at H
             exact absurd H (by simp)
           ·
            rw [if_neg c53] at H
            have c53b0 : (a1 == 2) = false := beq_eq_false_iff_ne.mpr c53
            have c53b1 : (a1 != 2) = true := bne_iff_ne.mpr c53
            by_cases c56 : y226.length < 4398046511104
            ·
             rw [if_pos c56] at H
             have LMc56 := Aside0.mk c56
             clear c56
             obtain ⟨y237, hy237⟩ : ∃ y_ : List (S70), y_ = (y226 ++ [(⟨a1, a2, (⟨#[]⟩ : ByteArray)⟩ : S70)]) := ⟨_, rfl⟩
             replace H : (some y237) = some r := by first | (rw [hy237]; with_reducible exact H) | (have H2_ := (Option.bind_some _ _).symm.trans H; rw [hy237]; with_reducible exact H2_) | (have H2_ := (Option.bind_some _ _).symm.trans H; with_reducible exact H2_) | with_reducible exact H | (rw [hy237]; exact H) | exact H
             have Ny237 := Aside0.mk hy237
             clear hy237
             obtain rfl := Option.some.inj H
             go_wp2_with (first | ((with_reducible refine gate_builtin (b := .append) (xs := #[.tmp 106, .tmp 110]) rfl ?_); at_builtin; refine Kd.R_append k70 (w0 := w0) w0.heap.size rfl (.tmp 106) (.tmp 110) 25 70 (.agg #[(.int .i64 0), (.int .i64 0), (.string ⟨#[]⟩)]) 32 rfl Try.underlying25 info70 rfl (by decide) (by omega) v227 y226 (⟨a1, a2, (⟨#[]⟩ : ByteArray)⟩ : S70) [.int .i64 a1, .int .i64 a2, .string (⟨#[]⟩ : ByteArray)] (fun k_ => (P0_ k_ ∨ w.heap.size ≤ k_)) (fun _ => False) rfl rfl ?aP (fun _ hk => hk.elim) ?aF ?aO ?aB ?aS ?aL ?_; (case aP => exact k70_mkM _ _ _ (⟨a1, a2, (⟨#[]⟩ : ByteArray)⟩ : S70)); (case aB => exact (by repeat (first | (with_reducible first | exact HB.out | apply below_alloc | apply pw_below_drewN | apply below_drew1) | exact HB.out))); (case aF => exact (fun k_ hk => (.inr (Nat.le_trans (by first | exact HK.out.1 | exact (show Kept w _ (fun k_ => P0_ k_) from by repeat (first | (with_reducible first | exact HK.out | apply Kept.alloc | apply Kept.drewN | apply Kept.drew) | exact HK.out)).1) hk)))); (case aO => exact (by (with_reducible repeat (first | apply Kd.R_alloc | apply Kd.R_drewN | apply Kd.R_drew)); exact HO_12.out)); (case aS => exact (below_size (by repeat (first | (with_reducible first | exact HB.out | apply below_alloc | apply pw_below_drewN | apply below_drew1) | exact HB.out)))); (case aL => have := LMc56.out; omega); intro v238 w57 ho hb hg hat; rw [← Ny237.out] at ho; have n0_ := Aside0.mk (hb); have n1_ := Aside0.mk (Kept.of_grown (S := (fun k_ => P0_ k_)) hg (by repeat (first | (with_reducible first | exact HK.out | apply Kept.alloc | apply Kept.drewN | apply Kept.drew) | exact HK.out)) (fun k_ e_ => (HO_12.out.1 k_ e_))); have n2_ := Aside0.mk (ho); clear HB; clear HK; clear HO_12; have HB := n0_; have HK := n1_; have HO239 := n2_; clear n0_ n1_ n2_; clear ho hb hg hat))
             go_ret
             exact ⟨_, by first | rfl | (simp [errW_none, errW_some] <;> rfl) | (simp [*, errW_none, errW_some] <;> rfl), by (with_reducible repeat (first | apply Kd.R_alloc | apply Kd.R_drewN | apply Kd.R_drew)); exact HO239.out, by repeat (first | (with_reducible first | exact HB.out | apply below_alloc | apply pw_below_drewN | apply below_drew1) | exact HB.out), by repeat (first | (with_reducible first | exact HK.out | apply Kept.alloc | apply Kept.drewN | apply Kept.drew) | exact HK.out)⟩
            ·
             rw [if_neg c56] at H
             exact absurd H (by simp)
       ·
        rw [if_neg c32] at H
        exact absurd H (by simp)

/-! ### galleyref13_Invert: function 32 -/
def galleyref13_Invert.l0 : Nat → List Int → List (S70) → List (S70) → Int → Int → Option ((List (S70)))
 | 0, _, _, _, _, _ => none
 | k + 1, x0, x1, x5, x6, x7 => if x7 < (x1.length : Int) then (if 0 ≤ x7 then (if ((rd_T70 x1 x7).f0) = 1 then ((galleyref13_add.f k x5 1 ((rd_T70 x1 x7).f1) (⟨#[]⟩ : ByteArray)).bind fun t242 => (galleyref13_Invert.l0 k x0 x1 t242 (wrap64 (x6 + ((rd_T70 x1 x7).f1))) (wrap64 (x7 + 1)))) else (if ((rd_T70 x1 x7).f0) = 3 then (if 0 ≤ x6 then (if x6 ≤ (wrap64 (x6 + ((rd_T70 x1 x7).f1))) then (if (wrap64 (x6 + ((rd_T70 x1 x7).f1))) ≤ (x0.length : Int) then ((galleyref13_add.f k x5 2 0 (strOfNums ((x0.take ((wrap64 (x6 + ((rd_T70 x1 x7).f1))) : Int).toNat).drop (x6 : Int).toNat))).bind fun t248 => (galleyref13_Invert.l0 k x0 x1 t248 (wrap64 (x6 + ((rd_T70 x1 x7).f1))) (wrap64 (x7 + 1)))) else (none)) else (none)) else (none)) else ((galleyref13_add.f k x5 3 (((rd_T70 x1 x7).f2).size : Int) (⟨#[]⟩ : ByteArray)).bind fun t253 => (galleyref13_Invert.l0 k x0 x1 t253 x6 (wrap64 (x7 + 1)))))) else (none)) else (some x5)
def galleyref13_Invert.f (k : Nat) (l0 : List Int) (l1 : List (S70)) : Option ((List (S70))) := galleyref13_Invert.l0 k l0 l1 ([] : List (S70)) 0 0
set_option maxHeartbeats 8000000 in
set_option maxRecDepth 100000 in
theorem galleyref13_Invert.calls (k : Nat) (A0 : Option Addr) (c0 : Nat) (l0 : List Int) (A1 : Option Addr) (c1 : Nat) (l1 : List (S70)) (r : List (S70)) (w : World) (hr0 : Kd.C (Kd.int .u8) w A0 l0.length l0) (hc0 : l0.length ≤ c0) (hr1 : Kd.C k70 w A1 l1.length l1) (hc1 : l1.length ≤ c1) (h : galleyref13_Invert.f k l0 l1 = some r) :
  Calls Try.prog 32 #[.slice A0 l0.length c0, .slice A1 l1.length c1] w fun e w' => ∃ v0_ : Value, e = .returned (v0_) ∧ Kd.R k70 70 w' w.heap.size (fun _ => True) v0_ r ∧ Below w.heap.size w w' := by
 have HR0 := Aside0.mk hr0
 have HC0 := Aside0.mk hc0
 clear hr0 hc0
 have HR1 := Aside0.mk hr1
 have HC1 := Aside0.mk hc1
 clear hr1 hc1
 have HB := Aside0.mk (Below.refl w.heap.size w)
 have H : (galleyref13_Invert.l0 k l0 l1 ([] : List (S70)) 0 0) = some r := h
 clear h
 have H' := Aside0.mk H
 clear H
 go_enter Try.func32, Try.ntmps32
 go_wp2
 go_loopg [5, 6, 7] k (fun kq v5 v6 v7 w' => ∃ (x5_1 : List (S70)) (x6_1 : Int) (x7_1 : Int), v6 = .int .i64 x6_1 ∧ v7 = .int .i64 x7_1 ∧ Aside0 (galleyref13_Invert.l0 kq l0 l1 x5_1 x6_1 x7_1 = some r) ∧ Aside0 (kq ≤ k) ∧ Aside0 (Kd.R k70 70 w' w.heap.size (fun _ => True) v5 x5_1) ∧ Aside0 (Below w.heap.size w w'))
 case atStart => exact ⟨(([] : List (S70))), (0), (0), (by first | rfl | (simp; done) | (simp [*]; done) | (simp; exact isEmpty_bne _)), (by first | rfl | (simp; done) | (simp [*]; done) | (simp; exact isEmpty_bne _)), H', ⟨Nat.le_refl _⟩, ⟨by first | exact Kd.R_nil _ _ _ _ _ | exact Kd.N_nil _ _ _ _ _ | exact Kd.V_nil _ _ _ _ _ | exact Kd.Q_nil _ _ _ _ _ | exact Kd.S_nil _ _ _ _ _⟩, ⟨by repeat (first | (with_reducible first | exact HB.out | apply below_alloc | apply pw_below_drewN | apply below_drew1) | exact HB.out)⟩⟩
 case round =>
  clear H'
  (try clear c1); (try clear p2)
  obtain ⟨x5_1, x6_1, x7_1, rfl, rfl, HA, HK1, HO_5, HB⟩ := hrel
  cases gk with
  | zero => exact absurd HA.out (by simp [galleyref13_Invert.l0])
  | succ k1 =>
   have H := HA.out
   clear HA
   simp only [galleyref13_Invert.l0] at H
   by_cases c3 : x7_1 < (l1.length : Int)
   ·
    rw [if_pos c3] at H
    have c3b0 : decide (x7_1 < (l1.length : Int)) = true := decide_eq_true c3
    clear c3
    by_cases c4 : 0 ≤ x7_1
    ·
     rw [if_pos c4] at H
     have c4b0 : decide (0 ≤ x7_1) = true := decide_eq_true c4
     clear c4
     by_cases c5 : ((rd_T70 l1 x7_1).f0) = 1
     ·
      rw [if_pos c5] at H
      have c5b0 : (((rd_T70 l1 x7_1).f0) == 1) = true := beq_iff_eq.mpr c5
      have c5b1 : (((rd_T70 l1 x7_1).f0) != 1) = false := bne_eq_false_iff_eq.mpr c5
      clear c5
      replace H := Option.bind_eq_some_iff.mp H
      obtain ⟨t242, A60, H⟩ := H
      replace H : (galleyref13_Invert.l0 k1 l0 l1 t242 (wrap64 (x6_1 + ((rd_T70 l1 x7_1).f1))) (wrap64 (x7_1 + 1))) = some r := H
      have A6 := Aside0.mk A60
      clear A60
      have H' := Aside0.mk H
      clear H
      have p240 : 0 ≤ (x7_1 : Int) := of_decide_eq_true (by first | (with_reducible assumption) | assumption)
      have q240 : x7_1 < (l1.length : Int) := of_decide_eq_true (by first | (with_reducible assumption) | assumption)
      obtain ⟨ad240, e240, hx240_0, hx240_1, hx240_2⟩ := at_T70 HR1.out x7_1 p240 q240
      cases e240
      replace hx240_0 := (HB.out.cell (World.block_lt_of_cell? w _ hx240_0)).trans hx240_0
      replace hx240_1 := (HB.out.cell (World.block_lt_of_cell? w _ hx240_1)).trans hx240_1
      replace hx240_2 := (HB.out.cell (World.block_lt_of_cell? w _ hx240_2)).trans hx240_2
      replace p240 := eq_true p240
      replace q240 := eq_true q240
      have p241 : 0 ≤ (x7_1 : Int) := of_decide_eq_true (by first | (with_reducible assumption) | assumption)
      have q241 : x7_1 < (l1.length : Int) := of_decide_eq_true (by first | (with_reducible assumption) | assumption)
      obtain ⟨ad241, e241, hx241_0, hx241_1, hx241_2⟩ := at_T70 HR1.out x7_1 p241 q241
      obtain rfl : ad240 = ad241 := (by injection e241)
      replace hx241_0 := (HB.out.cell (World.block_lt_of_cell? w _ hx241_0)).trans hx241_0
      replace hx241_1 := (HB.out.cell (World.block_lt_of_cell? w _ hx241_1)).trans hx241_1
      replace hx241_2 := (HB.out.cell (World.block_lt_of_cell? w _ hx241_2)).trans hx241_2
      replace p241 := eq_true p241
      replace q241 := eq_true q241
      obtain ⟨Ao7, co7, eo7⟩ := Kd.R_slice HO_5.out
      subst eo7
      go_wp2_with (first | ((with_reducible refine gate_callee (f := 78) rfl ?_); refine goesL_ (some 35) rfl rfl Try.func78 (by kernel_rfl) rfl #[.slice Ao7 x5_1.length co7, .int .i64 1, .int .i64 ((rd_T70 l1 x7_1).f1), .string (⟨#[]⟩ : ByteArray)] rfl (by (try simp only [List.map_toArray, List.map_cons, List.map_nil]); first | done | rfl | (simp only [List.length_drop, List.length_take]; rfl)) ?_; (with_reducible refine (galleyref13_add.calls k1 (fun k_ => some k_ = (.slice Ao7 x5_1.length co7 : Value).ownBlock) (.slice Ao7 x5_1.length co7) x5_1 1 ((rd_T70 l1 x7_1).f1) (⟨#[]⟩ : ByteArray) t242 w _ ?side1 ?side2 A6.out).mono ?_); (case side1 => repeat (first | (with_reducible first | exact HB.out | apply below_alloc | apply pw_below_drewN | apply below_drew1) | exact HB.out)); (case side2 => exact Kd.R_tight rfl HO_5.out); rintro e w8 ⟨v243, rfl, ho0, hb, hkp⟩; refine ⟨_, rfl, ?_⟩; have n0_ := Aside0.mk (Kd.R_mono (ok' := fun k_ => True) ho0 (fun k_ hk_ => trivial)); have n1_ := Aside0.mk (hb); clear HB; clear HO_5; have HO244 := n0_; have HB := n1_; clear n0_ n1_; (try clear hb); (try clear hkp); (try clear ho0); have p245 : 0 ≤ (x7_1 : Int) := of_decide_eq_true (by first | (with_reducible assumption) | assumption); have q245 : x7_1 < (l1.length : Int) := of_decide_eq_true (by first | (with_reducible assumption) | assumption); obtain ⟨ad245, e245, hx245_0, hx245_1, hx245_2⟩ := at_T70 HR1.out x7_1 p245 q245; obtain rfl : ad240 = ad245 := (by injection e245); replace hx245_0 := (HB.out.cell (World.block_lt_of_cell? w _ hx245_0)).trans hx245_0; replace hx245_1 := (HB.out.cell (World.block_lt_of_cell? w _ hx245_1)).trans hx245_1; replace hx245_2 := (HB.out.cell (World.block_lt_of_cell? w _ hx245_2)).trans hx245_2; replace p245 := eq_true p245; replace q245 := eq_true q245))
      go_roundg k1
      case measure => have := HK1.out; omega
      case rel => exact ⟨(t242), (wrap64 (x6_1 + ((rd_T70 l1 x7_1).f1))), (wrap64 (x7_1 + 1)), (by first | rfl | (simp; done) | (simp [*]; done) | (simp; exact isEmpty_bne _)), (by first | rfl | (simp; done) | (simp [*]; done) | (simp; exact isEmpty_bne _)), H', ⟨by have := HK1.out; omega⟩, ⟨by (with_reducible repeat (first | apply Kd.R_alloc | apply Kd.R_drewN | apply Kd.R_drew)); exact HO244.out⟩, ⟨by repeat (first | (with_reducible first | exact HB.out | apply below_alloc | apply pw_below_drewN | apply below_drew1) | exact HB.out)⟩⟩
     ·
      rw [if_neg c5] at H
      have c5b0 : (((rd_T70 l1 x7_1).f0) == 1) = false := beq_eq_false_iff_ne.mpr c5
      have c5b1 : (((rd_T70 l1 x7_1).f0) != 1) = true := bne_iff_ne.mpr c5
      by_cases c9 : ((rd_T70 l1 x7_1).f0) = 3
      ·
       rw [if_pos c9] at H
       have c9b0 : (((rd_T70 l1 x7_1).f0) == 3) = true := beq_iff_eq.mpr c9
       have c9b1 : (((rd_T70 l1 x7_1).f0) != 3) = false := bne_eq_false_iff_eq.mpr c9
       clear c9
       by_cases c10 : 0 ≤ x6_1
       ·
        rw [if_pos c10] at H
        have c10b0 := eq_true c10
        have c10b1 : decide (0 ≤ x6_1) = true := decide_eq_true c10
        clear c10
        by_cases c11 : x6_1 ≤ (wrap64 (x6_1 + ((rd_T70 l1 x7_1).f1)))
        ·
         rw [if_pos c11] at H
         have c11b0 := eq_true c11
         have c11b1 : decide (x6_1 ≤ (wrap64 (x6_1 + ((rd_T70 l1 x7_1).f1)))) = true := decide_eq_true c11
         by_cases c12 : (wrap64 (x6_1 + ((rd_T70 l1 x7_1).f1))) ≤ (l0.length : Int)
         ·
          rw [if_pos c12] at H
          have c12b0 := eq_true c12
          have c12b1 : decide ((wrap64 (x6_1 + ((rd_T70 l1 x7_1).f1))) ≤ (l0.length : Int)) = true := decide_eq_true c12
          replace H := Option.bind_eq_some_iff.mp H
          obtain ⟨t248, A130, H⟩ := H
          replace H : (galleyref13_Invert.l0 k1 l0 l1 t248 (wrap64 (x6_1 + ((rd_T70 l1 x7_1).f1))) (wrap64 (x7_1 + 1))) = some r := H
          have A13 := Aside0.mk A130
          clear A130
          have H' := Aside0.mk H
          clear H
          have p240 : 0 ≤ (x7_1 : Int) := of_decide_eq_true (by first | (with_reducible assumption) | assumption)
          have q240 : x7_1 < (l1.length : Int) := of_decide_eq_true (by first | (with_reducible assumption) | assumption)
          obtain ⟨ad240, e240, hx240_0, hx240_1, hx240_2⟩ := at_T70 HR1.out x7_1 p240 q240
          cases e240
          replace hx240_0 := (HB.out.cell (World.block_lt_of_cell? w _ hx240_0)).trans hx240_0
          replace hx240_1 := (HB.out.cell (World.block_lt_of_cell? w _ hx240_1)).trans hx240_1
          replace hx240_2 := (HB.out.cell (World.block_lt_of_cell? w _ hx240_2)).trans hx240_2
          replace p240 := eq_true p240
          replace q240 := eq_true q240
          have p246 : 0 ≤ (x7_1 : Int) := of_decide_eq_true (by first | (with_reducible assumption) | assumption)
          have q246 : x7_1 < (l1.length : Int) := of_decide_eq_true (by first | (with_reducible assumption) | assumption)
          obtain ⟨ad246, e246, hx246_0, hx246_1, hx246_2⟩ := at_T70 HR1.out x7_1 p246 q246
          obtain rfl : ad240 = ad246 := (by injection e246)
          replace hx246_0 := (HB.out.cell (World.block_lt_of_cell? w _ hx246_0)).trans hx246_0
          replace hx246_1 := (HB.out.cell (World.block_lt_of_cell? w _ hx246_1)).trans hx246_1
          replace hx246_2 := (HB.out.cell (World.block_lt_of_cell? w _ hx246_2)).trans hx246_2
          replace p246 := eq_true p246
          replace q246 := eq_true q246
          obtain ⟨i014, hi014, _, hsz14, _⟩ := info_parts info5
          obtain ⟨A14, hcut14, hA14, hC14⟩ := print_mid_of (P := Try.prog) (Value.int .u8) 0 23 5 .i64 .i64 Try.underlying23 hi014 hsz14 A0 c0 l0 x6_1 (wrap64 (x6_1 + ((rd_T70 l1 x7_1).f1))) (of_decide_eq_true (by first | (with_reducible assumption) | assumption)) (by first | omega | exact of_decide_eq_true (by first | (with_reducible assumption) | assumption)) (of_decide_eq_true (by first | (with_reducible assumption) | assumption)) HC0.out
          have HR247 := Aside0.mk (Kd.C_of_reads (h1 := fun _ => rfl) (hA14 _ (Kd.reads_of_C HR0.out)))
          have HC247 := Aside0.mk hC14
          clear hA14 hC14 hi014 hsz14
          have hcv15 := Kd.C_string (P := Try.prog) (A := A14) (c := (c0 - x6_1.toNat)) Try.underlying23 Try.underlying5 Try.underlying9 (Kd.C_below HR247.out HB.out)
          have hcv15b := hcv15
          rw [show ((l0.take ((wrap64 (x6_1 + ((rd_T70 l1 x7_1).f1))) : Int).toNat).drop (x6_1 : Int).toNat).length = (wrap64 (x6_1 + ((rd_T70 l1 x7_1).f1))).toNat - x6_1.toNat from by rw [List.length_drop, List.length_take]; have := of_eq_true c12b0; omega] at hcv15b
          obtain ⟨Ao16, co16, eo16⟩ := Kd.R_slice HO_5.out
          subst eo16
          go_wp2_with (first | ((with_reducible refine gate_callee (f := 78) rfl ?_); refine goesL_ (some 57) rfl rfl Try.func78 (by kernel_rfl) rfl #[.slice Ao16 x5_1.length co16, .int .i64 2, .int .i64 0, .string (strOfNums ((l0.take ((wrap64 (x6_1 + ((rd_T70 l1 x7_1).f1))) : Int).toNat).drop (x6_1 : Int).toNat))] rfl (by (try simp only [List.map_toArray, List.map_cons, List.map_nil]); first | done | rfl | (simp only [List.length_drop, List.length_take]; rfl)) ?_; (with_reducible refine (galleyref13_add.calls k1 (fun k_ => some k_ = (.slice Ao16 x5_1.length co16 : Value).ownBlock) (.slice Ao16 x5_1.length co16) x5_1 2 0 (strOfNums ((l0.take ((wrap64 (x6_1 + ((rd_T70 l1 x7_1).f1))) : Int).toNat).drop (x6_1 : Int).toNat)) t248 w _ ?side1 ?side2 A13.out).mono ?_); (case side1 => repeat (first | (with_reducible first | exact HB.out | apply below_alloc | apply pw_below_drewN | apply below_drew1) | exact HB.out)); (case side2 => exact Kd.R_tight rfl HO_5.out); rintro e w17 ⟨v249, rfl, ho0, hb, hkp⟩; refine ⟨_, rfl, ?_⟩; have n0_ := Aside0.mk (Kd.R_mono (ok' := fun k_ => True) ho0 (fun k_ hk_ => trivial)); have n1_ := Aside0.mk (hb); clear HB; clear HO_5; have HO250 := n0_; have HB := n1_; clear n0_ n1_; (try clear hb); (try clear hkp); (try clear ho0); have p251 : 0 ≤ (x7_1 : Int) := of_decide_eq_true (by first | (with_reducible assumption) | assumption); have q251 : x7_1 < (l1.length : Int) := of_decide_eq_true (by first | (with_reducible assumption) | assumption); obtain ⟨ad251, e251, hx251_0, hx251_1, hx251_2⟩ := at_T70 HR1.out x7_1 p251 q251; obtain rfl : ad240 = ad251 := (by injection e251); replace hx251_0 := (HB.out.cell (World.block_lt_of_cell? w _ hx251_0)).trans hx251_0; replace hx251_1 := (HB.out.cell (World.block_lt_of_cell? w _ hx251_1)).trans hx251_1; replace hx251_2 := (HB.out.cell (World.block_lt_of_cell? w _ hx251_2)).trans hx251_2; replace p251 := eq_true p251; replace q251 := eq_true q251))
          go_roundg k1
          case measure => have := HK1.out; omega
          case rel => exact ⟨(t248), (wrap64 (x6_1 + ((rd_T70 l1 x7_1).f1))), (wrap64 (x7_1 + 1)), (by first | rfl | (simp; done) | (simp [*]; done) | (simp; exact isEmpty_bne _)), (by first | rfl | (simp; done) | (simp [*]; done) | (simp; exact isEmpty_bne _)), H', ⟨by have := HK1.out; omega⟩, ⟨by (with_reducible repeat (first | apply Kd.R_alloc | apply Kd.R_drewN | apply Kd.R_drew)); exact HO250.out⟩, ⟨by repeat (first | (with_reducible first | exact HB.out | apply below_alloc | apply pw_below_drewN | apply below_drew1) | exact HB.out)⟩⟩
         ·
          rw [if_neg c12] at H
          exact absurd H (by simp)
        ·
         rw [if_neg c11] at H
         exact absurd H (by simp)
       ·
        rw [if_neg c10] at H
        exact absurd H (by simp)
      ·
       rw [if_neg c9] at H
       have c9b0 : (((rd_T70 l1 x7_1).f0) == 3) = false := beq_eq_false_iff_ne.mpr c9
       have c9b1 : (((rd_T70 l1 x7_1).f0) != 3) = true := bne_iff_ne.mpr c9
       replace H := Option.bind_eq_some_iff.mp H
       obtain ⟨t253, A180, H⟩ := H
       replace H : (galleyref13_Invert.l0 k1 l0 l1 t253 x6_1 (wrap64 (x7_1 + 1))) = some r := H
       have A18 := Aside0.mk A180
       clear A180
       have H' := Aside0.mk H
       clear H
       have p240 : 0 ≤ (x7_1 : Int) := of_decide_eq_true (by first | (with_reducible assumption) | assumption)
       have q240 : x7_1 < (l1.length : Int) := of_decide_eq_true (by first | (with_reducible assumption) | assumption)
       obtain ⟨ad240, e240, hx240_0, hx240_1, hx240_2⟩ := at_T70 HR1.out x7_1 p240 q240
       cases e240
       replace hx240_0 := (HB.out.cell (World.block_lt_of_cell? w _ hx240_0)).trans hx240_0
       replace hx240_1 := (HB.out.cell (World.block_lt_of_cell? w _ hx240_1)).trans hx240_1
       replace hx240_2 := (HB.out.cell (World.block_lt_of_cell? w _ hx240_2)).trans hx240_2
       replace p240 := eq_true p240
       replace q240 := eq_true q240
       have p252 : 0 ≤ (x7_1 : Int) := of_decide_eq_true (by first | (with_reducible assumption) | assumption)
       have q252 : x7_1 < (l1.length : Int) := of_decide_eq_true (by first | (with_reducible assumption) | assumption)
       obtain ⟨ad252, e252, hx252_0, hx252_1, hx252_2⟩ := at_T70 HR1.out x7_1 p252 q252
       obtain rfl : ad240 = ad252 := (by injection e252)
       replace hx252_0 := (HB.out.cell (World.block_lt_of_cell? w _ hx252_0)).trans hx252_0
       replace hx252_1 := (HB.out.cell (World.block_lt_of_cell? w _ hx252_1)).trans hx252_1
       replace hx252_2 := (HB.out.cell (World.block_lt_of_cell? w _ hx252_2)).trans hx252_2
       replace p252 := eq_true p252
       replace q252 := eq_true q252
       obtain ⟨Ao19, co19, eo19⟩ := Kd.R_slice HO_5.out
       subst eo19
       go_wp2_with (first | ((with_reducible refine gate_callee (f := 78) rfl ?_); refine goesL_ (some 26) rfl rfl Try.func78 (by kernel_rfl) rfl #[.slice Ao19 x5_1.length co19, .int .i64 3, .int .i64 (((rd_T70 l1 x7_1).f2).size : Int), .string (⟨#[]⟩ : ByteArray)] rfl (by (try simp only [List.map_toArray, List.map_cons, List.map_nil]); first | done | rfl | (simp only [List.length_drop, List.length_take]; rfl)) ?_; (with_reducible refine (galleyref13_add.calls k1 (fun k_ => some k_ = (.slice Ao19 x5_1.length co19 : Value).ownBlock) (.slice Ao19 x5_1.length co19) x5_1 3 (((rd_T70 l1 x7_1).f2).size : Int) (⟨#[]⟩ : ByteArray) t253 w _ ?side1 ?side2 A18.out).mono ?_); (case side1 => repeat (first | (with_reducible first | exact HB.out | apply below_alloc | apply pw_below_drewN | apply below_drew1) | exact HB.out)); (case side2 => exact Kd.R_tight rfl HO_5.out); rintro e w20 ⟨v254, rfl, ho0, hb, hkp⟩; refine ⟨_, rfl, ?_⟩; have n0_ := Aside0.mk (Kd.R_mono (ok' := fun k_ => True) ho0 (fun k_ hk_ => trivial)); have n1_ := Aside0.mk (hb); clear HB; clear HO_5; have HO255 := n0_; have HB := n1_; clear n0_ n1_; (try clear hb); (try clear hkp); (try clear ho0)))
       go_roundg k1
       case measure => have := HK1.out; omega
       case rel => exact ⟨(t253), (x6_1), (wrap64 (x7_1 + 1)), (by first | rfl | (simp; done) | (simp [*]; done) | (simp; exact isEmpty_bne _)), (by first | rfl | (simp; done) | (simp [*]; done) | (simp; exact isEmpty_bne _)), H', ⟨by have := HK1.out; omega⟩, ⟨by (with_reducible repeat (first | apply Kd.R_alloc | apply Kd.R_drewN | apply Kd.R_drew)); exact HO255.out⟩, ⟨by repeat (first | (with_reducible first | exact HB.out | apply below_alloc | apply pw_below_drewN | apply below_drew1) | exact HB.out)⟩⟩
    ·
     rw [if_neg c4] at H
     exact absurd H (by simp)
   ·
    rw [if_neg c3] at H
    have c3b0 : decide (x7_1 < (l1.length : Int)) = false := decide_eq_false c3
    clear c3
    obtain rfl := Option.some.inj H
    go_wp2
    go_ret
    exact ⟨_, by first | rfl | (simp [errW_none, errW_some] <;> rfl) | (simp [*, errW_none, errW_some] <;> rfl), by (with_reducible repeat (first | apply Kd.R_alloc | apply Kd.R_drewN | apply Kd.R_drew)); exact HO_5.out, by repeat (first | (with_reducible first | exact HB.out | apply below_alloc | apply pw_below_drewN | apply below_drew1) | exact HB.out)⟩

end Go.Proofs.Ytidihnnkcmeaeaa.A
