-- Written by a program over the translation (the kit's print, turned so that some functions are taken by contracts of this claim's own).
import Derived.Test.YtidihnnkcmeaeaaA0
import Derived.Test.YtidihnnkcmeaeaaB
namespace Go.Proofs.Ytidihnnkcmeaeaa.A
open Go.RowKit Go.Proofs.YtidihnnkcmeaeaaW.PrintWords Go.Proofs.YtidihnnkcmeaeaaW.PrintLast Go.Proofs.YtidihnnkcmeaeaaW.PrintMore
attribute [local go_sem] max2_int min2_int max_two min_two max_three min_three max_four min_four   -- for this text's walks alone
set_option linter.unusedVariables false
set_option linter.unusedSimpArgs false

/-! ### galleyref13_Changes: function 41 -/
def galleyref13_Changes.l0 : Nat → List (S70) → List (S91) → Int → Bool → Int → Option ((List (S91)))
  | 0, _, _, _, _, _ => none
  | k + 1, x0, x3, x4, x5, x6 => if x6 < (x0.length : Int) then (if 0 ≤ x6 then (if ((rd_T70 x0 x6).f0) = 1 then (galleyref13_Changes.l0 k x0 x3 (wrap64 (x4 + ((rd_T70 x0 x6).f1))) false (wrap64 (x6 + 1))) else (if x5 = true then (if ((rd_T70 x0 x6).f0) = 2 then (if 0 ≤ (wrap64 ((x3.length : Int) - 1)) then (if (wrap64 ((x3.length : Int) - 1)) < (x3.length : Int) then (galleyref13_Changes.l0 k x0 (x3.set ((wrap64 ((x3.length : Int) - 1)) : Int).toNat (⟨(rd_T91 x3 (wrap64 ((x3.length : Int) - 1))).f0, (rd_T91 x3 (wrap64 ((x3.length : Int) - 1))).f1, (rd_T70 x0 x6).f2⟩ : S91)) x4 x5 (wrap64 (x6 + 1))) else (none)) else (none)) else (if 0 ≤ (wrap64 ((x3.length : Int) - 1)) then (if (wrap64 ((x3.length : Int) - 1)) < (x3.length : Int) then (galleyref13_Changes.l0 k x0 (x3.set ((wrap64 ((x3.length : Int) - 1)) : Int).toNat (⟨(rd_T91 x3 (wrap64 ((x3.length : Int) - 1))).f0, wrap64 (x4 + ((rd_T70 x0 x6).f1)), (rd_T91 x3 (wrap64 ((x3.length : Int) - 1))).f2⟩ : S91)) (wrap64 (x4 + ((rd_T70 x0 x6).f1))) x5 (wrap64 (x6 + 1))) else (none)) else (none))) else (if x3.length < 4398046511104 then ((some (x3 ++ [(⟨x4, x4, (⟨#[]⟩ : ByteArray)⟩ : S91)] : List (S91))).bind fun y351 => (if ((rd_T70 x0 x6).f0) = 2 then (if 0 ≤ (wrap64 ((y351.length : Int) - 1)) then (if (wrap64 ((y351.length : Int) - 1)) < (y351.length : Int) then (galleyref13_Changes.l0 k x0 (y351.set ((wrap64 ((y351.length : Int) - 1)) : Int).toNat (⟨(rd_T91 y351 (wrap64 ((y351.length : Int) - 1))).f0, (rd_T91 y351 (wrap64 ((y351.length : Int) - 1))).f1, (rd_T70 x0 x6).f2⟩ : S91)) x4 true (wrap64 (x6 + 1))) else (none)) else (none)) else (if 0 ≤ (wrap64 ((y351.length : Int) - 1)) then (if (wrap64 ((y351.length : Int) - 1)) < (y351.length : Int) then (galleyref13_Changes.l0 k x0 (y351.set ((wrap64 ((y351.length : Int) - 1)) : Int).toNat (⟨(rd_T91 y351 (wrap64 ((y351.length : Int) - 1))).f0, wrap64 (x4 + ((rd_T70 x0 x6).f1)), (rd_T91 y351 (wrap64 ((y351.length : Int) - 1))).f2⟩ : S91)) (wrap64 (x4 + ((rd_T70 x0 x6).f1))) true (wrap64 (x6 + 1))) else (none)) else (none)))) else (none)))) else (none)) else (some x3)
def galleyref13_Changes.f (k : Nat) (l0 : List (S70)) : Option ((List (S91))) := galleyref13_Changes.l0 k l0 ([] : List (S91)) 0 false 0
theorem galleyref13_Changes.mono_l : ∀ k, (∀ y0 y1 y2 y3 y4, LeO (galleyref13_Changes.l0 k y0 y1 y2 y3 y4) (galleyref13_Changes.l0 (k + 1) y0 y1 y2 y3 y4))
  | 0 => fun _ _ _ _ _ r h => by simp [galleyref13_Changes.l0] at h
  | k + 1 => by
    have ih0 := galleyref13_Changes.mono_l k
    · intro y0 y1 y2 y3 y4
      unfold galleyref13_Changes.l0
      repeat' first
      | (with_reducible exact ih0 _ _ _ _ _)
      | (with_reducible exact LeO.refl _)
      | (with_reducible exact LeO.none _)
      | (with_reducible refine LeO.ite ?_ ?_)
      | (with_reducible refine LeO.bind ?_ (fun _ => ?_))
      | exact ih0 _ _ _ _ _
      | exact LeO.none _
      | refine LeO.ite ?_ ?_
      | refine LeO.bind ?_ (fun _ => ?_)
theorem galleyref13_Changes.mono : ∀ a0 k, LeO (galleyref13_Changes.f k a0) (galleyref13_Changes.f (k + 1) a0) := by
  intro a0 k
  have ih0 := galleyref13_Changes.mono_l k
  unfold galleyref13_Changes.f
  repeat' first
      | (with_reducible exact ih0 _ _ _ _ _)
      | (with_reducible exact LeO.refl _)
      | (with_reducible exact LeO.none _)
      | (with_reducible refine LeO.ite ?_ ?_)
      | (with_reducible refine LeO.bind ?_ (fun _ => ?_))
      | exact ih0 _ _ _ _ _
      | exact LeO.none _
      | refine LeO.ite ?_ ?_
      | refine LeO.bind ?_ (fun _ => ?_)
set_option maxHeartbeats 8000000 in
set_option maxRecDepth 100000 in
theorem galleyref13_Changes.calls (k : Nat) (A0 : Option Addr) (c0 : Nat) (l0 : List (S70)) (r : List (S91)) (w : World) (hr0 : Kd.C k70 w A0 l0.length l0) (hc0 : l0.length ≤ c0) (h : galleyref13_Changes.f k l0 = some r) :
    Calls Try.prog 41 #[.slice A0 l0.length c0] w fun e w' => ∃ v0_ : Value, e = .returned (v0_) ∧ Kd.R k91 91 w' w.heap.size (fun _ => True) v0_ r ∧ Below w.heap.size w w' := by
  have hu91 := Try.underlying91
  have HR0 := Aside0.mk hr0
  have HC0 := Aside0.mk hc0
  clear hr0 hc0
  have HB := Aside0.mk (Below.refl w.heap.size w)
  have H : (galleyref13_Changes.l0 k l0 ([] : List (S91)) 0 false 0) = some r := h
  clear h
  have H' := Aside0.mk H
  clear H
  go_enter Try.func41, Try.ntmps41
  go_wp2
  go_loopg [3, 4, 5, 6] k (fun kq v3 v4 v5 v6 w' => ∃ (x3_1 : List (S91)) (x4_1 : Int) (x5_1 : Bool) (x6_1 : Int), v4 = .int .i64 x4_1 ∧ v5 = .bool x5_1 ∧ v6 = .int .i64 x6_1 ∧ Aside0 (galleyref13_Changes.l0 kq l0 x3_1 x4_1 x5_1 x6_1 = some r) ∧ Aside0 (kq ≤ k) ∧ Aside0 (Kd.R k91 91 w' w.heap.size (fun _ => True) v3 x3_1) ∧ Aside0 (Below w.heap.size w w'))
  case atStart => exact ⟨(([] : List (S91))), (0), (false), (0), (by first | rfl | (simp; done) | (simp [*]; done) | (simp; exact isEmpty_bne _)), (by first | rfl | (simp; done) | (simp [*]; done) | (simp; exact isEmpty_bne _)), (by first | rfl | (simp; done) | (simp [*]; done) | (simp; exact isEmpty_bne _)), H', ⟨Nat.le_refl _⟩, ⟨by first | exact Kd.R_nil _ _ _ _ _ | exact Kd.N_nil _ _ _ _ _ | exact Kd.V_nil _ _ _ _ _ | exact Kd.Q_nil _ _ _ _ _ | exact Kd.S_nil _ _ _ _ _⟩, ⟨by repeat (first | (with_reducible first | exact HB.out | apply below_alloc | apply pw_below_drewN | apply below_drew1) | exact HB.out)⟩⟩
  case round =>
    clear H'
    obtain ⟨x3_1, x4_1, x5_1, x6_1, rfl, rfl, rfl, HA, HK1, HO_3, HB⟩ := hrel
    cases gk with
    | zero => exact absurd HA.out (by simp [galleyref13_Changes.l0])
    | succ k1 =>
      have H := HA.out
      clear HA
      simp only [galleyref13_Changes.l0] at H
      by_cases c2 : x6_1 < (l0.length : Int)
      · rw [if_pos c2] at H
        have c2b0 : decide (x6_1 < (l0.length : Int)) = true := decide_eq_true c2
        clear c2
        by_cases c3 : 0 ≤ x6_1
        · rw [if_pos c3] at H
          have c3b0 : decide (0 ≤ x6_1) = true := decide_eq_true c3
          clear c3
          by_cases c4 : ((rd_T70 l0 x6_1).f0) = 1
          · rw [if_pos c4] at H
            have c4b0 : (((rd_T70 l0 x6_1).f0) == 1) = true := beq_iff_eq.mpr c4
            have c4b1 : (((rd_T70 l0 x6_1).f0) != 1) = false := bne_eq_false_iff_eq.mpr c4
            clear c4
            have H' := Aside0.mk H
            clear H
            have p345 : 0 ≤ (x6_1 : Int) := of_decide_eq_true (by first | (with_reducible assumption) | assumption)
            have q345 : x6_1 < (l0.length : Int) := of_decide_eq_true (by first | (with_reducible assumption) | assumption)
            obtain ⟨ad345, e345, hx345_0, hx345_1, hx345_2⟩ := at_T70 HR0.out x6_1 p345 q345
            cases e345
            replace hx345_0 := (HB.out.cell (World.block_lt_of_cell? w _ hx345_0)).trans hx345_0
            replace hx345_1 := (HB.out.cell (World.block_lt_of_cell? w _ hx345_1)).trans hx345_1
            replace hx345_2 := (HB.out.cell (World.block_lt_of_cell? w _ hx345_2)).trans hx345_2
            replace p345 := eq_true p345
            replace q345 := eq_true q345
            have p346 : 0 ≤ (x6_1 : Int) := of_decide_eq_true (by first | (with_reducible assumption) | assumption)
            have q346 : x6_1 < (l0.length : Int) := of_decide_eq_true (by first | (with_reducible assumption) | assumption)
            obtain ⟨ad346, e346, hx346_0, hx346_1, hx346_2⟩ := at_T70 HR0.out x6_1 p346 q346
            obtain rfl : ad345 = ad346 := (by injection e346)
            replace hx346_0 := (HB.out.cell (World.block_lt_of_cell? w _ hx346_0)).trans hx346_0
            replace hx346_1 := (HB.out.cell (World.block_lt_of_cell? w _ hx346_1)).trans hx346_1
            replace hx346_2 := (HB.out.cell (World.block_lt_of_cell? w _ hx346_2)).trans hx346_2
            replace p346 := eq_true p346
            replace q346 := eq_true q346
            go_wp2
            go_roundg k1
            case measure => have := HK1.out; omega
            case rel => exact ⟨(x3_1), (wrap64 (x4_1 + ((rd_T70 l0 x6_1).f1))), (false), (wrap64 (x6_1 + 1)), (by first | rfl | (simp; done) | (simp [*]; done) | (simp; exact isEmpty_bne _)), (by first | rfl | (simp; done) | (simp [*]; done) | (simp; exact isEmpty_bne _)), (by first | rfl | (simp; done) | (simp [*]; done) | (simp; exact isEmpty_bne _)), H', ⟨by have := HK1.out; omega⟩, ⟨by (with_reducible repeat (first | apply Kd.R_alloc | apply Kd.R_drewN | apply Kd.R_drew)); exact HO_3.out⟩, ⟨by repeat (first | (with_reducible first | exact HB.out | apply below_alloc | apply pw_below_drewN | apply below_drew1) | exact HB.out)⟩⟩
          · rw [if_neg c4] at H
            have c4b0 : (((rd_T70 l0 x6_1).f0) == 1) = false := beq_eq_false_iff_ne.mpr c4
            have c4b1 : (((rd_T70 l0 x6_1).f0) != 1) = true := bne_iff_ne.mpr c4
            by_cases c5 : x5_1 = true
            · subst c5
              have H1 : (if ((rd_T70 l0 x6_1).f0) = 2 then (if 0 ≤ (wrap64 ((x3_1.length : Int) - 1)) then (if (wrap64 ((x3_1.length : Int) - 1)) < (x3_1.length : Int) then (galleyref13_Changes.l0 k1 l0 (x3_1.set ((wrap64 ((x3_1.length : Int) - 1)) : Int).toNat (⟨(rd_T91 x3_1 (wrap64 ((x3_1.length : Int) - 1))).f0, (rd_T91 x3_1 (wrap64 ((x3_1.length : Int) - 1))).f1, (rd_T70 l0 x6_1).f2⟩ : S91)) x4_1 true (wrap64 (x6_1 + 1))) else (none)) else (none)) else (if 0 ≤ (wrap64 ((x3_1.length : Int) - 1)) then (if (wrap64 ((x3_1.length : Int) - 1)) < (x3_1.length : Int) then (galleyref13_Changes.l0 k1 l0 (x3_1.set ((wrap64 ((x3_1.length : Int) - 1)) : Int).toNat (⟨(rd_T91 x3_1 (wrap64 ((x3_1.length : Int) - 1))).f0, wrap64 (x4_1 + ((rd_T70 l0 x6_1).f1)), (rd_T91 x3_1 (wrap64 ((x3_1.length : Int) - 1))).f2⟩ : S91)) (wrap64 (x4_1 + ((rd_T70 l0 x6_1).f1))) true (wrap64 (x6_1 + 1))) else (none)) else (none))) = some r := by rw [if_pos rfl] at H; exact H
              clear H
              have H := H1
              clear H1
              by_cases c6 : ((rd_T70 l0 x6_1).f0) = 2
              · rw [if_pos c6] at H
                have c6b0 : (((rd_T70 l0 x6_1).f0) == 2) = true := beq_iff_eq.mpr c6
                have c6b1 : (((rd_T70 l0 x6_1).f0) != 2) = false := bne_eq_false_iff_eq.mpr c6
                clear c6
                obtain ⟨ji7, hji7⟩ : ∃ j_ : Int, (wrap64 ((x3_1.length : Int) - 1)) = j_ := ⟨_, rfl⟩
                replace H : (if 0 ≤ (ji7) then (if (ji7) < (x3_1.length : Int) then (galleyref13_Changes.l0 k1 l0 (x3_1.set ((ji7) : Int).toNat (⟨(rd_T91 x3_1 (ji7)).f0, (rd_T91 x3_1 (ji7)).f1, (rd_T70 l0 x6_1).f2⟩ : S91)) x4_1 true (wrap64 (x6_1 + 1))) else (none)) else (none)) = some r := by first | (rw [hji7] at H; exact H) | (simp only [hji7] at H ⊢; exact H)
                have hji7w : (IntKind.i64.wrap ((x3_1.length : Int) - 1)) = ji7 := (i64_w _).trans hji7
                by_cases c8 : 0 ≤ (ji7)
                · rw [if_pos c8] at H
                  have c8b0 : decide (0 ≤ (ji7)) = true := decide_eq_true c8
                  clear c8
                  by_cases c9 : (ji7) < (x3_1.length : Int)
                  · rw [if_pos c9] at H
                    have c9b0 : decide ((ji7) < (x3_1.length : Int)) = true := decide_eq_true c9
                    clear c9
                    obtain ⟨y348, hy348⟩ : ∃ y_ : List (S91), y_ = (x3_1.set ((ji7) : Int).toNat (⟨(rd_T91 x3_1 (ji7)).f0, (rd_T91 x3_1 (ji7)).f1, (rd_T70 l0 x6_1).f2⟩ : S91)) := ⟨_, rfl⟩
                    replace H : (galleyref13_Changes.l0 k1 l0 y348 x4_1 true (wrap64 (x6_1 + 1))) = some r := by first | (rw [hy348]; with_reducible exact H) | (have H2_ := (Option.bind_some _ _).symm.trans H; rw [hy348]; with_reducible exact H2_) | (have H2_ := (Option.bind_some _ _).symm.trans H; with_reducible exact H2_) | with_reducible exact H | (rw [hy348]; exact H) | exact H
                    have Ny348 := Aside0.mk hy348
                    clear hy348
                    have H' := Aside0.mk H
                    clear H
                    have p345 : 0 ≤ (x6_1 : Int) := of_decide_eq_true (by first | (with_reducible assumption) | assumption)
                    have q345 : x6_1 < (l0.length : Int) := of_decide_eq_true (by first | (with_reducible assumption) | assumption)
                    obtain ⟨ad345, e345, hx345_0, hx345_1, hx345_2⟩ := at_T70 HR0.out x6_1 p345 q345
                    cases e345
                    replace hx345_0 := (HB.out.cell (World.block_lt_of_cell? w _ hx345_0)).trans hx345_0
                    replace hx345_1 := (HB.out.cell (World.block_lt_of_cell? w _ hx345_1)).trans hx345_1
                    replace hx345_2 := (HB.out.cell (World.block_lt_of_cell? w _ hx345_2)).trans hx345_2
                    replace p345 := eq_true p345
                    replace q345 := eq_true q345
                    obtain ⟨Ao11, co11, eo11⟩ := Kd.R_slice HO_3.out
                    subst eo11
                    have p347 : 0 ≤ (x6_1 : Int) := of_decide_eq_true (by first | (with_reducible assumption) | assumption)
                    have q347 : x6_1 < (l0.length : Int) := of_decide_eq_true (by first | (with_reducible assumption) | assumption)
                    obtain ⟨ad347, e347, hx347_0, hx347_1, hx347_2⟩ := at_T70 HR0.out x6_1 p347 q347
                    obtain rfl : ad345 = ad347 := (by injection e347)
                    replace hx347_0 := (HB.out.cell (World.block_lt_of_cell? w _ hx347_0)).trans hx347_0
                    replace hx347_1 := (HB.out.cell (World.block_lt_of_cell? w _ hx347_1)).trans hx347_1
                    replace hx347_2 := (HB.out.cell (World.block_lt_of_cell? w _ hx347_2)).trans hx347_2
                    replace p347 := eq_true p347
                    replace q347 := eq_true q347
                    have p10 : 0 ≤ ((ji7) : Int) := of_decide_eq_true (by first | (with_reducible assumption) | assumption)
                    have q10 : ((ji7) : Int) < ((x3_1.length : Int) : Int) := of_decide_eq_true (by first | (with_reducible assumption) | assumption)
                    obtain ⟨go10, co10, eo10, gb10, gl10, cl10, HG10⟩ := Kd.R_form HO_3.out (by omega)
                    (first | cases eo10 | (injection eo10 with ea_ en_ ec_; (first | subst ea_ | (injection ea_ with ea_; subst ea_)); subst ec_; clear en_))
                    have GB10 := Aside0.mk gb10
                    have GG10 := Aside0.mk HG10
                    clear gb10 gl10 HG10
                    obtain ⟨ce10, hcl10, hM10, hcc10, hfr10⟩ := Kd.R_elem HO_3.out z91 ((ji7) : Int) p10 q10
                    obtain rfl := k91_openM hM10
                    have hx10_0 : wr.cell? ⟨go10, ((ji7) : Int).toNat * 3, none⟩ = some (.int .i64 ((rd_T91 x3_1 (ji7)).f0)) := hcc10 0 _ rfl
                    have hx10_1 : wr.cell? ⟨go10, ((ji7) : Int).toNat * 3 + 1, none⟩ = some (.int .i64 ((rd_T91 x3_1 (ji7)).f1)) := hcc10 1 _ rfl
                    have hx10_2 : wr.cell? ⟨go10, ((ji7) : Int).toNat * 3 + 2, none⟩ = some (.string ((rd_T91 x3_1 (ji7)).f2)) := hcc10 2 _ rfl
                    have hf10_0 : wr.frozen? ⟨go10, ((ji7) : Int).toNat * 3, none⟩ = false := hfr10 0
                    have hf10_1 : wr.frozen? ⟨go10, ((ji7) : Int).toNat * 3 + 1, none⟩ = false := hfr10 1
                    have hf10_2 : wr.frozen? ⟨go10, ((ji7) : Int).toNat * 3 + 2, none⟩ = false := hfr10 2
                    clear hcl10 hcc10 hfr10 hM10
                    replace p10 := eq_true p10
                    replace q10 := eq_true q10
                    have HX12 := Aside0.mk (show Kd.R k91 91 wr w.heap.size (fun _ => True) (.slice (some ⟨go10, 0, none⟩) x3_1.length co11) x3_1 from (by (with_reducible repeat (first | apply Kd.R_alloc | apply Kd.R_drewN | apply Kd.R_drew)); exact HO_3.out))
                    obtain ⟨ce12, hcl12, hM12, hcc12, hfr12⟩ := Kd.R_elem HX12.out z91 ((ji7) : Int) (of_decide_eq_true (by first | (with_reducible assumption) | assumption)) (by have h_ : ((ji7) : Int) < ((x3_1.length : Int) : Int) := of_decide_eq_true (by first | (with_reducible assumption) | assumption); first | exact h_ | (have e_ := (Kd.R_reads' HO_3.out).1; omega) | simpa using h_)
                    obtain rfl := k91_openM hM12
                    have HP12 := Kd.R_seg HX12.out ((ji7) : Int) (of_decide_eq_true (by first | (with_reducible assumption) | assumption)) (by have h_ : ((ji7) : Int) < ((x3_1.length : Int) : Int) := of_decide_eq_true (by first | (with_reducible assumption) | assumption); first | exact h_ | (have e_ := (Kd.R_reads' HO_3.out).1; omega) | simpa using h_) (seg := [.string ((rd_T70 l0 x6_1).f2)]) (j := 2) hcl12 hcc12 (show 3 ≤ 3 from by decide) (x' := (⟨(rd_T91 x3_1 (ji7)).f0, (rd_T91 x3_1 (ji7)).f1, (rd_T70 l0 x6_1).f2⟩ : S91)) (k91_mkM _ _ _ (⟨(rd_T91 x3_1 (ji7)).f0, (rd_T91 x3_1 (ji7)).f1, (rd_T70 l0 x6_1).f2⟩ : S91) ) (fun _ hk => hk)
                    have hx12_2 := hcc12 2 _ rfl
                    (try simp only [show (k91).sz = 3 from rfl, Nat.mul_one, Nat.add_zero] at hx12_2)
                    have hf12_2 := hfr12 2
                    (try simp only [show (k91).sz = 3 from rfl, Nat.mul_one, Nat.add_zero] at hf12_2)
                    clear hcl12 hcc12 hfr12 hM12
                    go_wp2_with (first | ((with_reducible refine gate_store (t := 9) (p := 50) rfl ?_); refine store_event (t := 9) (p := 50) (v := ?vo_w13) (w1 := (wr.setCell ⟨go10, ((ji7) : Int).toNat * 3 + 2, none⟩ (.string ((rd_T70 l0 x6_1).f2)))) ?hg ?ho ?hn ?hr ?_; (case ho => rfl); (case hg => rfl); (case hn => rfl); (case hr => first | (go_simp; done) | (go_simp; rfl)); intro w13 hw; have hg : wr.grownBy w13 (some go10) := (by rw [hw]; exact HP12.2); have hp_ : Kd.R k91 91 w13 w.heap.size (fun _ => True) (.slice (some ⟨go10, 0, none⟩) x3_1.length co11) y348 := (by rw [hw, Ny348.out]; exact HP12.1); clear HP12; have n0_ := Aside0.mk (hp_); have n1_ := Aside0.mk ((by rw [hw]; exact below_set (HB.out) GB10.out : Below w.heap.size w w13)); clear HO_3; clear HB; have HO_3 := n0_; have HB := n1_; clear n0_ n1_; clear hg hw hp_))
                    go_roundg k1
                    case measure => have := HK1.out; omega
                    case rel => exact ⟨(y348), (x4_1), (true), (wrap64 (x6_1 + 1)), (by first | rfl | (simp; done) | (simp [*]; done) | (simp; exact isEmpty_bne _)), (by first | rfl | (simp; done) | (simp [*]; done) | (simp; exact isEmpty_bne _)), (by first | rfl | (simp; done) | (simp [*]; done) | (simp; exact isEmpty_bne _)), H', ⟨by have := HK1.out; omega⟩, ⟨by (with_reducible repeat (first | apply Kd.R_alloc | apply Kd.R_drewN | apply Kd.R_drew)); exact HO_3.out⟩, ⟨by repeat (first | (with_reducible first | exact HB.out | apply below_alloc | apply pw_below_drewN | apply below_drew1) | exact HB.out)⟩⟩
                  · rw [if_neg c9] at H
                    exact absurd H (by simp)
                · rw [if_neg c8] at H
                  exact absurd H (by simp)
              · rw [if_neg c6] at H
                have c6b0 : (((rd_T70 l0 x6_1).f0) == 2) = false := beq_eq_false_iff_ne.mpr c6
                have c6b1 : (((rd_T70 l0 x6_1).f0) != 2) = true := bne_iff_ne.mpr c6
                obtain ⟨ji14, hji14⟩ : ∃ j_ : Int, (wrap64 ((x3_1.length : Int) - 1)) = j_ := ⟨_, rfl⟩
                replace H : (if 0 ≤ (ji14) then (if (ji14) < (x3_1.length : Int) then (galleyref13_Changes.l0 k1 l0 (x3_1.set ((ji14) : Int).toNat (⟨(rd_T91 x3_1 (ji14)).f0, wrap64 (x4_1 + ((rd_T70 l0 x6_1).f1)), (rd_T91 x3_1 (ji14)).f2⟩ : S91)) (wrap64 (x4_1 + ((rd_T70 l0 x6_1).f1))) true (wrap64 (x6_1 + 1))) else (none)) else (none)) = some r := by first | (rw [hji14] at H; exact H) | (simp only [hji14] at H ⊢; exact H)
                have hji14w : (IntKind.i64.wrap ((x3_1.length : Int) - 1)) = ji14 := (i64_w _).trans hji14
                by_cases c15 : 0 ≤ (ji14)
                · rw [if_pos c15] at H
                  have c15b0 : decide (0 ≤ (ji14)) = true := decide_eq_true c15
                  clear c15
                  by_cases c16 : (ji14) < (x3_1.length : Int)
                  · rw [if_pos c16] at H
                    have c16b0 : decide ((ji14) < (x3_1.length : Int)) = true := decide_eq_true c16
                    clear c16
                    obtain ⟨y350, hy350⟩ : ∃ y_ : List (S91), y_ = (x3_1.set ((ji14) : Int).toNat (⟨(rd_T91 x3_1 (ji14)).f0, wrap64 (x4_1 + ((rd_T70 l0 x6_1).f1)), (rd_T91 x3_1 (ji14)).f2⟩ : S91)) := ⟨_, rfl⟩
                    replace H : (galleyref13_Changes.l0 k1 l0 y350 (wrap64 (x4_1 + ((rd_T70 l0 x6_1).f1))) true (wrap64 (x6_1 + 1))) = some r := by first | (rw [hy350]; with_reducible exact H) | (have H2_ := (Option.bind_some _ _).symm.trans H; rw [hy350]; with_reducible exact H2_) | (have H2_ := (Option.bind_some _ _).symm.trans H; with_reducible exact H2_) | with_reducible exact H | (rw [hy350]; exact H) | exact H
                    have Ny350 := Aside0.mk hy350
                    clear hy350
                    have H' := Aside0.mk H
                    clear H
                    have p345 : 0 ≤ (x6_1 : Int) := of_decide_eq_true (by first | (with_reducible assumption) | assumption)
                    have q345 : x6_1 < (l0.length : Int) := of_decide_eq_true (by first | (with_reducible assumption) | assumption)
                    obtain ⟨ad345, e345, hx345_0, hx345_1, hx345_2⟩ := at_T70 HR0.out x6_1 p345 q345
                    cases e345
                    replace hx345_0 := (HB.out.cell (World.block_lt_of_cell? w _ hx345_0)).trans hx345_0
                    replace hx345_1 := (HB.out.cell (World.block_lt_of_cell? w _ hx345_1)).trans hx345_1
                    replace hx345_2 := (HB.out.cell (World.block_lt_of_cell? w _ hx345_2)).trans hx345_2
                    replace p345 := eq_true p345
                    replace q345 := eq_true q345
                    obtain ⟨Ao18, co18, eo18⟩ := Kd.R_slice HO_3.out
                    subst eo18
                    have p349 : 0 ≤ (x6_1 : Int) := of_decide_eq_true (by first | (with_reducible assumption) | assumption)
                    have q349 : x6_1 < (l0.length : Int) := of_decide_eq_true (by first | (with_reducible assumption) | assumption)
                    obtain ⟨ad349, e349, hx349_0, hx349_1, hx349_2⟩ := at_T70 HR0.out x6_1 p349 q349
                    obtain rfl : ad345 = ad349 := (by injection e349)
                    replace hx349_0 := (HB.out.cell (World.block_lt_of_cell? w _ hx349_0)).trans hx349_0
                    replace hx349_1 := (HB.out.cell (World.block_lt_of_cell? w _ hx349_1)).trans hx349_1
                    replace hx349_2 := (HB.out.cell (World.block_lt_of_cell? w _ hx349_2)).trans hx349_2
                    replace p349 := eq_true p349
                    replace q349 := eq_true q349
                    have p17 : 0 ≤ ((ji14) : Int) := of_decide_eq_true (by first | (with_reducible assumption) | assumption)
                    have q17 : ((ji14) : Int) < ((x3_1.length : Int) : Int) := of_decide_eq_true (by first | (with_reducible assumption) | assumption)
                    obtain ⟨go17, co17, eo17, gb17, gl17, cl17, HG17⟩ := Kd.R_form HO_3.out (by omega)
                    (first | cases eo17 | (injection eo17 with ea_ en_ ec_; (first | subst ea_ | (injection ea_ with ea_; subst ea_)); subst ec_; clear en_))
                    have GB17 := Aside0.mk gb17
                    have GG17 := Aside0.mk HG17
                    clear gb17 gl17 HG17
                    obtain ⟨ce17, hcl17, hM17, hcc17, hfr17⟩ := Kd.R_elem HO_3.out z91 ((ji14) : Int) p17 q17
                    obtain rfl := k91_openM hM17
                    have hx17_0 : wr.cell? ⟨go17, ((ji14) : Int).toNat * 3, none⟩ = some (.int .i64 ((rd_T91 x3_1 (ji14)).f0)) := hcc17 0 _ rfl
                    have hx17_1 : wr.cell? ⟨go17, ((ji14) : Int).toNat * 3 + 1, none⟩ = some (.int .i64 ((rd_T91 x3_1 (ji14)).f1)) := hcc17 1 _ rfl
                    have hx17_2 : wr.cell? ⟨go17, ((ji14) : Int).toNat * 3 + 2, none⟩ = some (.string ((rd_T91 x3_1 (ji14)).f2)) := hcc17 2 _ rfl
                    have hf17_0 : wr.frozen? ⟨go17, ((ji14) : Int).toNat * 3, none⟩ = false := hfr17 0
                    have hf17_1 : wr.frozen? ⟨go17, ((ji14) : Int).toNat * 3 + 1, none⟩ = false := hfr17 1
                    have hf17_2 : wr.frozen? ⟨go17, ((ji14) : Int).toNat * 3 + 2, none⟩ = false := hfr17 2
                    clear hcl17 hcc17 hfr17 hM17
                    replace p17 := eq_true p17
                    replace q17 := eq_true q17
                    have HX19 := Aside0.mk (show Kd.R k91 91 wr w.heap.size (fun _ => True) (.slice (some ⟨go17, 0, none⟩) x3_1.length co18) x3_1 from (by (with_reducible repeat (first | apply Kd.R_alloc | apply Kd.R_drewN | apply Kd.R_drew)); exact HO_3.out))
                    obtain ⟨ce19, hcl19, hM19, hcc19, hfr19⟩ := Kd.R_elem HX19.out z91 ((ji14) : Int) (of_decide_eq_true (by first | (with_reducible assumption) | assumption)) (by have h_ : ((ji14) : Int) < ((x3_1.length : Int) : Int) := of_decide_eq_true (by first | (with_reducible assumption) | assumption); first | exact h_ | (have e_ := (Kd.R_reads' HO_3.out).1; omega) | simpa using h_)
                    obtain rfl := k91_openM hM19
                    have HP19 := Kd.R_seg HX19.out ((ji14) : Int) (of_decide_eq_true (by first | (with_reducible assumption) | assumption)) (by have h_ : ((ji14) : Int) < ((x3_1.length : Int) : Int) := of_decide_eq_true (by first | (with_reducible assumption) | assumption); first | exact h_ | (have e_ := (Kd.R_reads' HO_3.out).1; omega) | simpa using h_) (seg := [.int .i64 (wrap64 (x4_1 + ((rd_T70 l0 x6_1).f1)))]) (j := 1) hcl19 hcc19 (show 2 ≤ 3 from by decide) (x' := (⟨(rd_T91 x3_1 (ji14)).f0, wrap64 (x4_1 + ((rd_T70 l0 x6_1).f1)), (rd_T91 x3_1 (ji14)).f2⟩ : S91)) (k91_mkM _ _ _ (⟨(rd_T91 x3_1 (ji14)).f0, wrap64 (x4_1 + ((rd_T70 l0 x6_1).f1)), (rd_T91 x3_1 (ji14)).f2⟩ : S91) ) (fun _ hk => hk)
                    have hx19_1 := hcc19 1 _ rfl
                    (try simp only [show (k91).sz = 3 from rfl, Nat.mul_one, Nat.add_zero] at hx19_1)
                    have hf19_1 := hfr19 1
                    (try simp only [show (k91).sz = 3 from rfl, Nat.mul_one, Nat.add_zero] at hf19_1)
                    clear hcl19 hcc19 hfr19 hM19
                    go_wp2_with (first | ((with_reducible refine gate_store (t := 3) (p := 62) rfl ?_); refine store_event (t := 3) (p := 62) (v := ?vo_w20) (w1 := (wr.setCell ⟨go17, ((ji14) : Int).toNat * 3 + 1, none⟩ (.int .i64 (wrap64 (x4_1 + ((rd_T70 l0 x6_1).f1)))))) ?hg ?ho ?hn ?hr ?_; (case ho => rfl); (case hg => rfl); (case hn => rfl); (case hr => first | (go_simp; done) | (go_simp; rfl)); intro w20 hw; have hg : wr.grownBy w20 (some go17) := (by rw [hw]; exact HP19.2); have hp_ : Kd.R k91 91 w20 w.heap.size (fun _ => True) (.slice (some ⟨go17, 0, none⟩) x3_1.length co18) y350 := (by rw [hw, Ny350.out]; exact HP19.1); clear HP19; have n0_ := Aside0.mk (hp_); have n1_ := Aside0.mk ((by rw [hw]; exact below_set (HB.out) GB17.out : Below w.heap.size w w20)); clear HO_3; clear HB; have HO_3 := n0_; have HB := n1_; clear n0_ n1_; clear hg hw hp_))
                    go_roundg k1
                    case measure => have := HK1.out; omega
                    case rel => exact ⟨(y350), (wrap64 (x4_1 + ((rd_T70 l0 x6_1).f1))), (true), (wrap64 (x6_1 + 1)), (by first | rfl | (simp; done) | (simp [*]; done) | (simp; exact isEmpty_bne _)), (by first | rfl | (simp; done) | (simp [*]; done) | (simp; exact isEmpty_bne _)), (by first | rfl | (simp; done) | (simp [*]; done) | (simp; exact isEmpty_bne _)), H', ⟨by have := HK1.out; omega⟩, ⟨by (with_reducible repeat (first | apply Kd.R_alloc | apply Kd.R_drewN | apply Kd.R_drew)); exact HO_3.out⟩, ⟨by repeat (first | (with_reducible first | exact HB.out | apply below_alloc | apply pw_below_drewN | apply below_drew1) | exact HB.out)⟩⟩
                  · rw [if_neg c16] at H
                    exact absurd H (by simp)
                · rw [if_neg c15] at H
                  exact absurd H (by simp)
            · replace c5 := Bool.eq_false_iff.mpr c5
              subst c5
              have H1 : (if x3_1.length < 4398046511104 then ((some (x3_1 ++ [(⟨x4_1, x4_1, (⟨#[]⟩ : ByteArray)⟩ : S91)] : List (S91))).bind fun y351 => (if ((rd_T70 l0 x6_1).f0) = 2 then (if 0 ≤ (wrap64 ((y351.length : Int) - 1)) then (if (wrap64 ((y351.length : Int) - 1)) < (y351.length : Int) then (galleyref13_Changes.l0 k1 l0 (y351.set ((wrap64 ((y351.length : Int) - 1)) : Int).toNat (⟨(rd_T91 y351 (wrap64 ((y351.length : Int) - 1))).f0, (rd_T91 y351 (wrap64 ((y351.length : Int) - 1))).f1, (rd_T70 l0 x6_1).f2⟩ : S91)) x4_1 true (wrap64 (x6_1 + 1))) else (none)) else (none)) else (if 0 ≤ (wrap64 ((y351.length : Int) - 1)) then (if (wrap64 ((y351.length : Int) - 1)) < (y351.length : Int) then (galleyref13_Changes.l0 k1 l0 (y351.set ((wrap64 ((y351.length : Int) - 1)) : Int).toNat (⟨(rd_T91 y351 (wrap64 ((y351.length : Int) - 1))).f0, wrap64 (x4_1 + ((rd_T70 l0 x6_1).f1)), (rd_T91 y351 (wrap64 ((y351.length : Int) - 1))).f2⟩ : S91)) (wrap64 (x4_1 + ((rd_T70 l0 x6_1).f1))) true (wrap64 (x6_1 + 1))) else (none)) else (none)))) else (none)) = some r := by rw [if_neg (show ¬ (false = true) by decide)] at H; exact H
              clear H
              have H := H1
              clear H1
              by_cases c21 : x3_1.length < 4398046511104
              · rw [if_pos c21] at H
                have LMc21 := Aside0.mk c21
                clear c21
                obtain ⟨y351, hy351⟩ : ∃ y_ : List (S91), y_ = (x3_1 ++ [(⟨x4_1, x4_1, (⟨#[]⟩ : ByteArray)⟩ : S91)]) := ⟨_, rfl⟩
                replace H : (if ((rd_T70 l0 x6_1).f0) = 2 then (if 0 ≤ (wrap64 ((y351.length : Int) - 1)) then (if (wrap64 ((y351.length : Int) - 1)) < (y351.length : Int) then (galleyref13_Changes.l0 k1 l0 (y351.set ((wrap64 ((y351.length : Int) - 1)) : Int).toNat (⟨(rd_T91 y351 (wrap64 ((y351.length : Int) - 1))).f0, (rd_T91 y351 (wrap64 ((y351.length : Int) - 1))).f1, (rd_T70 l0 x6_1).f2⟩ : S91)) x4_1 true (wrap64 (x6_1 + 1))) else (none)) else (none)) else (if 0 ≤ (wrap64 ((y351.length : Int) - 1)) then (if (wrap64 ((y351.length : Int) - 1)) < (y351.length : Int) then (galleyref13_Changes.l0 k1 l0 (y351.set ((wrap64 ((y351.length : Int) - 1)) : Int).toNat (⟨(rd_T91 y351 (wrap64 ((y351.length : Int) - 1))).f0, wrap64 (x4_1 + ((rd_T70 l0 x6_1).f1)), (rd_T91 y351 (wrap64 ((y351.length : Int) - 1))).f2⟩ : S91)) (wrap64 (x4_1 + ((rd_T70 l0 x6_1).f1))) true (wrap64 (x6_1 + 1))) else (none)) else (none))) = some r := by first | (rw [hy351]; with_reducible exact H) | (have H2_ := (Option.bind_some _ _).symm.trans H; rw [hy351]; with_reducible exact H2_) | (have H2_ := (Option.bind_some _ _).symm.trans H; with_reducible exact H2_) | with_reducible exact H | (rw [hy351]; exact H) | exact H
                have Ny351 := Aside0.mk hy351
                clear hy351
                by_cases c22 : ((rd_T70 l0 x6_1).f0) = 2
                · rw [if_pos c22] at H
                  have c22b0 : (((rd_T70 l0 x6_1).f0) == 2) = true := beq_iff_eq.mpr c22
                  have c22b1 : (((rd_T70 l0 x6_1).f0) != 2) = false := bne_eq_false_iff_eq.mpr c22
                  clear c22
                  obtain ⟨ji23, hji23⟩ : ∃ j_ : Int, (wrap64 ((y351.length : Int) - 1)) = j_ := ⟨_, rfl⟩
                  replace H : (if 0 ≤ (ji23) then (if (ji23) < (y351.length : Int) then (galleyref13_Changes.l0 k1 l0 (y351.set ((ji23) : Int).toNat (⟨(rd_T91 y351 (ji23)).f0, (rd_T91 y351 (ji23)).f1, (rd_T70 l0 x6_1).f2⟩ : S91)) x4_1 true (wrap64 (x6_1 + 1))) else (none)) else (none)) = some r := by first | (rw [hji23] at H; exact H) | (simp only [hji23] at H ⊢; exact H)
                  have hji23w : (IntKind.i64.wrap ((y351.length : Int) - 1)) = ji23 := (i64_w _).trans hji23
                  by_cases c24 : 0 ≤ (ji23)
                  · rw [if_pos c24] at H
                    have c24b0 : decide (0 ≤ (ji23)) = true := decide_eq_true c24
                    clear c24
                    by_cases c25 : (ji23) < (y351.length : Int)
                    · rw [if_pos c25] at H
                      have c25b0 : decide ((ji23) < (y351.length : Int)) = true := decide_eq_true c25
                      clear c25
                      obtain ⟨y355, hy355⟩ : ∃ y_ : List (S91), y_ = (y351.set ((ji23) : Int).toNat (⟨(rd_T91 y351 (ji23)).f0, (rd_T91 y351 (ji23)).f1, (rd_T70 l0 x6_1).f2⟩ : S91)) := ⟨_, rfl⟩
                      replace H : (galleyref13_Changes.l0 k1 l0 y355 x4_1 true (wrap64 (x6_1 + 1))) = some r := by first | (rw [hy355]; with_reducible exact H) | (have H2_ := (Option.bind_some _ _).symm.trans H; rw [hy355]; with_reducible exact H2_) | (have H2_ := (Option.bind_some _ _).symm.trans H; with_reducible exact H2_) | with_reducible exact H | (rw [hy355]; exact H) | exact H
                      have Ny355 := Aside0.mk hy355
                      clear hy355
                      have H' := Aside0.mk H
                      clear H
                      have p345 : 0 ≤ (x6_1 : Int) := of_decide_eq_true (by first | (with_reducible assumption) | assumption)
                      have q345 : x6_1 < (l0.length : Int) := of_decide_eq_true (by first | (with_reducible assumption) | assumption)
                      obtain ⟨ad345, e345, hx345_0, hx345_1, hx345_2⟩ := at_T70 HR0.out x6_1 p345 q345
                      cases e345
                      replace hx345_0 := (HB.out.cell (World.block_lt_of_cell? w _ hx345_0)).trans hx345_0
                      replace hx345_1 := (HB.out.cell (World.block_lt_of_cell? w _ hx345_1)).trans hx345_1
                      replace hx345_2 := (HB.out.cell (World.block_lt_of_cell? w _ hx345_2)).trans hx345_2
                      replace p345 := eq_true p345
                      replace q345 := eq_true q345
                      go_wp2_with (first | ((with_reducible refine gate_builtin (b := .append) (xs := #[.tmp 31, .tmp 35]) rfl ?_); at_builtin; refine Kd.R_append k91 (w0 := w) w.heap.size rfl (.tmp 31) (.tmp 35) 40 91 (.agg #[(.int .i64 0), (.int .i64 0), (.string ⟨#[]⟩)]) 32 rfl Try.underlying40 info91 rfl (by decide) (by omega) u3 x3_1 (⟨x4_1, x4_1, (⟨#[]⟩ : ByteArray)⟩ : S91) [.int .i64 x4_1, .int .i64 x4_1, .string (⟨#[]⟩ : ByteArray)] (fun _ => True) (fun _ => False) rfl rfl ?aP (fun _ hk => hk.elim) ?aF ?aO ?aB ?aS ?aL ?_; (case aP => exact k91_mkM _ _ _ (⟨x4_1, x4_1, (⟨#[]⟩ : ByteArray)⟩ : S91)); (case aB => exact (by repeat (first | (with_reducible first | exact HB.out | apply below_alloc | apply pw_below_drewN | apply below_drew1) | exact HB.out))); (case aF => exact (fun _ _ => trivial)); (case aO => exact (by (with_reducible repeat (first | apply Kd.R_alloc | apply Kd.R_drewN | apply Kd.R_drew)); exact HO_3.out)); (case aS => exact (below_size (by repeat (first | (with_reducible first | exact HB.out | apply below_alloc | apply pw_below_drewN | apply below_drew1) | exact HB.out)))); (case aL => have := LMc21.out; omega); intro v352 w27 ho hb hg hat; rw [← Ny351.out] at ho; have n0_ := Aside0.mk (hb); have n1_ := Aside0.mk (ho); clear HB; clear HO_3; have HB := n0_; have HO353 := n1_; clear n0_ n1_; clear ho hb hg hat; obtain ⟨Ao28, co28, eo28⟩ := Kd.R_slice HO353.out; subst eo28; have p354 : 0 ≤ (x6_1 : Int) := of_decide_eq_true (by first | (with_reducible assumption) | assumption); have q354 : x6_1 < (l0.length : Int) := of_decide_eq_true (by first | (with_reducible assumption) | assumption); obtain ⟨ad354, e354, hx354_0, hx354_1, hx354_2⟩ := at_T70 HR0.out x6_1 p354 q354; obtain rfl : ad345 = ad354 := (by injection e354); replace hx354_0 := (HB.out.cell (World.block_lt_of_cell? w _ hx354_0)).trans hx354_0; replace hx354_1 := (HB.out.cell (World.block_lt_of_cell? w _ hx354_1)).trans hx354_1; replace hx354_2 := (HB.out.cell (World.block_lt_of_cell? w _ hx354_2)).trans hx354_2; replace p354 := eq_true p354; replace q354 := eq_true q354; have p26 : 0 ≤ ((ji23) : Int) := of_decide_eq_true (by first | (with_reducible assumption) | assumption); have q26 : ((ji23) : Int) < ((y351.length : Int) : Int) := of_decide_eq_true (by first | (with_reducible assumption) | assumption); obtain ⟨go26, co26, eo26, gb26, gl26, cl26, HG26⟩ := Kd.R_form HO353.out (by omega); (first | cases eo26 | (injection eo26 with ea_ en_ ec_; (first | subst ea_ | (injection ea_ with ea_; subst ea_)); subst ec_; clear en_)); have GB26 := Aside0.mk gb26; have GG26 := Aside0.mk HG26; clear gb26 gl26 HG26; obtain ⟨ce26, hcl26, hM26, hcc26, hfr26⟩ := Kd.R_elem HO353.out z91 ((ji23) : Int) p26 q26; obtain rfl := k91_openM hM26; have hx26_0 : w27.cell? ⟨go26, ((ji23) : Int).toNat * 3, none⟩ = some (.int .i64 ((rd_T91 y351 (ji23)).f0)) := hcc26 0 _ rfl; have hx26_1 : w27.cell? ⟨go26, ((ji23) : Int).toNat * 3 + 1, none⟩ = some (.int .i64 ((rd_T91 y351 (ji23)).f1)) := hcc26 1 _ rfl; have hx26_2 : w27.cell? ⟨go26, ((ji23) : Int).toNat * 3 + 2, none⟩ = some (.string ((rd_T91 y351 (ji23)).f2)) := hcc26 2 _ rfl; have hf26_0 : w27.frozen? ⟨go26, ((ji23) : Int).toNat * 3, none⟩ = false := hfr26 0; have hf26_1 : w27.frozen? ⟨go26, ((ji23) : Int).toNat * 3 + 1, none⟩ = false := hfr26 1; have hf26_2 : w27.frozen? ⟨go26, ((ji23) : Int).toNat * 3 + 2, none⟩ = false := hfr26 2; clear hcl26 hcc26 hfr26 hM26; replace p26 := eq_true p26; replace q26 := eq_true q26; have HX29 := Aside0.mk (show Kd.R k91 91 w27 w.heap.size (fun _ => True) (.slice (some ⟨go26, 0, none⟩) y351.length co28) y351 from (by (with_reducible repeat (first | apply Kd.R_alloc | apply Kd.R_drewN | apply Kd.R_drew)); exact HO353.out)); obtain ⟨ce29, hcl29, hM29, hcc29, hfr29⟩ := Kd.R_elem HX29.out z91 ((ji23) : Int) (of_decide_eq_true (by first | (with_reducible assumption) | assumption)) (by have h_ : ((ji23) : Int) < ((y351.length : Int) : Int) := of_decide_eq_true (by first | (with_reducible assumption) | assumption); first | exact h_ | (have e_ := (Kd.R_reads' HO353.out).1; omega) | simpa using h_); obtain rfl := k91_openM hM29; have HP29 := Kd.R_seg HX29.out ((ji23) : Int) (of_decide_eq_true (by first | (with_reducible assumption) | assumption)) (by have h_ : ((ji23) : Int) < ((y351.length : Int) : Int) := of_decide_eq_true (by first | (with_reducible assumption) | assumption); first | exact h_ | (have e_ := (Kd.R_reads' HO353.out).1; omega) | simpa using h_) (seg := [.string ((rd_T70 l0 x6_1).f2)]) (j := 2) hcl29 hcc29 (show 3 ≤ 3 from by decide) (x' := (⟨(rd_T91 y351 (ji23)).f0, (rd_T91 y351 (ji23)).f1, (rd_T70 l0 x6_1).f2⟩ : S91)) (k91_mkM _ _ _ (⟨(rd_T91 y351 (ji23)).f0, (rd_T91 y351 (ji23)).f1, (rd_T70 l0 x6_1).f2⟩ : S91) ) (fun _ hk => hk); have hx29_2 := hcc29 2 _ rfl; (try simp only [show (k91).sz = 3 from rfl, Nat.mul_one, Nat.add_zero] at hx29_2); have hf29_2 := hfr29 2; (try simp only [show (k91).sz = 3 from rfl, Nat.mul_one, Nat.add_zero] at hf29_2); clear hcl29 hcc29 hfr29 hM29) | ((with_reducible refine gate_store (t := 9) (p := 50) rfl ?_); refine store_event (t := 9) (p := 50) (v := ?vo_w30) (w1 := (w27.setCell ⟨go26, ((ji23) : Int).toNat * 3 + 2, none⟩ (.string ((rd_T70 l0 x6_1).f2)))) ?hg ?ho ?hn ?hr ?_; (case ho => rfl); (case hg => rfl); (case hn => rfl); (case hr => first | (go_simp; done) | (go_simp; rfl)); intro w30 hw; have hg : w27.grownBy w30 (some go26) := (by rw [hw]; exact HP29.2); have hp_ : Kd.R k91 91 w30 w.heap.size (fun _ => True) (.slice (some ⟨go26, 0, none⟩) y351.length co28) y355 := (by rw [hw, Ny355.out]; exact HP29.1); clear HP29; have n0_ := Aside0.mk (hp_); have n1_ := Aside0.mk ((by rw [hw]; exact below_set (HB.out) GB26.out : Below w.heap.size w w30)); clear HO353; clear HB; have HO353 := n0_; have HB := n1_; clear n0_ n1_; clear hg hw hp_))
                      go_roundg k1
                      case measure => have := HK1.out; omega
                      case rel => exact ⟨(y355), (x4_1), (true), (wrap64 (x6_1 + 1)), (by first | rfl | (simp; done) | (simp [*]; done) | (simp; exact isEmpty_bne _)), (by first | rfl | (simp; done) | (simp [*]; done) | (simp; exact isEmpty_bne _)), (by first | rfl | (simp; done) | (simp [*]; done) | (simp; exact isEmpty_bne _)), H', ⟨by have := HK1.out; omega⟩, ⟨by (with_reducible repeat (first | apply Kd.R_alloc | apply Kd.R_drewN | apply Kd.R_drew)); exact HO353.out⟩, ⟨by repeat (first | (with_reducible first | exact HB.out | apply below_alloc | apply pw_below_drewN | apply below_drew1) | exact HB.out)⟩⟩
                    · rw [if_neg c25] at H
                      exact absurd H (by simp)
                  · rw [if_neg c24] at H
                    exact absurd H (by simp)
                · rw [if_neg c22] at H
                  have c22b0 : (((rd_T70 l0 x6_1).f0) == 2) = false := beq_eq_false_iff_ne.mpr c22
                  have c22b1 : (((rd_T70 l0 x6_1).f0) != 2) = true := bne_iff_ne.mpr c22
                  obtain ⟨ji31, hji31⟩ : ∃ j_ : Int, (wrap64 ((y351.length : Int) - 1)) = j_ := ⟨_, rfl⟩
                  replace H : (if 0 ≤ (ji31) then (if (ji31) < (y351.length : Int) then (galleyref13_Changes.l0 k1 l0 (y351.set ((ji31) : Int).toNat (⟨(rd_T91 y351 (ji31)).f0, wrap64 (x4_1 + ((rd_T70 l0 x6_1).f1)), (rd_T91 y351 (ji31)).f2⟩ : S91)) (wrap64 (x4_1 + ((rd_T70 l0 x6_1).f1))) true (wrap64 (x6_1 + 1))) else (none)) else (none)) = some r := by first | (rw [hji31] at H; exact H) | (simp only [hji31] at H ⊢; exact H)
                  have hji31w : (IntKind.i64.wrap ((y351.length : Int) - 1)) = ji31 := (i64_w _).trans hji31
                  by_cases c32 : 0 ≤ (ji31)
                  · rw [if_pos c32] at H
                    have c32b0 : decide (0 ≤ (ji31)) = true := decide_eq_true c32
                    clear c32
                    by_cases c33 : (ji31) < (y351.length : Int)
                    · rw [if_pos c33] at H
                      have c33b0 : decide ((ji31) < (y351.length : Int)) = true := decide_eq_true c33
                      clear c33
                      obtain ⟨y357, hy357⟩ : ∃ y_ : List (S91), y_ = (y351.set ((ji31) : Int).toNat (⟨(rd_T91 y351 (ji31)).f0, wrap64 (x4_1 + ((rd_T70 l0 x6_1).f1)), (rd_T91 y351 (ji31)).f2⟩ : S91)) := ⟨_, rfl⟩
                      replace H : (galleyref13_Changes.l0 k1 l0 y357 (wrap64 (x4_1 + ((rd_T70 l0 x6_1).f1))) true (wrap64 (x6_1 + 1))) = some r := by first | (rw [hy357]; with_reducible exact H) | (have H2_ := (Option.bind_some _ _).symm.trans H; rw [hy357]; with_reducible exact H2_) | (have H2_ := (Option.bind_some _ _).symm.trans H; with_reducible exact H2_) | with_reducible exact H | (rw [hy357]; exact H) | exact H
                      have Ny357 := Aside0.mk hy357
                      clear hy357
                      have H' := Aside0.mk H
                      clear H
                      have p345 : 0 ≤ (x6_1 : Int) := of_decide_eq_true (by first | (with_reducible assumption) | assumption)
                      have q345 : x6_1 < (l0.length : Int) := of_decide_eq_true (by first | (with_reducible assumption) | assumption)
                      obtain ⟨ad345, e345, hx345_0, hx345_1, hx345_2⟩ := at_T70 HR0.out x6_1 p345 q345
                      cases e345
                      replace hx345_0 := (HB.out.cell (World.block_lt_of_cell? w _ hx345_0)).trans hx345_0
                      replace hx345_1 := (HB.out.cell (World.block_lt_of_cell? w _ hx345_1)).trans hx345_1
                      replace hx345_2 := (HB.out.cell (World.block_lt_of_cell? w _ hx345_2)).trans hx345_2
                      replace p345 := eq_true p345
                      replace q345 := eq_true q345
                      go_wp2_with (first | ((with_reducible refine gate_builtin (b := .append) (xs := #[.tmp 31, .tmp 35]) rfl ?_); at_builtin; refine Kd.R_append k91 (w0 := w) w.heap.size rfl (.tmp 31) (.tmp 35) 40 91 (.agg #[(.int .i64 0), (.int .i64 0), (.string ⟨#[]⟩)]) 32 rfl Try.underlying40 info91 rfl (by decide) (by omega) u3 x3_1 (⟨x4_1, x4_1, (⟨#[]⟩ : ByteArray)⟩ : S91) [.int .i64 x4_1, .int .i64 x4_1, .string (⟨#[]⟩ : ByteArray)] (fun _ => True) (fun _ => False) rfl rfl ?aP (fun _ hk => hk.elim) ?aF ?aO ?aB ?aS ?aL ?_; (case aP => exact k91_mkM _ _ _ (⟨x4_1, x4_1, (⟨#[]⟩ : ByteArray)⟩ : S91)); (case aB => exact (by repeat (first | (with_reducible first | exact HB.out | apply below_alloc | apply pw_below_drewN | apply below_drew1) | exact HB.out))); (case aF => exact (fun _ _ => trivial)); (case aO => exact (by (with_reducible repeat (first | apply Kd.R_alloc | apply Kd.R_drewN | apply Kd.R_drew)); exact HO_3.out)); (case aS => exact (below_size (by repeat (first | (with_reducible first | exact HB.out | apply below_alloc | apply pw_below_drewN | apply below_drew1) | exact HB.out)))); (case aL => have := LMc21.out; omega); intro v352 w35 ho hb hg hat; rw [← Ny351.out] at ho; have n0_ := Aside0.mk (hb); have n1_ := Aside0.mk (ho); clear HB; clear HO_3; have HB := n0_; have HO353 := n1_; clear n0_ n1_; clear ho hb hg hat; obtain ⟨Ao36, co36, eo36⟩ := Kd.R_slice HO353.out; subst eo36; have p356 : 0 ≤ (x6_1 : Int) := of_decide_eq_true (by first | (with_reducible assumption) | assumption); have q356 : x6_1 < (l0.length : Int) := of_decide_eq_true (by first | (with_reducible assumption) | assumption); obtain ⟨ad356, e356, hx356_0, hx356_1, hx356_2⟩ := at_T70 HR0.out x6_1 p356 q356; obtain rfl : ad345 = ad356 := (by injection e356); replace hx356_0 := (HB.out.cell (World.block_lt_of_cell? w _ hx356_0)).trans hx356_0; replace hx356_1 := (HB.out.cell (World.block_lt_of_cell? w _ hx356_1)).trans hx356_1; replace hx356_2 := (HB.out.cell (World.block_lt_of_cell? w _ hx356_2)).trans hx356_2; replace p356 := eq_true p356; replace q356 := eq_true q356; have p34 : 0 ≤ ((ji31) : Int) := of_decide_eq_true (by first | (with_reducible assumption) | assumption); have q34 : ((ji31) : Int) < ((y351.length : Int) : Int) := of_decide_eq_true (by first | (with_reducible assumption) | assumption); obtain ⟨go34, co34, eo34, gb34, gl34, cl34, HG34⟩ := Kd.R_form HO353.out (by omega); (first | cases eo34 | (injection eo34 with ea_ en_ ec_; (first | subst ea_ | (injection ea_ with ea_; subst ea_)); subst ec_; clear en_)); have GB34 := Aside0.mk gb34; have GG34 := Aside0.mk HG34; clear gb34 gl34 HG34; obtain ⟨ce34, hcl34, hM34, hcc34, hfr34⟩ := Kd.R_elem HO353.out z91 ((ji31) : Int) p34 q34; obtain rfl := k91_openM hM34; have hx34_0 : w35.cell? ⟨go34, ((ji31) : Int).toNat * 3, none⟩ = some (.int .i64 ((rd_T91 y351 (ji31)).f0)) := hcc34 0 _ rfl; have hx34_1 : w35.cell? ⟨go34, ((ji31) : Int).toNat * 3 + 1, none⟩ = some (.int .i64 ((rd_T91 y351 (ji31)).f1)) := hcc34 1 _ rfl; have hx34_2 : w35.cell? ⟨go34, ((ji31) : Int).toNat * 3 + 2, none⟩ = some (.string ((rd_T91 y351 (ji31)).f2)) := hcc34 2 _ rfl; have hf34_0 : w35.frozen? ⟨go34, ((ji31) : Int).toNat * 3, none⟩ = false := hfr34 0; have hf34_1 : w35.frozen? ⟨go34, ((ji31) : Int).toNat * 3 + 1, none⟩ = false := hfr34 1; have hf34_2 : w35.frozen? ⟨go34, ((ji31) : Int).toNat * 3 + 2, none⟩ = false := hfr34 2; clear hcl34 hcc34 hfr34 hM34; replace p34 := eq_true p34; replace q34 := eq_true q34; have HX37 := Aside0.mk (show Kd.R k91 91 w35 w.heap.size (fun _ => True) (.slice (some ⟨go34, 0, none⟩) y351.length co36) y351 from (by (with_reducible repeat (first | apply Kd.R_alloc | apply Kd.R_drewN | apply Kd.R_drew)); exact HO353.out)); obtain ⟨ce37, hcl37, hM37, hcc37, hfr37⟩ := Kd.R_elem HX37.out z91 ((ji31) : Int) (of_decide_eq_true (by first | (with_reducible assumption) | assumption)) (by have h_ : ((ji31) : Int) < ((y351.length : Int) : Int) := of_decide_eq_true (by first | (with_reducible assumption) | assumption); first | exact h_ | (have e_ := (Kd.R_reads' HO353.out).1; omega) | simpa using h_); obtain rfl := k91_openM hM37; have HP37 := Kd.R_seg HX37.out ((ji31) : Int) (of_decide_eq_true (by first | (with_reducible assumption) | assumption)) (by have h_ : ((ji31) : Int) < ((y351.length : Int) : Int) := of_decide_eq_true (by first | (with_reducible assumption) | assumption); first | exact h_ | (have e_ := (Kd.R_reads' HO353.out).1; omega) | simpa using h_) (seg := [.int .i64 (wrap64 (x4_1 + ((rd_T70 l0 x6_1).f1)))]) (j := 1) hcl37 hcc37 (show 2 ≤ 3 from by decide) (x' := (⟨(rd_T91 y351 (ji31)).f0, wrap64 (x4_1 + ((rd_T70 l0 x6_1).f1)), (rd_T91 y351 (ji31)).f2⟩ : S91)) (k91_mkM _ _ _ (⟨(rd_T91 y351 (ji31)).f0, wrap64 (x4_1 + ((rd_T70 l0 x6_1).f1)), (rd_T91 y351 (ji31)).f2⟩ : S91) ) (fun _ hk => hk); have hx37_1 := hcc37 1 _ rfl; (try simp only [show (k91).sz = 3 from rfl, Nat.mul_one, Nat.add_zero] at hx37_1); have hf37_1 := hfr37 1; (try simp only [show (k91).sz = 3 from rfl, Nat.mul_one, Nat.add_zero] at hf37_1); clear hcl37 hcc37 hfr37 hM37) | ((with_reducible refine gate_store (t := 3) (p := 62) rfl ?_); refine store_event (t := 3) (p := 62) (v := ?vo_w38) (w1 := (w35.setCell ⟨go34, ((ji31) : Int).toNat * 3 + 1, none⟩ (.int .i64 (wrap64 (x4_1 + ((rd_T70 l0 x6_1).f1)))))) ?hg ?ho ?hn ?hr ?_; (case ho => rfl); (case hg => rfl); (case hn => rfl); (case hr => first | (go_simp; done) | (go_simp; rfl)); intro w38 hw; have hg : w35.grownBy w38 (some go34) := (by rw [hw]; exact HP37.2); have hp_ : Kd.R k91 91 w38 w.heap.size (fun _ => True) (.slice (some ⟨go34, 0, none⟩) y351.length co36) y357 := (by rw [hw, Ny357.out]; exact HP37.1); clear HP37; have n0_ := Aside0.mk (hp_); have n1_ := Aside0.mk ((by rw [hw]; exact below_set (HB.out) GB34.out : Below w.heap.size w w38)); clear HO353; clear HB; have HO353 := n0_; have HB := n1_; clear n0_ n1_; clear hg hw hp_))
                      go_roundg k1
                      case measure => have := HK1.out; omega
                      case rel => exact ⟨(y357), (wrap64 (x4_1 + ((rd_T70 l0 x6_1).f1))), (true), (wrap64 (x6_1 + 1)), (by first | rfl | (simp; done) | (simp [*]; done) | (simp; exact isEmpty_bne _)), (by first | rfl | (simp; done) | (simp [*]; done) | (simp; exact isEmpty_bne _)), (by first | rfl | (simp; done) | (simp [*]; done) | (simp; exact isEmpty_bne _)), H', ⟨by have := HK1.out; omega⟩, ⟨by (with_reducible repeat (first | apply Kd.R_alloc | apply Kd.R_drewN | apply Kd.R_drew)); exact HO353.out⟩, ⟨by repeat (first | (with_reducible first | exact HB.out | apply below_alloc | apply pw_below_drewN | apply below_drew1) | exact HB.out)⟩⟩
                    · rw [if_neg c33] at H
                      exact absurd H (by simp)
                  · rw [if_neg c32] at H
                    exact absurd H (by simp)
              · rw [if_neg c21] at H
                exact absurd H (by simp)
        · rw [if_neg c3] at H
          exact absurd H (by simp)
      · rw [if_neg c2] at H
        have c2b0 : decide (x6_1 < (l0.length : Int)) = false := decide_eq_false c2
        clear c2
        obtain rfl := Option.some.inj H
        go_wp2
        go_ret
        exact ⟨_, by first | rfl | (simp [errW_none, errW_some] <;> rfl) | (simp [*, errW_none, errW_some] <;> rfl), by (with_reducible repeat (first | apply Kd.R_alloc | apply Kd.R_drewN | apply Kd.R_drew)); exact HO_3.out, by repeat (first | (with_reducible first | exact HB.out | apply below_alloc | apply pw_below_drewN | apply below_drew1) | exact HB.out)⟩

end Go.Proofs.Ytidihnnkcmeaeaa.A
