/- Part of a claim: theorems about the program's functions, written by a program over the translation. No condition. -/
import Derived.Test.YtidihnnkcmeaeaaA0
import Derived.Test.YtidihnnkcmeaeaaMG1
import Derived.Test.YtidihnnkcmeaeaaA5
import Derived.Test.YtidihnnkcmeaeaaA25
import Derived.Test.YtidihnnkcmeaeaaECanon
import Derived.Test.YtidihnnkcmeaeaaEOver
namespace Go.Proofs.Ytidihnnkcmeaeaa.A
open Go.RowKit Go.Proofs.YtidihnnkcmeaeaaW.PrintWords Go.Proofs.YtidihnnkcmeaeaaW.PrintLast Go.Proofs.YtidihnnkcmeaeaaW.PrintMore
attribute [local go_sem] max2_int min2_int max_two min_two max_three min_three max_four min_four
set_option linter.unusedVariables false
set_option linter.unusedSimpArgs false
mutual
def shift_chained.l0 : Nat → List (List (S70)) → List (S70) → List (List (S70)) → Int → Int → Option (Int)
 | 0, _, _, _, _, _ => none
 | k + 1, x0, x1, x23, x24, x25 => if x25 < x24 then (if 0 ≤ x25 then (if x25 < (x23.length : Int) then ((delta_Lens.f k (rd_L6 x23 x25)).bind fun bt684 => (if bt684.2.2 = 0 then (shift_chained.l0 k x0 x1 x23 x24 (wrap64 (x25 + 1))) else (some bt684.2.2))) else (none)) else (none)) else ((delta_Lens.f k x1).bind fun bt687 => (shift_chained.l1 k bt687.1 x0 (x0.length : Int) 0))
def shift_chained.l1 : Nat → Int → List (List (S70)) → Int → Int → Option (Int)
 | 0, _, _, _, _ => none
 | k + 1, x10, x45, x46, x47 => if x47 < x46 then (if 0 ≤ x47 then (if x47 < (x45.length : Int) then ((delta_Lens.f k (rd_L6 x45 x47)).bind fun bt691 => (if bt691.1 = x10 then (shift_chained.l1 k bt691.2.1 x45 x46 (wrap64 (x47 + 1))) else (some 131))) else (none)) else (none)) else (some 0)
end
def shift_chained.f (k : Nat) (l0 : List (List (S70))) (l1 : List (S70)) : Option (Int) := (some (([] : List (List (S70))) : List (List (S70)))).bind fun y674 => (if y674.length + l0.length < 5864062014805 then ((some (y674 ++ l0 : List (List (S70)))).bind fun y677 => (if y677.length < 5864062014805 then ((some (y677 ++ [l1] : List (List (S70)))).bind fun y680 => (shift_chained.l0 k l0 l1 y680 (y680.length : Int) 0)) else (none))) else (none))
set_option maxHeartbeats 8000000 in
set_option maxRecDepth 100000 in
theorem shift_chained.calls (k : Nat) (P0_ : Nat → Prop) (A0 : Option Addr) (c0 : Nat) (l0 : List (List (S70))) (P1_ : Nat → Prop) (A1 : Option Addr) (c1 : Nat) (l1 : List (S70)) (r : Int) (w : World) (hs0 : Kd.V (Kd.slice 70 k70) 25 w w.heap.size (fun k_ => P0_ k_) (.slice A0 l0.length c0) l0) (hs1 : Kd.V k70 70 w w.heap.size (fun k_ => P1_ k_) (.slice A1 l1.length c1) l1) (h : shift_chained.f k l0 l1 = some r) :
  Calls Try.prog 87 #[.slice A0 l0.length c0, .slice A1 l1.length c1] w fun e w' => e = .returned (.int .i64 r) ∧ Below w.heap.size w w' := by
 have HO0 := Aside0.mk (show Kd.V (Kd.slice 70 k70) 25 w w.heap.size (fun k_ => ((P0_ k_ ∨ P1_ k_) ∨ w.heap.size ≤ k_)) (.slice A0 l0.length c0) l0 from Kd.V_mono hs0 (fun k_ hk => .inl (.inl hk)))
 have HO1 := Aside0.mk (show Kd.V k70 70 w w.heap.size (fun k_ => ((P0_ k_ ∨ P1_ k_) ∨ w.heap.size ≤ k_)) (.slice A1 l1.length c1) l1 from Kd.V_mono hs1 (fun k_ hk => .inl (.inr hk)))
 have HB := Aside0.mk (Below.refl w.heap.size w)
 have H : ((some (([] : List (List (S70))) : List (List (S70)))).bind fun y674 => (if y674.length + l0.length < 5864062014805 then ((some (y674 ++ l0 : List (List (S70)))).bind fun y677 => (if y677.length < 5864062014805 then ((some (y677 ++ [l1] : List (List (S70)))).bind fun y680 => (shift_chained.l0 k l0 l1 y680 (y680.length : Int) 0)) else (none))) else (none))) = some r := h
 clear h
 obtain ⟨y674, hy674⟩ : ∃ y_ : List (List (S70)), y_ = (([] : List (List (S70)))) := ⟨_, rfl⟩
 replace H : (if y674.length + l0.length < 5864062014805 then ((some (y674 ++ l0 : List (List (S70)))).bind fun y677 => (if y677.length < 5864062014805 then ((some (y677 ++ [l1] : List (List (S70)))).bind fun y680 => (shift_chained.l0 k l0 l1 y680 (y680.length : Int) 0)) else (none))) else (none)) = some r := by first | (rw [hy674]; with_reducible exact H) | (have H2_ := (Option.bind_some _ _).symm.trans H; rw [hy674]; with_reducible exact H2_) | (have H2_ := (Option.bind_some _ _).symm.trans H; with_reducible exact H2_) | with_reducible exact H | (rw [hy674]; exact H) | exact H
 have Ny674 := Aside0.mk hy674
 clear hy674
 by_cases c3 : y674.length + l0.length < 5864062014805
 ·
  rw [if_pos c3] at H
  have LMc3 := Aside0.mk c3
  clear c3
  obtain ⟨y677, hy677⟩ : ∃ y_ : List (List (S70)), y_ = (y674 ++ l0) := ⟨_, rfl⟩
  replace H : (if y677.length < 5864062014805 then ((some (y677 ++ [l1] : List (List (S70)))).bind fun y680 => (shift_chained.l0 k l0 l1 y680 (y680.length : Int) 0)) else (none)) = some r := by first | (rw [hy677]; with_reducible exact H) | (have H2_ := (Option.bind_some _ _).symm.trans H; rw [hy677]; with_reducible exact H2_) | (have H2_ := (Option.bind_some _ _).symm.trans H; with_reducible exact H2_) | with_reducible exact H | (rw [hy677]; exact H) | exact H
  have Ny677 := Aside0.mk hy677
  clear hy677
  by_cases c4 : y677.length < 5864062014805
  ·
   rw [if_pos c4] at H
   have LMc4 := Aside0.mk c4
   clear c4
   obtain ⟨y680, hy680⟩ : ∃ y_ : List (List (S70)), y_ = (y677 ++ [l1]) := ⟨_, rfl⟩
   replace H : (shift_chained.l0 k l0 l1 y680 (y680.length : Int) 0) = some r := by first | (rw [hy680]; with_reducible exact H) | (have H2_ := (Option.bind_some _ _).symm.trans H; rw [hy680]; with_reducible exact H2_) | (have H2_ := (Option.bind_some _ _).symm.trans H; with_reducible exact H2_) | with_reducible exact H | (rw [hy680]; exact H) | exact H
   have Ny680 := Aside0.mk hy680
   clear hy680
   have H' := Aside0.mk H
   clear H
   go_enter Try.func87, Try.ntmps87
   go_wp2_with (first | ((with_reducible refine gate_dst (N := 18) rfl ?_); refine Kd.N_lit (Kd.slice 70 k70) _ 25 ?hg (N' := 18) ?hd (xs := ([] : List (List (S70)))) (inner := []) (ok := (fun k_ => ((P0_ k_ ∨ P1_ k_) ∨ w.heap.size ≤ k_))) (okp := (fun k_ => ((P0_ k_ ∨ P1_ k_) ∨ w.heap.size ≤ k_))) ?hr ?hp (fun _ hk => hk) ((show ∀ k_, w.heap.size ≤ k_ → (fun k_ => ((P0_ k_ ∨ P1_ k_) ∨ w.heap.size ≤ k_)) k_ from fun k_ hk => (.inr (Nat.le_trans (below_size (by first | exact HB.out | exact pw_below_drewN HB.out _)) hk))) _ (Nat.le_refl _)) (Below.refl _ _) (Nat.le_refl _) (by simp) ?_; (case hd => rfl); (case hg => rfl); (case hr => first | (go_simp; done) | (go_simp; rfl)); (case hp => exact (Reps.none _ _)); intro v675 w5 ho6 hb hg_ hnew_; clear hg_ hnew_; (first | rw [← Ny674.out] at ho6 | (simp only [Int.reduceToNat] at ho6; rw [← Ny674.out] at ho6)); have n0_ := Aside0.mk (Kd.V_elder' (by first | exact HO0.out | exact Kd.V_drewN HO0.out _) (Kd.N_base ho6) hb); have n1_ := Aside0.mk (Kd.V_elder' (by first | exact HO1.out | exact Kd.V_drewN HO1.out _) (Kd.N_base ho6) hb); have n2_ := Aside0.mk (Kd.N_lower ho6 (below_size (by first | exact HB.out | exact pw_below_drewN HB.out _))); have n3_ := Aside0.mk (below_step (by first | exact HB.out | exact pw_below_drewN HB.out _) hb); clear HO0 HO1 HB; have HO0 := n0_; have HO1 := n1_; have HO676 := n2_; have HB := n3_; clear n0_ n1_ n2_ n3_; clear hb ho6) | ((with_reducible refine gate_builtin (b := .append) (xs := #[.tmp 18, .tmp 19]) rfl ?_); at_builtin; refine Kd.N_append_rows (Kd.slice 70 k70) (w0 := w) w.heap.size rfl (.tmp 18) (.tmp 19) 60 25 (.slice none 0 0) 24 rfl Try.underlying60 info25 rfl (by decide) (by omega) v675 y674 l0 _ _ _ (fun k_ => ((P0_ k_ ∨ P1_ k_) ∨ w.heap.size ≤ k_)) (fun k_ => ((fun k_ => ((P0_ k_ ∨ P1_ k_) ∨ w.heap.size ≤ k_))) k_ ∧ some k_ ≠ (v675 : Value).ownBlock) rfl rfl ?aO ?aR (fun _ hk => hk) ?aF ?aB ?aS ?aL ?_; (case aR => exact (by skip; exact Kd.V_F (Kd.V_mono (ok' := (fun k_ => ((fun k_ => ((P0_ k_ ∨ P1_ k_) ∨ w.heap.size ≤ k_))) k_ ∧ some k_ ≠ (v675 : Value).ownBlock)) (HO0.out) (fun k_ hk => ⟨hk.1, hk.2⟩)))); (case aB => exact (by first | exact HB.out | exact pw_below_drewN HB.out _)); (case aF => exact (fun k_ hk => (.inr (Nat.le_trans (below_size (by first | exact HB.out | exact pw_below_drewN HB.out _)) hk)))); (case aO => exact (by first | exact HO676.out | exact Kd.N_drewN HO676.out _)); (case aS => exact (below_size (by first | exact HB.out | exact pw_below_drewN HB.out _))); (case aL => have := LMc3.out; omega); intro v678 w7 ho hb hg hat; rw [← Ny677.out] at ho; have n0_ := Aside0.mk (Kd.V_afterv (ok := (fun k_ => ((P0_ k_ ∨ P1_ k_) ∨ w.heap.size ≤ k_))) (by first | exact HO0.out | exact Kd.V_drewN HO0.out _) hg hat); have n1_ := Aside0.mk (Kd.V_afterv (ok := (fun k_ => ((P0_ k_ ∨ P1_ k_) ∨ w.heap.size ≤ k_))) (by first | exact HO1.out | exact Kd.V_drewN HO1.out _) hg hat); have n2_ := Aside0.mk (hb); have n3_ := Aside0.mk (ho); clear HO0 HO1 HB HO676; have HO0 := n0_; have HO1 := n1_; have HB := n2_; have HO679 := n3_; clear n0_ n1_ n2_ n3_; clear ho hb hg hat) | ((with_reducible refine gate_builtin (b := .append) (xs := #[.tmp 20, .tmp 22]) rfl ?_); at_builtin; refine Kd.N_append (Kd.slice 70 k70) (w0 := w) w.heap.size rfl (.tmp 20) (.tmp 22) 60 25 (.slice none 0 0) 24 rfl Try.underlying60 info25 rfl (by decide) (by omega) v678 y677 l1 [.slice A1 l1.length c1] (fun k_ => ((P0_ k_ ∨ P1_ k_) ∨ w.heap.size ≤ k_)) (fun k_ => ((fun k_ => ((P0_ k_ ∨ P1_ k_) ∨ w.heap.size ≤ k_))) k_ ∧ some k_ ≠ (v678 : Value).ownBlock) rfl rfl ?aP (fun _ hk => hk) ?aF ?aO ?aB ?aS ?aL ?_; (case aP => exact (Kd.FK_slice_mk (Kd.V_reads' (Kd.V_mono (ok' := (fun k_ => ((fun k_ => ((P0_ k_ ∨ P1_ k_) ∨ w.heap.size ≤ k_))) k_ ∧ some k_ ≠ (v678 : Value).ownBlock)) (HO1.out) (fun k_ hk => ⟨hk.1, hk.2⟩))).2.1 (Kd.V_F (Kd.V_mono (ok' := (fun k_ => ((fun k_ => ((P0_ k_ ∨ P1_ k_) ∨ w.heap.size ≤ k_))) k_ ∧ some k_ ≠ (v678 : Value).ownBlock)) (HO1.out) (fun k_ hk => ⟨hk.1, hk.2⟩))))); (case aB => exact (by first | exact HB.out | exact pw_below_drewN HB.out _)); (case aF => exact (fun k_ hk => (.inr (Nat.le_trans (below_size (by first | exact HB.out | exact pw_below_drewN HB.out _)) hk)))); (case aO => exact (by first | exact HO679.out | exact Kd.N_drewN HO679.out _)); (case aS => exact (below_size (by first | exact HB.out | exact pw_below_drewN HB.out _))); (case aL => have := LMc4.out; omega); intro v681 w8 ho hb hg hat; rw [← Ny680.out] at ho; have n0_ := Aside0.mk (Kd.V_afterv (ok := (fun k_ => ((P0_ k_ ∨ P1_ k_) ∨ w.heap.size ≤ k_))) (by first | exact HO0.out | exact Kd.V_drewN HO0.out _) hg hat); have n1_ := Aside0.mk (Kd.V_afterv (ok := (fun k_ => ((P0_ k_ ∨ P1_ k_) ∨ w.heap.size ≤ k_))) (by first | exact HO1.out | exact Kd.V_drewN HO1.out _) hg hat); have n2_ := Aside0.mk (hb); have n3_ := Aside0.mk (ho); clear HO0 HO1 HB HO679; have HO0 := n0_; have HO1 := n1_; have HB := n2_; have HO682 := n3_; clear n0_ n1_ n2_ n3_; clear ho hb hg hat; obtain ⟨Ao9, co9, eo9⟩ := Kd.N_slice HO682.out; subst eo9))
   go_loopg [25] k (fun kq v25 w' => ∃ (x25_1 : Int), v25 = .int .i64 x25_1 ∧ Aside0 (shift_chained.l0 kq l0 l1 y680 (y680.length : Int) x25_1 = some r) ∧ Aside0 (kq ≤ k) ∧ Aside0 (Kd.V (Kd.slice 70 k70) 25 w' w.heap.size (fun k_ => ((P0_ k_ ∨ P1_ k_) ∨ w.heap.size ≤ k_) ∧ some k_ ≠ ((.slice Ao9 y680.length co9) : Value).ownBlock) (.slice A0 l0.length c0) l0) ∧ Aside0 (Kd.V k70 70 w' w.heap.size (fun k_ => ((P0_ k_ ∨ P1_ k_) ∨ w.heap.size ≤ k_) ∧ some k_ ≠ ((.slice Ao9 y680.length co9) : Value).ownBlock) (.slice A1 l1.length c1) l1) ∧ Aside0 (Kd.N (Kd.slice 70 k70) 25 w' w.heap.size (fun k_ => ((P0_ k_ ∨ P1_ k_) ∨ w.heap.size ≤ k_)) (.slice Ao9 y680.length co9) y680) ∧ Aside0 (Below w.heap.size w w'))
   case atStart => exact ⟨(0), (by first | rfl | (simp; done) | (simp [*]; done) | (simp; exact isEmpty_bne _)), H', ⟨Nat.le_refl _⟩, ⟨by (with_reducible repeat (first | apply Kd.V_alloc | apply Kd.V_drewN | apply Kd.V_drew)); exact HO0.out⟩, ⟨by (with_reducible repeat (first | apply Kd.V_alloc | apply Kd.V_drewN | apply Kd.V_drew)); exact HO1.out⟩, ⟨by (with_reducible repeat (first | apply Kd.N_alloc | apply Kd.N_drewN | apply Kd.N_drew)); exact HO682.out⟩, ⟨by repeat (first | (with_reducible first | exact HB.out | apply below_alloc | apply pw_below_drewN | apply below_drew1) | exact HB.out)⟩⟩
   case round =>
    clear H'
    (try clear c1); (try clear p2); (try clear c3); (try clear c4); (try clear c8)
    obtain ⟨x25_1, rfl, HA, HK1, HO_0, HO_1, HO_23, HB⟩ := hrel
    cases gk with
    | zero => exact absurd HA.out (by simp [shift_chained.l0])
    | succ k1 =>
     have H := HA.out
     clear HA
     simp only [shift_chained.l0] at H
     by_cases c10 : x25_1 < (y680.length : Int)
     ·
      rw [if_pos c10] at H
      have c10b0 : decide (x25_1 < (y680.length : Int)) = true := decide_eq_true c10
      clear c10
      by_cases c11 : 0 ≤ x25_1
      ·
       rw [if_pos c11] at H
       have c11b0 : decide (0 ≤ x25_1) = true := decide_eq_true c11
       clear c11
       by_cases c12 : x25_1 < (y680.length : Int)
       ·
        rw [if_pos c12] at H
        have c12b0 : decide (x25_1 < (y680.length : Int)) = true := decide_eq_true c12
        clear c12
        replace H := Option.bind_eq_some_iff.mp H
        obtain ⟨⟨t684, t685, t686⟩, A130, H⟩ := H
        try dsimp only at H
        have A13 := Aside0.mk A130
        clear A130
        by_cases c14 : t686 = 0
        ·
         rw [if_pos c14] at H
         have c14b0 : (t686 == 0) = true := beq_iff_eq.mpr c14
         have c14b1 : (t686 != 0) = false := bne_eq_false_iff_eq.mpr c14
         clear c14
         have H' := Aside0.mk H
         clear H
         have p683 : 0 ≤ (x25_1 : Int) := of_decide_eq_true (by first | (with_reducible assumption) | assumption)
         have q683 : x25_1 < (y680.length : Int) := of_decide_eq_true (by first | (with_reducible assumption) | assumption)
         obtain ⟨ad683, A683_0, c683_0, e683, hx683_0, hl683_0, hi683_0⟩ := at_L6 (Kd.N_reads' HO_23.out).2.2 x25_1 p683 q683
         cases e683
         obtain ⟨ce683, hce683, hMe683, hcc683⟩ := Kd.N_get HO_23.out [] x25_1 p683 (by first | exact q683 | exact of_decide_eq_true (by first | (with_reducible assumption) | assumption) | (have e_ := (Kd.N_reads' HO_23.out).1; omega))
         obtain ⟨ua683_0, uc683_0, rfl, ul683_0, ge683_0⟩ := Kd.FK_slice_open hMe683
         have hv683_0 := hcc683 0 _ rfl
         rw [Nat.add_zero, show ((Kd.slice 70 k70)).sz = 1 from rfl, Nat.mul_one] at hv683_0
         replace hv683_0 := Option.some.inj (hv683_0.symm.trans hx683_0)
         injection hv683_0 with hva_ hvn_ hvc_
         rw [hva_] at ge683_0
         rw [hvc_] at ul683_0
         have HL683_0 := Aside0.mk (show Kd.V k70 70 _ w.heap.size _ _ (rd_L6 y680 x25_1) from Kd.V_mk ul683_0 ge683_0)
         clear hva_ hvn_ hvc_ ge683_0 ul683_0
         clear hcc683 hce683
         have HR683_0 := Aside0.mk hi683_0
         have HC683_0 := Aside0.mk hl683_0
         clear hi683_0 hl683_0
         replace p683 := eq_true p683
         replace q683 := eq_true q683
         go_wp2_with (first | ((with_reducible refine gate_callee (f := 38) rfl ?_); refine goesL_ (some 31) rfl rfl Try.func38 (by kernel_rfl) rfl #[.slice A683_0 (rd_L6 y680 x25_1).length c683_0] rfl (by (try simp only [List.map_toArray, List.map_cons, List.map_nil]); first | done | rfl | (simp only [List.length_drop, List.length_take]; rfl)) ?_; (with_reducible refine (delta_Lens.calls k1 _ _ (rd_L6 y680 x25_1) t684 t685 t686 _ ?side1 ?side2 A13.out).mono ?_); (case side1 => repeat (first | exact (by repeat (first | (with_reducible exact HR683_0.out) | (with_reducible refine Kd.C_alloc ?_ _) | (with_reducible refine Kd.C_drewN ?_ _) | (with_reducible refine Kd.C_drew ?_) | exact HR683_0.out)) | (with_reducible refine Kd.C_alloc ?_ _) | (with_reducible refine Kd.C_drewN ?_ _) | (with_reducible refine Kd.C_drew ?_))); (case side2 => exact HC683_0.out); rintro e w15 ⟨rfl, hb⟩; refine ⟨_, rfl, ?_⟩; have n0_ := Aside0.mk (Kd.V_below (by first | exact HO_0.out | exact Kd.V_drewN HO_0.out _) hb); have n1_ := Aside0.mk (Kd.V_below (by first | exact HO_1.out | exact Kd.V_drewN HO_1.out _) hb); have n2_ := Aside0.mk (Kd.N_below (by first | exact HO_23.out | exact Kd.N_drewN HO_23.out _) hb); have n3_ := Aside0.mk (Kd.V_below (by first | exact HL683_0.out | exact Kd.V_drewN HL683_0.out _) hb); have n4_ := Aside0.mk (Kd.C_below (by repeat (first | (with_reducible exact HR683_0.out) | (with_reducible refine Kd.C_alloc ?_ _) | (with_reducible refine Kd.C_drewN ?_ _) | (with_reducible refine Kd.C_drew ?_) | exact HR683_0.out)) hb); have n5_ := Aside0.mk (below_step (by first | exact HB.out | exact pw_below_drewN HB.out _) hb); clear HO_0 HO_1 HO_23 HL683_0 HR683_0 HB; have HO_0 := n0_; have HO_1 := n1_; have HO_23 := n2_; have HL683_0 := n3_; have HR683_0 := n4_; have HB := n5_; clear n0_ n1_ n2_ n3_ n4_ n5_; (try clear hb); (try clear hb2); (try clear hk); (try clear hi)))
         go_roundg k1
         case measure => have := HK1.out; omega
         case rel => exact ⟨(wrap64 (x25_1 + 1)), (by first | rfl | (simp; done) | (simp [*]; done) | (simp; exact isEmpty_bne _)), H', ⟨by have := HK1.out; omega⟩, ⟨by (with_reducible repeat (first | apply Kd.V_alloc | apply Kd.V_drewN | apply Kd.V_drew)); exact HO_0.out⟩, ⟨by (with_reducible repeat (first | apply Kd.V_alloc | apply Kd.V_drewN | apply Kd.V_drew)); exact HO_1.out⟩, ⟨by (with_reducible repeat (first | apply Kd.N_alloc | apply Kd.N_drewN | apply Kd.N_drew)); exact HO_23.out⟩, ⟨by repeat (first | (with_reducible first | exact HB.out | apply below_alloc | apply pw_below_drewN | apply below_drew1) | exact HB.out)⟩⟩
        ·
         rw [if_neg c14] at H
         have c14b0 : (t686 == 0) = false := beq_eq_false_iff_ne.mpr c14
         have c14b1 : (t686 != 0) = true := bne_iff_ne.mpr c14
         obtain rfl := Option.some.inj H
         have p683 : 0 ≤ (x25_1 : Int) := of_decide_eq_true (by first | (with_reducible assumption) | assumption)
         have q683 : x25_1 < (y680.length : Int) := of_decide_eq_true (by first | (with_reducible assumption) | assumption)
         obtain ⟨ad683, A683_0, c683_0, e683, hx683_0, hl683_0, hi683_0⟩ := at_L6 (Kd.N_reads' HO_23.out).2.2 x25_1 p683 q683
         cases e683
         obtain ⟨ce683, hce683, hMe683, hcc683⟩ := Kd.N_get HO_23.out [] x25_1 p683 (by first | exact q683 | exact of_decide_eq_true (by first | (with_reducible assumption) | assumption) | (have e_ := (Kd.N_reads' HO_23.out).1; omega))
         obtain ⟨ua683_0, uc683_0, rfl, ul683_0, ge683_0⟩ := Kd.FK_slice_open hMe683
         have hv683_0 := hcc683 0 _ rfl
         rw [Nat.add_zero, show ((Kd.slice 70 k70)).sz = 1 from rfl, Nat.mul_one] at hv683_0
         replace hv683_0 := Option.some.inj (hv683_0.symm.trans hx683_0)
         injection hv683_0 with hva_ hvn_ hvc_
         rw [hva_] at ge683_0
         rw [hvc_] at ul683_0
         have HL683_0 := Aside0.mk (show Kd.V k70 70 _ w.heap.size _ _ (rd_L6 y680 x25_1) from Kd.V_mk ul683_0 ge683_0)
         clear hva_ hvn_ hvc_ ge683_0 ul683_0
         clear hcc683 hce683
         have HR683_0 := Aside0.mk hi683_0
         have HC683_0 := Aside0.mk hl683_0
         clear hi683_0 hl683_0
         replace p683 := eq_true p683
         replace q683 := eq_true q683
         go_wp2_with (first | ((with_reducible refine gate_callee (f := 38) rfl ?_); refine goesL_ (some 31) rfl rfl Try.func38 (by kernel_rfl) rfl #[.slice A683_0 (rd_L6 y680 x25_1).length c683_0] rfl (by (try simp only [List.map_toArray, List.map_cons, List.map_nil]); first | done | rfl | (simp only [List.length_drop, List.length_take]; rfl)) ?_; (with_reducible refine (delta_Lens.calls k1 _ _ (rd_L6 y680 x25_1) t684 t685 t686 _ ?side1 ?side2 A13.out).mono ?_); (case side1 => repeat (first | exact (by repeat (first | (with_reducible exact HR683_0.out) | (with_reducible refine Kd.C_alloc ?_ _) | (with_reducible refine Kd.C_drewN ?_ _) | (with_reducible refine Kd.C_drew ?_) | exact HR683_0.out)) | (with_reducible refine Kd.C_alloc ?_ _) | (with_reducible refine Kd.C_drewN ?_ _) | (with_reducible refine Kd.C_drew ?_))); (case side2 => exact HC683_0.out); rintro e w16 ⟨rfl, hb⟩; refine ⟨_, rfl, ?_⟩; have n0_ := Aside0.mk (Kd.V_below (by first | exact HO_0.out | exact Kd.V_drewN HO_0.out _) hb); have n1_ := Aside0.mk (Kd.V_below (by first | exact HO_1.out | exact Kd.V_drewN HO_1.out _) hb); have n2_ := Aside0.mk (Kd.N_below (by first | exact HO_23.out | exact Kd.N_drewN HO_23.out _) hb); have n3_ := Aside0.mk (Kd.V_below (by first | exact HL683_0.out | exact Kd.V_drewN HL683_0.out _) hb); have n4_ := Aside0.mk (Kd.C_below (by repeat (first | (with_reducible exact HR683_0.out) | (with_reducible refine Kd.C_alloc ?_ _) | (with_reducible refine Kd.C_drewN ?_ _) | (with_reducible refine Kd.C_drew ?_) | exact HR683_0.out)) hb); have n5_ := Aside0.mk (below_step (by first | exact HB.out | exact pw_below_drewN HB.out _) hb); clear HO_0 HO_1 HO_23 HL683_0 HR683_0 HB; have HO_0 := n0_; have HO_1 := n1_; have HO_23 := n2_; have HL683_0 := n3_; have HR683_0 := n4_; have HB := n5_; clear n0_ n1_ n2_ n3_ n4_ n5_; (try clear hb); (try clear hb2); (try clear hk); (try clear hi)))
         go_ret
         exact ⟨by first | rfl | (simp [errW_none, errW_some] <;> rfl) | (simp [*, errW_none, errW_some] <;> rfl), by repeat (first | (with_reducible first | exact HB.out | apply below_alloc | apply pw_below_drewN | apply below_drew1) | exact HB.out)⟩
       ·
        rw [if_neg c12] at H
        exact absurd H (by simp)
      ·
       rw [if_neg c11] at H
       exact absurd H (by simp)
     ·
      rw [if_neg c10] at H
      have c10b0 : decide (x25_1 < (y680.length : Int)) = false := decide_eq_false c10
      clear c10
      replace H := Option.bind_eq_some_iff.mp H
      obtain ⟨⟨t687, t688, t689⟩, A170, H⟩ := H
      try dsimp only at H
      have A17 := Aside0.mk A170
      clear A170
      have H' := Aside0.mk H
      clear H
      go_wp2_with (first | ((with_reducible refine gate_callee (f := 38) rfl ?_); refine goesL_ (some 41) rfl rfl Try.func38 (by kernel_rfl) rfl #[.slice A1 l1.length c1] rfl (by (try simp only [List.map_toArray, List.map_cons, List.map_nil]); first | done | rfl | (simp only [List.length_drop, List.length_take]; rfl)) ?_; (with_reducible refine (delta_Lens.calls k1 _ _ l1 t687 t688 t689 _ ?side1 ?side2 A17.out).mono ?_); (case side1 => repeat (first | exact (Kd.V_reads' HO_1.out).2.2 | (with_reducible refine Kd.C_alloc ?_ _) | (with_reducible refine Kd.C_drewN ?_ _) | (with_reducible refine Kd.C_drew ?_))); (case side2 => exact (Kd.V_reads' HO_1.out).2.1); rintro e w18 ⟨rfl, hb⟩; refine ⟨_, rfl, ?_⟩; have n0_ := Aside0.mk (Kd.V_below (by first | exact HO_0.out | exact Kd.V_drewN HO_0.out _) hb); have n1_ := Aside0.mk (Kd.V_below (by first | exact HO_1.out | exact Kd.V_drewN HO_1.out _) hb); have n2_ := Aside0.mk (Kd.N_below (by first | exact HO_23.out | exact Kd.N_drewN HO_23.out _) hb); have n3_ := Aside0.mk (below_step (by first | exact HB.out | exact pw_below_drewN HB.out _) hb); clear HO_0 HO_1 HO_23 HB; have HO_0 := n0_; have HO_1 := n1_; have HO_23 := n2_; have HB := n3_; clear n0_ n1_ n2_ n3_; (try clear hb); (try clear hb2); (try clear hk); (try clear hi)))
      go_loopg [10, 47] k1 (fun kq v10 v47 w' => ∃ (x10_2 : Int) (x47_2 : Int), v10 = .int .i64 x10_2 ∧ v47 = .int .i64 x47_2 ∧ Aside0 (shift_chained.l1 kq x10_2 l0 (l0.length : Int) x47_2 = some r) ∧ Aside0 (kq ≤ k1) ∧ Aside0 (Kd.V (Kd.slice 70 k70) 25 w' w.heap.size (fun k_ => ((P0_ k_ ∨ P1_ k_) ∨ w.heap.size ≤ k_)) (.slice A0 l0.length c0) l0) ∧ Aside0 (Below w.heap.size w w'))
      case atStart => exact ⟨(t687), (0), (by first | rfl | (simp; done) | (simp [*]; done) | (simp; exact isEmpty_bne _)), (by first | rfl | (simp; done) | (simp [*]; done) | (simp; exact isEmpty_bne _)), H', ⟨Nat.le_refl _⟩, ⟨by (with_reducible repeat (first | apply Kd.V_alloc | apply Kd.V_drewN | apply Kd.V_drew)); exact Kd.V_mono HO_0.out (fun _ hk => hk.1)⟩, ⟨by repeat (first | (with_reducible first | exact HB.out | apply below_alloc | apply pw_below_drewN | apply below_drew1) | exact HB.out)⟩⟩
      case round =>
       clear H'
       (try clear c1); (try clear p2); (try clear c3); (try clear c4); (try clear c6); (try clear p6); (try clear q6); (try clear hx6); (try clear c8); (try clear c10); (try clear c10b0); (try clear c11); (try clear c11b0); (try clear c12); (try clear c12b0); (try clear c14); (try clear c14b0); (try clear c14b1); (try clear hx683_0); (try clear p2); (try clear p683); (try clear q683)
       obtain ⟨x10_2, x47_2, rfl, rfl, HA, HK2, HO_45, HB⟩ := hrel
       cases gk with
       | zero => exact absurd HA.out (by simp [shift_chained.l1])
       | succ k2 =>
        have H := HA.out
        clear HA
        simp only [shift_chained.l1] at H
        by_cases c19 : x47_2 < (l0.length : Int)
        ·
         rw [if_pos c19] at H
         have c19b0 : decide (x47_2 < (l0.length : Int)) = true := decide_eq_true c19
         clear c19
         by_cases c20 : 0 ≤ x47_2
         ·
          rw [if_pos c20] at H
          have c20b0 : decide (0 ≤ x47_2) = true := decide_eq_true c20
          clear c20
          by_cases c21 : x47_2 < (l0.length : Int)
          ·
           rw [if_pos c21] at H
           have c21b0 : decide (x47_2 < (l0.length : Int)) = true := decide_eq_true c21
           clear c21
           replace H := Option.bind_eq_some_iff.mp H
           obtain ⟨⟨t691, t692, t693⟩, A220, H⟩ := H
           try dsimp only at H
           have A22 := Aside0.mk A220
           clear A220
           by_cases c23 : t691 = x10_2
           ·
            rw [if_pos c23] at H
            have c23b0 : (t691 == x10_2) = true := beq_iff_eq.mpr c23
            have c23b1 : (t691 != x10_2) = false := bne_eq_false_iff_eq.mpr c23
            clear c23
            have H' := Aside0.mk H
            clear H
            have p690 : 0 ≤ (x47_2 : Int) := of_decide_eq_true (by first | (with_reducible assumption) | assumption)
            have q690 : x47_2 < (l0.length : Int) := of_decide_eq_true (by first | (with_reducible assumption) | assumption)
            obtain ⟨ad690, A690_0, c690_0, e690, hx690_0, hl690_0, hi690_0⟩ := at_L6 (Kd.V_reads' HO_45.out).2.2 x47_2 p690 q690
            cases e690
            obtain ⟨ce690, hce690, hMe690, hcc690⟩ := Kd.V_get HO_45.out [] x47_2 p690 (by first | exact q690 | exact of_decide_eq_true (by first | (with_reducible assumption) | assumption) | (have e_ := (Kd.V_reads' HO_45.out).1; omega))
            obtain ⟨ua690_0, uc690_0, rfl, ul690_0, ge690_0⟩ := Kd.FK_slice_open hMe690
            have hv690_0 := hcc690 0 _ rfl
            rw [Nat.add_zero, show ((Kd.slice 70 k70)).sz = 1 from rfl, Nat.mul_one] at hv690_0
            replace hv690_0 := Option.some.inj (hv690_0.symm.trans hx690_0)
            injection hv690_0 with hva_ hvn_ hvc_
            rw [hva_] at ge690_0
            rw [hvc_] at ul690_0
            have HL690_0 := Aside0.mk (show Kd.V k70 70 _ w.heap.size _ _ (rd_L6 l0 x47_2) from Kd.V_mk ul690_0 ge690_0)
            clear hva_ hvn_ hvc_ ge690_0 ul690_0
            clear hcc690 hce690
            have HR690_0 := Aside0.mk hi690_0
            have HC690_0 := Aside0.mk hl690_0
            clear hi690_0 hl690_0
            replace p690 := eq_true p690
            replace q690 := eq_true q690
            go_wp2_with (first | ((with_reducible refine gate_callee (f := 38) rfl ?_); refine goesL_ (some 53) rfl rfl Try.func38 (by kernel_rfl) rfl #[.slice A690_0 (rd_L6 l0 x47_2).length c690_0] rfl (by (try simp only [List.map_toArray, List.map_cons, List.map_nil]); first | done | rfl | (simp only [List.length_drop, List.length_take]; rfl)) ?_; (with_reducible refine (delta_Lens.calls k2 _ _ (rd_L6 l0 x47_2) t691 t692 t693 _ ?side1 ?side2 A22.out).mono ?_); (case side1 => repeat (first | exact (by repeat (first | (with_reducible exact HR690_0.out) | (with_reducible refine Kd.C_alloc ?_ _) | (with_reducible refine Kd.C_drewN ?_ _) | (with_reducible refine Kd.C_drew ?_) | exact HR690_0.out)) | (with_reducible refine Kd.C_alloc ?_ _) | (with_reducible refine Kd.C_drewN ?_ _) | (with_reducible refine Kd.C_drew ?_))); (case side2 => exact HC690_0.out); rintro e w24 ⟨rfl, hb⟩; refine ⟨_, rfl, ?_⟩; have n0_ := Aside0.mk (Kd.V_below (by first | exact HO_45.out | exact Kd.V_drewN HO_45.out _) hb); have n1_ := Aside0.mk (Kd.V_below (by first | exact HL690_0.out | exact Kd.V_drewN HL690_0.out _) hb); have n2_ := Aside0.mk (Kd.C_below (by repeat (first | (with_reducible exact HR690_0.out) | (with_reducible refine Kd.C_alloc ?_ _) | (with_reducible refine Kd.C_drewN ?_ _) | (with_reducible refine Kd.C_drew ?_) | exact HR690_0.out)) hb); have n3_ := Aside0.mk (below_step (by first | exact HB.out | exact pw_below_drewN HB.out _) hb); clear HO_45 HL690_0 HR690_0 HB; have HO_45 := n0_; have HL690_0 := n1_; have HR690_0 := n2_; have HB := n3_; clear n0_ n1_ n2_ n3_; (try clear hb); (try clear hb2); (try clear hk); (try clear hi)))
            go_roundg k2
            case measure => have := HK1.out; have := HK2.out; omega
            case rel => exact ⟨(t692), (wrap64 (x47_2 + 1)), (by first | rfl | (simp; done) | (simp [*]; done) | (simp; exact isEmpty_bne _)), (by first | rfl | (simp; done) | (simp [*]; done) | (simp; exact isEmpty_bne _)), H', ⟨by have := HK1.out; have := HK2.out; omega⟩, ⟨by (with_reducible repeat (first | apply Kd.V_alloc | apply Kd.V_drewN | apply Kd.V_drew)); exact HO_45.out⟩, ⟨by repeat (first | (with_reducible first | exact HB.out | apply below_alloc | apply pw_below_drewN | apply below_drew1) | exact HB.out)⟩⟩
           ·
            rw [if_neg c23] at H
            have c23b0 : (t691 == x10_2) = false := beq_eq_false_iff_ne.mpr c23
            have c23b1 : (t691 != x10_2) = true := bne_iff_ne.mpr c23
            obtain rfl := Option.some.inj H
            have p690 : 0 ≤ (x47_2 : Int) := of_decide_eq_true (by first | (with_reducible assumption) | assumption)
            have q690 : x47_2 < (l0.length : Int) := of_decide_eq_true (by first | (with_reducible assumption) | assumption)
            obtain ⟨ad690, A690_0, c690_0, e690, hx690_0, hl690_0, hi690_0⟩ := at_L6 (Kd.V_reads' HO_45.out).2.2 x47_2 p690 q690
            cases e690
            obtain ⟨ce690, hce690, hMe690, hcc690⟩ := Kd.V_get HO_45.out [] x47_2 p690 (by first | exact q690 | exact of_decide_eq_true (by first | (with_reducible assumption) | assumption) | (have e_ := (Kd.V_reads' HO_45.out).1; omega))
            obtain ⟨ua690_0, uc690_0, rfl, ul690_0, ge690_0⟩ := Kd.FK_slice_open hMe690
            have hv690_0 := hcc690 0 _ rfl
            rw [Nat.add_zero, show ((Kd.slice 70 k70)).sz = 1 from rfl, Nat.mul_one] at hv690_0
            replace hv690_0 := Option.some.inj (hv690_0.symm.trans hx690_0)
            injection hv690_0 with hva_ hvn_ hvc_
            rw [hva_] at ge690_0
            rw [hvc_] at ul690_0
            have HL690_0 := Aside0.mk (show Kd.V k70 70 _ w.heap.size _ _ (rd_L6 l0 x47_2) from Kd.V_mk ul690_0 ge690_0)
            clear hva_ hvn_ hvc_ ge690_0 ul690_0
            clear hcc690 hce690
            have HR690_0 := Aside0.mk hi690_0
            have HC690_0 := Aside0.mk hl690_0
            clear hi690_0 hl690_0
            replace p690 := eq_true p690
            replace q690 := eq_true q690
            go_wp2_with (first | ((with_reducible refine gate_callee (f := 38) rfl ?_); refine goesL_ (some 53) rfl rfl Try.func38 (by kernel_rfl) rfl #[.slice A690_0 (rd_L6 l0 x47_2).length c690_0] rfl (by (try simp only [List.map_toArray, List.map_cons, List.map_nil]); first | done | rfl | (simp only [List.length_drop, List.length_take]; rfl)) ?_; (with_reducible refine (delta_Lens.calls k2 _ _ (rd_L6 l0 x47_2) t691 t692 t693 _ ?side1 ?side2 A22.out).mono ?_); (case side1 => repeat (first | exact (by repeat (first | (with_reducible exact HR690_0.out) | (with_reducible refine Kd.C_alloc ?_ _) | (with_reducible refine Kd.C_drewN ?_ _) | (with_reducible refine Kd.C_drew ?_) | exact HR690_0.out)) | (with_reducible refine Kd.C_alloc ?_ _) | (with_reducible refine Kd.C_drewN ?_ _) | (with_reducible refine Kd.C_drew ?_))); (case side2 => exact HC690_0.out); rintro e w25 ⟨rfl, hb⟩; refine ⟨_, rfl, ?_⟩; have n0_ := Aside0.mk (Kd.V_below (by first | exact HO_45.out | exact Kd.V_drewN HO_45.out _) hb); have n1_ := Aside0.mk (Kd.V_below (by first | exact HL690_0.out | exact Kd.V_drewN HL690_0.out _) hb); have n2_ := Aside0.mk (Kd.C_below (by repeat (first | (with_reducible exact HR690_0.out) | (with_reducible refine Kd.C_alloc ?_ _) | (with_reducible refine Kd.C_drewN ?_ _) | (with_reducible refine Kd.C_drew ?_) | exact HR690_0.out)) hb); have n3_ := Aside0.mk (below_step (by first | exact HB.out | exact pw_below_drewN HB.out _) hb); clear HO_45 HL690_0 HR690_0 HB; have HO_45 := n0_; have HL690_0 := n1_; have HR690_0 := n2_; have HB := n3_; clear n0_ n1_ n2_ n3_; (try clear hb); (try clear hb2); (try clear hk); (try clear hi)))
            go_ret
            exact ⟨by first | rfl | (simp [errW_none, errW_some] <;> rfl) | (simp [*, errW_none, errW_some] <;> rfl), by repeat (first | (with_reducible first | exact HB.out | apply below_alloc | apply pw_below_drewN | apply below_drew1) | exact HB.out)⟩
          ·
           rw [if_neg c21] at H
           exact absurd H (by simp)
         ·
          rw [if_neg c20] at H
          exact absurd H (by simp)
        ·
         rw [if_neg c19] at H
         have c19b0 : decide (x47_2 < (l0.length : Int)) = false := decide_eq_false c19
         clear c19
         obtain rfl := Option.some.inj H
         go_wp2
         go_ret
         exact ⟨by first | rfl | (simp [errW_none, errW_some] <;> rfl) | (simp [*, errW_none, errW_some] <;> rfl), by repeat (first | (with_reducible first | exact HB.out | apply below_alloc | apply pw_below_drewN | apply below_drew1) | exact HB.out)⟩
  ·
   rw [if_neg c4] at H
   exact absurd H (by simp)
 ·
  rw [if_neg c3] at H
  exact absurd H (by simp)
def shift_Chain.l0 : Nat → List (S70) → List (List (S70)) → List (List (S70)) → Int → Int → Option ((List (S70)) × (List (List (S70))) × Int)
 | 0, _, _, _, _, _ => none
 | k + 1, x8, x10, x27, x28, x29 => if x29 < x28 then (if 0 ≤ x29 then (if x29 < (x27.length : Int) then ((shift_Both.f (rd_L6 x27 x29) x8).bind fun bt700 => (if bt700.2.2 = 0 then (if x10.length < 5864062014805 then (shift_Chain.l0 k bt700.2.1 (x10 ++ [bt700.1]) x27 x28 (wrap64 (x29 + 1))) else (none)) else (some (([] : List (S70)), ([] : List (List (S70))), bt700.2.2)))) else (none)) else (none)) else (some (x8, x10, 0))
def shift_Chain.f (k : Nat) (l0 : List (List (S70))) (l1 : List (S70)) : Option ((List (S70)) × (List (List (S70))) × Int) := (shift_chained.f k l0 l1).bind fun t694 => (if t694 = 0 then ((delta_Canon.f l1).bind fun bt695 => (shift_Chain.l0 k bt695.1 ([] : List (List (S70))) l0 (l0.length : Int) 0)) else (some (([] : List (S70)), ([] : List (List (S70))), t694)))
set_option maxHeartbeats 8000000 in
set_option maxRecDepth 100000 in
theorem shift_Chain.calls (k : Nat) (A0 : Option Addr) (c0 : Nat) (l0 : List (List (S70))) (A1 : Option Addr) (c1 : Nat) (l1 : List (S70)) (r1 : List (S70)) (r2 : List (List (S70))) (r3 : Int) (w : World) (hr0 : Kd.C (Kd.slice 70 k70) w A0 l0.length l0) (hc0 : l0.length ≤ c0) (hr1 : Kd.C k70 w A1 l1.length l1) (hc1 : l1.length ≤ c1) (h : shift_Chain.f k l0 l1 = some (r1, r2, r3)) :
  Calls Try.prog 49 #[.slice A0 l0.length c0, .slice A1 l1.length c1] w fun e w' => ∃ v0_ v1_ : Value, e = .returned (.tuple #[v0_, v1_, .int .i64 r3]) ∧ Kd.R k70 70 w' w.heap.size (fun _ => True) v0_ r1 ∧ Kd.S (Kd.slice 70 k70) 25 w' w.heap.size (fun k_ => some k_ ≠ (v0_ : Value).ownBlock) v1_ r2 ∧ Below w.heap.size w w' := by
 have HR0 := Aside0.mk hr0
 have HC0 := Aside0.mk hc0
 clear hr0 hc0
 have HR1 := Aside0.mk hr1
 have HC1 := Aside0.mk hc1
 clear hr1 hc1
 have HB := Aside0.mk (Below.refl w.heap.size w)
 have H : ((shift_chained.f k l0 l1).bind fun t694 => (if t694 = 0 then ((delta_Canon.f l1).bind fun bt695 => (shift_Chain.l0 k bt695.1 ([] : List (List (S70))) l0 (l0.length : Int) 0)) else (some (([] : List (S70)), ([] : List (List (S70))), t694)))) = some (r1, r2, r3) := h
 clear h
 replace H := Option.bind_eq_some_iff.mp H
 obtain ⟨t694, A30, H⟩ := H
 replace H : (if t694 = 0 then ((delta_Canon.f l1).bind fun bt695 => (shift_Chain.l0 k bt695.1 ([] : List (List (S70))) l0 (l0.length : Int) 0)) else (some (([] : List (S70)), ([] : List (List (S70))), t694))) = some (r1, r2, r3) := H
 have A3 := Aside0.mk A30
 clear A30
 by_cases c4 : t694 = 0
 ·
  rw [if_pos c4] at H
  have c4b0 : (t694 == 0) = true := beq_iff_eq.mpr c4
  have c4b1 : (t694 != 0) = false := bne_eq_false_iff_eq.mpr c4
  clear c4
  replace H := Option.bind_eq_some_iff.mp H
  obtain ⟨⟨t695, t696⟩, A50, H⟩ := H
  replace H : (shift_Chain.l0 k t695 ([] : List (List (S70))) l0 (l0.length : Int) 0) = some (r1, r2, r3) := H
  have A5 := Aside0.mk A50
  clear A50
  have H' := Aside0.mk H
  clear H
  go_enter Try.func49, Try.ntmps49
  go_wp2_with (first | ((with_reducible refine gate_callee (f := 87) rfl ?_); refine goesL_ (some 18) rfl rfl Try.func87 (by kernel_rfl) rfl #[.slice A0 l0.length c0, .slice A1 l1.length c1] rfl (by (try simp only [List.map_toArray, List.map_cons, List.map_nil]); first | done | rfl | (simp only [List.length_drop, List.length_take]; rfl)) ?_; (with_reducible refine (shift_chained.calls k (fun k_ => k_ < w.heap.size) _ _ l0 (fun k_ => k_ < w.heap.size) _ _ l1 t694 _ ?side1 ?side2 A3.out).mono ?_); (case side1 => exact Kd.V_mk HC0.out (Kd.F_below (Kd.C_F (Kd.heap_slice 70 k70_heap) HR0.out) (by first | exact HB.out | exact pw_below_drewN HB.out _))); (case side2 => exact Kd.V_mk HC1.out (Kd.F_below (Kd.C_F k70_heap HR1.out) (by first | exact HB.out | exact pw_below_drewN HB.out _))); rintro e w6 ⟨rfl, hb⟩; refine ⟨_, rfl, ?_⟩; have n0_ := Aside0.mk (below_step (by first | exact HB.out | exact pw_below_drewN HB.out _) hb); clear HB; have HB := n0_; clear n0_; (try clear hb); (try clear hb2); (try clear hk); (try clear hi)) | ((with_reducible refine gate_callee (f := 36) rfl ?_); refine goesL_ (some 24) rfl rfl Try.func36 (by kernel_rfl) rfl #[.slice A1 l1.length c1] rfl (by (try simp only [List.map_toArray, List.map_cons, List.map_nil]); first | done | rfl | (simp only [List.length_drop, List.length_take]; rfl)) ?_; (with_reducible refine (delta_Canon.calls _ _ l1 t695 t696 _ ?side1 ?side2 A5.out).mono ?_); (case side1 => repeat (first | exact (Kd.C_below HR1.out HB.out) | (with_reducible refine Kd.C_alloc ?_ _) | (with_reducible refine Kd.C_drewN ?_ _) | (with_reducible refine Kd.C_drew ?_))); (case side2 => exact HC1.out); rintro e w7 ⟨v697, rfl, ho0, hb⟩; refine ⟨_, rfl, ?_⟩; have n0_ := Aside0.mk (Kd.R_lower ho0 (below_size (by first | exact HB.out | exact pw_below_drewN HB.out _))); have n1_ := Aside0.mk (below_step (by first | exact HB.out | exact pw_below_drewN HB.out _) hb); clear HB; have HO698 := n0_; have HB := n1_; clear n0_ n1_; (try clear hb); (try clear hb2); (try clear hk); (try clear hi); (try clear ho0)))
  go_loopg [8, 10, 29] k (fun kq v8 v10 v29 w' => ∃ (x8_1 : List (S70)) (x10_1 : List (List (S70))) (x29_1 : Int), v29 = .int .i64 x29_1 ∧ Aside0 (shift_Chain.l0 kq x8_1 x10_1 l0 (l0.length : Int) x29_1 = some (r1, r2, r3)) ∧ Aside0 (kq ≤ k) ∧ Aside0 (Kd.R k70 70 w' w.heap.size (fun _ => True) v8 x8_1) ∧ Aside0 (Kd.S (Kd.slice 70 k70) 25 w' w.heap.size (fun k_ => some k_ ≠ (v8 : Value).ownBlock) v10 x10_1) ∧ Aside0 (Below w.heap.size w w'))
  case atStart => exact ⟨(t695), (([] : List (List (S70)))), (0), (by first | rfl | (simp; done) | (simp [*]; done) | (simp; exact isEmpty_bne _)), H', ⟨Nat.le_refl _⟩, ⟨by (with_reducible repeat (first | apply Kd.R_alloc | apply Kd.R_drewN | apply Kd.R_drew)); exact HO698.out⟩, ⟨by first | exact Kd.S_nil _ _ _ _ _ | exact Kd.N_nil _ _ _ _ _ | exact Kd.V_nil _ _ _ _ _ | exact Kd.Q_nil _ _ _ _ _ | exact Kd.R_nil _ _ _ _ _⟩, ⟨by repeat (first | (with_reducible first | exact HB.out | apply below_alloc | apply pw_below_drewN | apply below_drew1) | exact HB.out)⟩⟩
  case round =>
   clear H'
   (try clear c1); (try clear p2); (try clear c3); (try clear c4); (try clear c4b0); (try clear c4b1)
   obtain ⟨x8_1, x10_1, x29_1, rfl, HA, HK1, HO_8, HO_10, HB⟩ := hrel
   cases gk with
   | zero => exact absurd HA.out (by simp [shift_Chain.l0])
   | succ k1 =>
    have H := HA.out
    clear HA
    simp only [shift_Chain.l0] at H
    by_cases c8 : x29_1 < (l0.length : Int)
    ·
     rw [if_pos c8] at H
     have c8b0 : decide (x29_1 < (l0.length : Int)) = true := decide_eq_true c8
     clear c8
     by_cases c9 : 0 ≤ x29_1
     ·
      rw [if_pos c9] at H
      have c9b0 : decide (0 ≤ x29_1) = true := decide_eq_true c9
      clear c9
      by_cases c10 : x29_1 < (l0.length : Int)
      ·
       rw [if_pos c10] at H
       have c10b0 : decide (x29_1 < (l0.length : Int)) = true := decide_eq_true c10
       clear c10
       replace H := Option.bind_eq_some_iff.mp H
       obtain ⟨⟨t700, t701, t702⟩, A110, H⟩ := H
       replace H : (if t702 = 0 then (if x10_1.length < 5864062014805 then (shift_Chain.l0 k1 t701 (x10_1 ++ [t700]) l0 (l0.length : Int) (wrap64 (x29_1 + 1))) else (none)) else (some (([] : List (S70)), ([] : List (List (S70))), t702))) = some (r1, r2, r3) := H
       have A11 := Aside0.mk A110
       clear A110
       by_cases c12 : t702 = 0
       ·
        rw [if_pos c12] at H
        have c12b0 : (t702 == 0) = true := beq_iff_eq.mpr c12
        have c12b1 : (t702 != 0) = false := bne_eq_false_iff_eq.mpr c12
        clear c12
        by_cases c13 : x10_1.length < 5864062014805
        ·
         rw [if_pos c13] at H
         have LMc13 := Aside0.mk c13
         clear c13
         obtain ⟨y707, hy707⟩ : ∃ y_ : List (List (S70)), y_ = (x10_1 ++ [t700]) := ⟨_, rfl⟩
         replace H : (shift_Chain.l0 k1 t701 y707 l0 (l0.length : Int) (wrap64 (x29_1 + 1))) = some (r1, r2, r3) := by first | (rw [hy707]; with_reducible exact H) | (have H2_ := (Option.bind_some _ _).symm.trans H; rw [hy707]; with_reducible exact H2_) | (have H2_ := (Option.bind_some _ _).symm.trans H; with_reducible exact H2_) | with_reducible exact H | (rw [hy707]; exact H) | exact H
         have Ny707 := Aside0.mk hy707
         clear hy707
         have H' := Aside0.mk H
         clear H
         have p699 : 0 ≤ (x29_1 : Int) := of_decide_eq_true (by first | (with_reducible assumption) | assumption)
         have q699 : x29_1 < (l0.length : Int) := of_decide_eq_true (by first | (with_reducible assumption) | assumption)
         obtain ⟨ad699, A699_0, c699_0, e699, hx699_0, hl699_0, hi699_0⟩ := at_L6 HR0.out x29_1 p699 q699
         cases e699
         replace hx699_0 := (HB.out.cell (World.block_lt_of_cell? w _ hx699_0)).trans hx699_0
         have HR699_0 := Aside0.mk hi699_0
         have HC699_0 := Aside0.mk hl699_0
         clear hi699_0 hl699_0
         replace p699 := eq_true p699
         replace q699 := eq_true q699
         obtain ⟨Ao14, co14, eo14⟩ := Kd.R_slice HO_8.out
         subst eo14
         go_wp2_with (first | ((with_reducible refine gate_callee (f := 45) rfl ?_); refine goesL_ (some 36) rfl rfl Try.func45 (by kernel_rfl) rfl #[.slice A699_0 (rd_L6 l0 x29_1).length c699_0, .slice Ao14 x8_1.length co14] rfl (by (try simp only [List.map_toArray, List.map_cons, List.map_nil]); first | done | rfl | (simp only [List.length_drop, List.length_take]; rfl)) ?_; (with_reducible refine (shift_Both.calls _ _ (rd_L6 l0 x29_1) _ _ x8_1 t700 t701 t702 _ ?side1 ?side2 ?side3 ?side4 A11.out).mono ?_); (case side1 => repeat (first | exact (Kd.C_below HR699_0.out HB.out) | (with_reducible refine Kd.C_alloc ?_ _) | (with_reducible refine Kd.C_drewN ?_ _) | (with_reducible refine Kd.C_drew ?_))); (case side2 => exact HC699_0.out); (case side3 => repeat (first | exact (Kd.R_reads' HO_8.out).2.2 | (with_reducible refine Kd.C_alloc ?_ _) | (with_reducible refine Kd.C_drewN ?_ _) | (with_reducible refine Kd.C_drew ?_))); (case side4 => exact (Kd.R_reads' HO_8.out).2.1); rintro e w15 ⟨v703, v705, rfl, ho0, ho1, hb⟩; refine ⟨_, rfl, ?_⟩; have n0_ := Aside0.mk (Kd.R_mono (Kd.R_told (Kd.R_told (Kd.R_old (by first | exact HO_8.out | exact Kd.R_drewN HO_8.out _) hb) (Kd.R_base ho0)) (Kd.R_base ho1)) (fun _ h_ => h_.1)); have n1_ := Aside0.mk (Kd.S_mono (Kd.S_told (Kd.S_told (Kd.S_old (by first | exact HO_10.out | exact Kd.S_drewN HO_10.out _) hb) (Kd.R_base ho0)) (Kd.R_base ho1)) (fun _ h_ => h_.1)); have n2_ := Aside0.mk (Kd.R_lower (Kd.R_new' ho0 (Kd.R_lt (by first | exact HO_8.out | exact Kd.R_drewN HO_8.out _))) (below_size (by first | exact HB.out | exact pw_below_drewN HB.out _))); have n3_ := Aside0.mk (Kd.R_lower (Kd.R_new' ho1 (Kd.R_lt (by first | exact HO_8.out | exact Kd.R_drewN HO_8.out _))) (below_size (by first | exact HB.out | exact pw_below_drewN HB.out _))); have n4_ := Aside0.mk (below_step (by first | exact HB.out | exact pw_below_drewN HB.out _) hb); clear HO_8 HO_10 HB; have HO_8 := n0_; have HO_10 := n1_; have HO704 := n2_; have HO706 := n3_; have HB := n4_; clear n0_ n1_ n2_ n3_ n4_; (try clear hb); (try clear hb2); (try clear hk); (try clear hi); (try clear ho0); (try clear ho1); obtain ⟨Ao17, co17, eo17⟩ := Kd.R_slice HO704.out; subst eo17) | ((with_reducible refine gate_builtin (b := .append) (xs := #[.tmp 43, .tmp 45]) rfl ?_); at_builtin; refine Kd.S_append (Kd.slice 70 k70) (w0 := w) w.heap.size rfl (.tmp 43) (.tmp 45) 60 25 (.slice none 0 0) 24 rfl Try.underlying60 info25 rfl (by decide) (by omega) u10 x10_1 t700 [.slice Ao17 t700.length co17] (fun k_ => some k_ ≠ (.slice Ao14 x8_1.length co14 : Value).ownBlock ∧ some k_ ≠ (v705 : Value).ownBlock) (fun k_ => some k_ = (.slice Ao17 t700.length co17 : Value).ownBlock) rfl rfl ?aP (fun k_ hk_ => ((Kd.R_mono (ok' := fun k_ => ((fun k_ => some k_ ≠ (.slice Ao14 x8_1.length co14 : Value).ownBlock ∧ some k_ ≠ (v705 : Value).ownBlock)) k_ ∧ some k_ ≠ (u10 : Value).ownBlock) (Kd.R_apart' (HO704.out) (Kd.S_typed HO_10.out) (by decide)) (fun k_ hk => ⟨⟨hk.1.2, hk.1.1⟩, hk.2⟩))).1 k_ hk_.symm) ?aF ?aO ?aB ?aS ?aL ?_; (case aP => exact Kd.M_row (Kd.R_mono (Kd.R_tight rfl (Kd.R_mono (ok' := fun k_ => ((fun k_ => some k_ ≠ (.slice Ao14 x8_1.length co14 : Value).ownBlock ∧ some k_ ≠ (v705 : Value).ownBlock)) k_ ∧ some k_ ≠ (u10 : Value).ownBlock) (Kd.R_apart' (HO704.out) (Kd.S_typed HO_10.out) (by decide)) (fun k_ hk => ⟨⟨hk.1.2, hk.1.1⟩, hk.2⟩))) (fun _ h_ => h_))); (case aB => exact (by first | exact HB.out | exact pw_below_drewN HB.out _)); (case aF => exact (fun k_ hk => ⟨Kd.fresh' (Kd.R_lt (by first | exact HO_8.out | exact Kd.R_drewN HO_8.out _)) k_ hk, Kd.fresh' (Kd.R_lt (by first | exact HO706.out | exact Kd.R_drewN HO706.out _)) k_ hk⟩)); (case aO => exact (by (with_reducible repeat (first | apply Kd.S_alloc | apply Kd.S_drewN | apply Kd.S_drew)); exact Kd.S_mono HO_10.out (fun k_ hk => ⟨⟨hk.1.1, hk.2⟩, fun e_ => hk.1.2 e_⟩))); (case aS => exact (below_size (by first | exact HB.out | exact pw_below_drewN HB.out _))); (case aL => have := LMc13.out; omega); intro v708 w16 ho hb hg hat; rw [← Ny707.out] at ho; have n0_ := Aside0.mk (Kd.R_over' (by first | exact HO_8.out | exact Kd.R_drewN HO_8.out _) (Kd.S_typed (by first | exact HO_10.out | exact Kd.S_drewN HO_10.out _)) (by decide) hg); have n1_ := Aside0.mk (Kd.R_over' (by first | exact HO706.out | exact Kd.R_drewN HO706.out _) (Kd.S_typed (by first | exact HO_10.out | exact Kd.S_drewN HO_10.out _)) (by decide) hg); have n2_ := Aside0.mk (hb); have n3_ := Aside0.mk (ho); clear HO_8 HO706 HB HO_10 HO704; have HO_8 := n0_; have HO706 := n1_; have HB := n2_; have HO709 := n3_; clear n0_ n1_ n2_ n3_; clear ho hb hg hat))
         go_roundg k1
         case measure => have := HK1.out; omega
         case rel => exact ⟨(t701), (y707), (wrap64 (x29_1 + 1)), (by first | rfl | (simp; done) | (simp [*]; done) | (simp; exact isEmpty_bne _)), H', ⟨by have := HK1.out; omega⟩, ⟨by (with_reducible repeat (first | apply Kd.R_alloc | apply Kd.R_drewN | apply Kd.R_drew)); exact Kd.R_mono HO706.out (fun _ hk => trivial)⟩, ⟨by (with_reducible repeat (first | apply Kd.S_alloc | apply Kd.S_drewN | apply Kd.S_drew)); exact Kd.S_mono HO709.out (fun _ hk => hk.2)⟩, ⟨by repeat (first | (with_reducible first | exact HB.out | apply below_alloc | apply pw_below_drewN | apply below_drew1) | exact HB.out)⟩⟩
        ·
         rw [if_neg c13] at H
         exact absurd H (by simp)
       ·
        rw [if_neg c12] at H
        have c12b0 : (t702 == 0) = false := beq_eq_false_iff_ne.mpr c12
        have c12b1 : (t702 != 0) = true := bne_iff_ne.mpr c12
        simp only [Option.some.injEq, Prod.mk.injEq] at H
        obtain ⟨rfl, rfl, rfl⟩ := H
        have p699 : 0 ≤ (x29_1 : Int) := of_decide_eq_true (by first | (with_reducible assumption) | assumption)
        have q699 : x29_1 < (l0.length : Int) := of_decide_eq_true (by first | (with_reducible assumption) | assumption)
        obtain ⟨ad699, A699_0, c699_0, e699, hx699_0, hl699_0, hi699_0⟩ := at_L6 HR0.out x29_1 p699 q699
        cases e699
        replace hx699_0 := (HB.out.cell (World.block_lt_of_cell? w _ hx699_0)).trans hx699_0
        have HR699_0 := Aside0.mk hi699_0
        have HC699_0 := Aside0.mk hl699_0
        clear hi699_0 hl699_0
        replace p699 := eq_true p699
        replace q699 := eq_true q699
        obtain ⟨Ao18, co18, eo18⟩ := Kd.R_slice HO_8.out
        subst eo18
        go_wp2_with (first | ((with_reducible refine gate_callee (f := 45) rfl ?_); refine goesL_ (some 36) rfl rfl Try.func45 (by kernel_rfl) rfl #[.slice A699_0 (rd_L6 l0 x29_1).length c699_0, .slice Ao18 x8_1.length co18] rfl (by (try simp only [List.map_toArray, List.map_cons, List.map_nil]); first | done | rfl | (simp only [List.length_drop, List.length_take]; rfl)) ?_; (with_reducible refine (shift_Both.calls _ _ (rd_L6 l0 x29_1) _ _ x8_1 t700 t701 t702 _ ?side1 ?side2 ?side3 ?side4 A11.out).mono ?_); (case side1 => repeat (first | exact (Kd.C_below HR699_0.out HB.out) | (with_reducible refine Kd.C_alloc ?_ _) | (with_reducible refine Kd.C_drewN ?_ _) | (with_reducible refine Kd.C_drew ?_))); (case side2 => exact HC699_0.out); (case side3 => repeat (first | exact (Kd.R_reads' HO_8.out).2.2 | (with_reducible refine Kd.C_alloc ?_ _) | (with_reducible refine Kd.C_drewN ?_ _) | (with_reducible refine Kd.C_drew ?_))); (case side4 => exact (Kd.R_reads' HO_8.out).2.1); rintro e w19 ⟨v703, v705, rfl, ho0, ho1, hb⟩; refine ⟨_, rfl, ?_⟩; have n0_ := Aside0.mk (Kd.R_mono (Kd.R_told (Kd.R_told (Kd.R_old (by first | exact HO_8.out | exact Kd.R_drewN HO_8.out _) hb) (Kd.R_base ho0)) (Kd.R_base ho1)) (fun _ h_ => h_.1)); have n1_ := Aside0.mk (Kd.S_mono (Kd.S_told (Kd.S_told (Kd.S_old (by first | exact HO_10.out | exact Kd.S_drewN HO_10.out _) hb) (Kd.R_base ho0)) (Kd.R_base ho1)) (fun _ h_ => h_.1)); have n2_ := Aside0.mk (Kd.R_lower (Kd.R_new' ho0 (Kd.R_lt (by first | exact HO_8.out | exact Kd.R_drewN HO_8.out _))) (below_size (by first | exact HB.out | exact pw_below_drewN HB.out _))); have n3_ := Aside0.mk (Kd.R_lower (Kd.R_new' ho1 (Kd.R_lt (by first | exact HO_8.out | exact Kd.R_drewN HO_8.out _))) (below_size (by first | exact HB.out | exact pw_below_drewN HB.out _))); have n4_ := Aside0.mk (below_step (by first | exact HB.out | exact pw_below_drewN HB.out _) hb); clear HO_8 HO_10 HB; have HO_8 := n0_; have HO_10 := n1_; have HO704 := n2_; have HO706 := n3_; have HB := n4_; clear n0_ n1_ n2_ n3_ n4_; (try clear hb); (try clear hb2); (try clear hk); (try clear hi); (try clear ho0); (try clear ho1)))
        go_ret3
        exact ⟨_, _, by first | rfl | (simp [errW_none, errW_some] <;> rfl) | (simp [*, errW_none, errW_some] <;> rfl), by first | exact Kd.R_nil _ _ _ _ _ | exact Kd.N_nil _ _ _ _ _ | exact Kd.V_nil _ _ _ _ _ | exact Kd.Q_nil _ _ _ _ _ | exact Kd.S_nil _ _ _ _ _, by first | exact Kd.S_nil _ _ _ _ _ | exact Kd.N_nil _ _ _ _ _ | exact Kd.V_nil _ _ _ _ _ | exact Kd.Q_nil _ _ _ _ _ | exact Kd.R_nil _ _ _ _ _, by repeat (first | (with_reducible first | exact HB.out | apply below_alloc | apply pw_below_drewN | apply below_drew1) | exact HB.out)⟩
      ·
       rw [if_neg c10] at H
       exact absurd H (by simp)
     ·
      rw [if_neg c9] at H
      exact absurd H (by simp)
    ·
     rw [if_neg c8] at H
     have c8b0 : decide (x29_1 < (l0.length : Int)) = false := decide_eq_false c8
     clear c8
     simp only [Option.some.injEq, Prod.mk.injEq] at H
     obtain ⟨rfl, rfl, rfl⟩ := H
     go_wp2
     go_ret3
     exact ⟨_, _, by first | rfl | (simp [errW_none, errW_some] <;> rfl) | (simp [*, errW_none, errW_some] <;> rfl), by (with_reducible repeat (first | apply Kd.R_alloc | apply Kd.R_drewN | apply Kd.R_drew)); exact HO_8.out, by (with_reducible repeat (first | apply Kd.S_alloc | apply Kd.S_drewN | apply Kd.S_drew)); exact HO_10.out, by repeat (first | (with_reducible first | exact HB.out | apply below_alloc | apply pw_below_drewN | apply below_drew1) | exact HB.out)⟩
 ·
  rw [if_neg c4] at H
  have c4b0 : (t694 == 0) = false := beq_eq_false_iff_ne.mpr c4
  have c4b1 : (t694 != 0) = true := bne_iff_ne.mpr c4
  simp only [Option.some.injEq, Prod.mk.injEq] at H
  obtain ⟨rfl, rfl, rfl⟩ := H
  go_enter Try.func49, Try.ntmps49
  go_wp2_with (first | ((with_reducible refine gate_callee (f := 87) rfl ?_); refine goesL_ (some 18) rfl rfl Try.func87 (by kernel_rfl) rfl #[.slice A0 l0.length c0, .slice A1 l1.length c1] rfl (by (try simp only [List.map_toArray, List.map_cons, List.map_nil]); first | done | rfl | (simp only [List.length_drop, List.length_take]; rfl)) ?_; (with_reducible refine (shift_chained.calls k (fun k_ => k_ < w.heap.size) _ _ l0 (fun k_ => k_ < w.heap.size) _ _ l1 t694 _ ?side1 ?side2 A3.out).mono ?_); (case side1 => exact Kd.V_mk HC0.out (Kd.F_below (Kd.C_F (Kd.heap_slice 70 k70_heap) HR0.out) (by first | exact HB.out | exact pw_below_drewN HB.out _))); (case side2 => exact Kd.V_mk HC1.out (Kd.F_below (Kd.C_F k70_heap HR1.out) (by first | exact HB.out | exact pw_below_drewN HB.out _))); rintro e w20 ⟨rfl, hb⟩; refine ⟨_, rfl, ?_⟩; have n0_ := Aside0.mk (below_step (by first | exact HB.out | exact pw_below_drewN HB.out _) hb); clear HB; have HB := n0_; clear n0_; (try clear hb); (try clear hb2); (try clear hk); (try clear hi)))
  go_ret3
  exact ⟨_, _, by first | rfl | (simp [errW_none, errW_some] <;> rfl) | (simp [*, errW_none, errW_some] <;> rfl), by first | exact Kd.R_nil _ _ _ _ _ | exact Kd.N_nil _ _ _ _ _ | exact Kd.V_nil _ _ _ _ _ | exact Kd.Q_nil _ _ _ _ _ | exact Kd.S_nil _ _ _ _ _, by first | exact Kd.S_nil _ _ _ _ _ | exact Kd.N_nil _ _ _ _ _ | exact Kd.V_nil _ _ _ _ _ | exact Kd.Q_nil _ _ _ _ _ | exact Kd.R_nil _ _ _ _ _, by repeat (first | (with_reducible first | exact HB.out | apply below_alloc | apply pw_below_drewN | apply below_drew1) | exact HB.out)⟩
end Go.Proofs.Ytidihnnkcmeaeaa.A
