-- Written by a program over the translation (the kit's print, turned so that some functions are taken by contracts of this claim's own).
import Derived.Test.YtidihnnkcmeaeaaA0
import Derived.Test.YtidihnnkcmeaeaaB
import Derived.Test.YtidihnnkcmeaeaaA12
namespace Go.Proofs.Ytidihnnkcmeaeaa.A
open Go.RowKit Go.Proofs.YtidihnnkcmeaeaaW.PrintWords Go.Proofs.YtidihnnkcmeaeaaW.PrintLast Go.Proofs.YtidihnnkcmeaeaaW.PrintMore
attribute [local go_sem] max2_int min2_int max_two min_two max_three min_three max_four min_four   -- for this text's walks alone
set_option linter.unusedVariables false
set_option linter.unusedSimpArgs false

/-! ### galleyref13_Compose: function 43 -/
mutual
def galleyref13_Compose.l0 : Nat → List (S70) → List (S70) → List (S70) → Int → Option ((List (S70)))
 | 0, _, _, _, _ => none
 | k + 1, x1, x5, x6, x7 => if x7 < (x1.length : Int) then (if 0 ≤ x7 then (if ((rd_T70 x1 x7).f0) = 2 then ((galleyref13_add.f k x5 2 0 ((rd_T70 x1 x7).f2)).bind fun t403 => (galleyref13_Compose.l0 k x1 t403 x6 (wrap64 (x7 + 1)))) else (galleyref13_Compose.l1 k x1 x5 x6 x7 ((rd_T70 x1 x7).f1))) else (none)) else (galleyref13_Compose.l2 k x5 x6 0)
def galleyref13_Compose.l1 : Nat → List (S70) → List (S70) → List (S70) → Int → Int → Option ((List (S70)))
 | 0, _, _, _, _, _ => none
 | k + 1, x1, x5, x6, x7, x8 => if x8 > 0 then (if 0 < (x6.length : Int) then (if ((rd_T70 x6 0).f0) = 3 then ((galleyref13_add.f k x5 3 ((rd_T70 x6 0).f1) (⟨#[]⟩ : ByteArray)).bind fun t409 => (if 1 ≤ (x6.length : Int) then (galleyref13_Compose.l1 k x1 t409 (x6.drop (1 : Int).toNat) x7 x8) else (none))) else (if (wrap64 (((rd_T70 x6 0).f1) + (((rd_T70 x6 0).f2).size : Int))) > x8 then (galleyref13_Compose.j2 k x1 x5 x6 x7 x8 x8 ((rd_T70 x6 0).f0) ((rd_T70 x6 0).f1) ((rd_T70 x6 0).f2)) else (galleyref13_Compose.j2 k x1 x5 x6 x7 x8 (wrap64 (((rd_T70 x6 0).f1) + (((rd_T70 x6 0).f2).size : Int))) ((rd_T70 x6 0).f0) ((rd_T70 x6 0).f1) ((rd_T70 x6 0).f2)))) else (none)) else (galleyref13_Compose.l0 k x1 x5 x6 (wrap64 (x7 + 1)))
def galleyref13_Compose.j2 : Nat → List (S70) → List (S70) → List (S70) → Int → Int → Int → Int → Int → ByteArray → Option ((List (S70)))
 | 0, _, _, _, _, _, _, _, _, _ => none
 | k + 1, x1, x5, x6, x7, x8, x10, x409000, x409001, x409002 => if x409000 = 1 then (if 0 ≤ x7 then (if x7 < (x1.length : Int) then ((galleyref13_add.f k x5 ((rd_T70 x1 x7).f0) x10 (⟨#[]⟩ : ByteArray)).bind fun t416 => (if 0 < (x6.length : Int) then ((some (x6.set (0 : Int).toNat (⟨(rd_T70 x6 0).f0, wrap64 (x409001 - x10), (rd_T70 x6 0).f2⟩ : S70) : List (S70))).bind fun y419 => (if ((rd_T70 y419 0).f1) = 0 then (if ((rd_T70 y419 0).f2).toList = ([] : List UInt8) then (if 1 ≤ (x6.length : Int) then (galleyref13_Compose.l1 k x1 t416 (y419.drop (1 : Int).toNat) x7 (wrap64 (x8 - x10))) else (none)) else (galleyref13_Compose.l1 k x1 t416 y419 x7 (wrap64 (x8 - x10)))) else (galleyref13_Compose.l1 k x1 t416 y419 x7 (wrap64 (x8 - x10))))) else (none))) else (none)) else (none)) else (if 0 ≤ x7 then (if x7 < (x1.length : Int) then (if ((rd_T70 x1 x7).f0) = 1 then (if 0 ≤ x10 then (if x10 ≤ (x409002.size : Int) then ((galleyref13_add.f k x5 2 0 (x409002.extract 0 (x10 : Int).toNat)).bind fun t426 => (if 0 < (x6.length : Int) then ((some (x6.set (0 : Int).toNat (⟨(rd_T70 x6 0).f0, (rd_T70 x6 0).f1, x409002.extract (x10 : Int).toNat x409002.size⟩ : S70) : List (S70))).bind fun y429 => (if ((rd_T70 y429 0).f1) = 0 then (if ((rd_T70 y429 0).f2).toList = ([] : List UInt8) then (if 1 ≤ (x6.length : Int) then (galleyref13_Compose.l1 k x1 t426 (y429.drop (1 : Int).toNat) x7 (wrap64 (x8 - x10))) else (none)) else (galleyref13_Compose.l1 k x1 t426 y429 x7 (wrap64 (x8 - x10)))) else (galleyref13_Compose.l1 k x1 t426 y429 x7 (wrap64 (x8 - x10))))) else (none))) else (none)) else (none)) else (if 0 ≤ x10 then (if x10 ≤ (x409002.size : Int) then (if 0 < (x6.length : Int) then ((some (x6.set (0 : Int).toNat (⟨(rd_T70 x6 0).f0, (rd_T70 x6 0).f1, x409002.extract (x10 : Int).toNat x409002.size⟩ : S70) : List (S70))).bind fun y435 => (if ((rd_T70 y435 0).f1) = 0 then (if ((rd_T70 y435 0).f2).toList = ([] : List UInt8) then (if 1 ≤ (x6.length : Int) then (galleyref13_Compose.l1 k x1 x5 (y435.drop (1 : Int).toNat) x7 (wrap64 (x8 - x10))) else (none)) else (galleyref13_Compose.l1 k x1 x5 y435 x7 (wrap64 (x8 - x10)))) else (galleyref13_Compose.l1 k x1 x5 y435 x7 (wrap64 (x8 - x10))))) else (none)) else (none)) else (none))) else (none)) else (none))
def galleyref13_Compose.l2 : Nat → List (S70) → List (S70) → Int → Option ((List (S70)))
 | 0, _, _, _ => none
 | k + 1, x5, x6, x11 => if x11 < (x6.length : Int) then (if 0 ≤ x11 then ((galleyref13_add.f k x5 ((rd_T70 x6 x11).f0) ((rd_T70 x6 x11).f1) ((rd_T70 x6 x11).f2)).bind fun t444 => (galleyref13_Compose.l2 k t444 x6 (wrap64 (x11 + 1)))) else (none)) else (some x5)
end
def galleyref13_Compose.f (k : Nat) (l0 : List (S70)) (l1 : List (S70)) : Option ((List (S70))) := (some (([] : List (S70)) : List (S70))).bind fun y395 => (if y395.length + l0.length < 4398046511104 then (galleyref13_Compose.l0 k l1 ([] : List (S70)) (y395 ++ l0) 0) else (none))
def galleyref13_Compose.T29 : Bool × List (List Nat × List Nat) := (true, [([], []), ([], []), ([], []), ([1, 2], [1, 2]), ([3], [3]), ([4], [4]), ([], []), ([], []), ([6, 7], [6, 7]), ([8], [8]), ([9], [9]), ([], []), ([], []), ([11, 12], [11, 12]), ([13], [13]), ([14], [14]), ([0, 5, 10, 15], [0, 5, 10, 15]), ([16, 16, 0, 1, 2, 3, 4, 5, 6, 7, 8, 9, 10, 11, 12, 13, 14, 15, 16], [0, 16])])
def galleyref13_Compose.B29 : List Nat := [0, 0, 0, 6, 14, 30, 0, 0, 192, 448, 960, 0, 0, 6144, 14336, 30720, 65535, 131071]
theorem galleyref13_Compose.tab29 : rtab .any (opsOf Try.f43 29) = galleyref13_Compose.T29 := by kernel_rfl
theorem galleyref13_Compose.bits29 : waitsOk galleyref13_Compose.T29.2 galleyref13_Compose.B29 = true := by kernel_rfl
set_option maxHeartbeats 8000000 in
set_option maxRecDepth 100000 in
theorem galleyref13_Compose.calls (k : Nat) (A0 : Option Addr) (c0 : Nat) (l0 : List (S70)) (A1 : Option Addr) (c1 : Nat) (l1 : List (S70)) (r : List (S70)) (w : World) (hr0 : Kd.C k70 w A0 l0.length l0) (hc0 : l0.length ≤ c0) (hr1 : Kd.C k70 w A1 l1.length l1) (hc1 : l1.length ≤ c1) (h : galleyref13_Compose.f k l0 l1 = some r) :
  Calls Try.prog 43 #[.slice A0 l0.length c0, .slice A1 l1.length c1] w fun e w' => ∃ v0_ : Value, e = .returned (v0_) ∧ Kd.R k70 70 w' w.heap.size (fun _ => True) v0_ r ∧ Below w.heap.size w w' := by
 have hu70 := Try.underlying70
 have HR0 := Aside0.mk hr0
 have HC0 := Aside0.mk hc0
 clear hr0 hc0
 have HR1 := Aside0.mk hr1
 have HC1 := Aside0.mk hc1
 clear hr1 hc1
 have HB := Aside0.mk (Below.refl w.heap.size w)
 have H : ((some (([] : List (S70)) : List (S70))).bind fun y395 => (if y395.length + l0.length < 4398046511104 then (galleyref13_Compose.l0 k l1 ([] : List (S70)) (y395 ++ l0) 0) else (none))) = some r := h
 clear h
 obtain ⟨y395, hy395⟩ : ∃ y_ : List (S70), y_ = (([] : List (S70))) := ⟨_, rfl⟩
 replace H : (if y395.length + l0.length < 4398046511104 then (galleyref13_Compose.l0 k l1 ([] : List (S70)) (y395 ++ l0) 0) else (none)) = some r := by first | (rw [hy395]; with_reducible exact H) | (have H2_ := (Option.bind_some _ _).symm.trans H; rw [hy395]; with_reducible exact H2_) | (have H2_ := (Option.bind_some _ _).symm.trans H; with_reducible exact H2_) | with_reducible exact H | (rw [hy395]; exact H) | exact H
 have Ny395 := Aside0.mk hy395
 clear hy395
 by_cases c3 : y395.length + l0.length < 4398046511104
 ·
  rw [if_pos c3] at H
  have LMc3 := Aside0.mk c3
  clear c3
  obtain ⟨y398, hy398⟩ : ∃ y_ : List (S70), y_ = (y395 ++ l0) := ⟨_, rfl⟩
  replace H : (galleyref13_Compose.l0 k l1 ([] : List (S70)) y398 0) = some r := by first | (rw [hy398]; with_reducible exact H) | (have H2_ := (Option.bind_some _ _).symm.trans H; rw [hy398]; with_reducible exact H2_) | (have H2_ := (Option.bind_some _ _).symm.trans H; with_reducible exact H2_) | with_reducible exact H | (rw [hy398]; exact H) | exact H
  have Ny398 := Aside0.mk hy398
  clear hy398
  have H' := Aside0.mk H
  clear H
  go_enter Try.func43, Try.ntmps43
  go_wp2_with (first | ((with_reducible refine gate_dst (N := 12) rfl ?_); refine Kd.R_lit k70 _ 70 ?hg (N := 12) ?hd (xs := ([] : List (S70))) (inner := []) (ok := fun _ => True) (okp := fun _ => True) ?hr ?hp (fun _ hk => hk) trivial (Below.refl _ _) (Nat.le_refl _) (by simp) ?_; (case hd => rfl); (case hg => rfl); (case hr => first | (go_simp; done) | (go_simp; rfl)); (case hp => exact (Reps.none _ _)); intro v396 w4 ho5 hb hg_ hnew_; clear hg_ hnew_; (first | rw [← Ny395.out] at ho5 | (simp only [Int.reduceToNat] at ho5; rw [← Ny395.out] at ho5)); have n0_ := Aside0.mk (Kd.R_lower ho5 (below_size (by repeat (first | (with_reducible first | exact HB.out | apply below_alloc | apply pw_below_drewN | apply below_drew1) | exact HB.out)))); have n1_ := Aside0.mk (below_step (by repeat (first | (with_reducible first | exact HB.out | apply below_alloc | apply pw_below_drewN | apply below_drew1) | exact HB.out)) hb); clear HB; have HO397 := n0_; have HB := n1_; clear n0_ n1_; clear hb ho5) | ((with_reducible refine gate_builtin (b := .append) (xs := #[.tmp 12, .tmp 13]) rfl ?_); at_builtin; refine Kd.R_append_rows k70 (w0 := w) w.heap.size rfl (.tmp 12) (.tmp 13) 25 70 (.agg #[(.int .i64 0), (.int .i64 0), (.string ⟨#[]⟩)]) 32 rfl Try.underlying25 info70 rfl (by decide) (by omega) v396 y395 l0 _ _ _ (fun _ => True) (fun _ => False) rfl rfl ?aO ?aR (fun _ _ h => h) (fun _ h => h.elim) ?aF ?aB ?aS ?aL ?_; (case aR => repeat (first | exact (Kd.C_below HR0.out HB.out) | (with_reducible refine Kd.C_alloc ?_ _) | (with_reducible refine Kd.C_drewN ?_ _) | (with_reducible refine Kd.C_drew ?_))); (case aB => exact (by repeat (first | (with_reducible first | exact HB.out | apply below_alloc | apply pw_below_drewN | apply below_drew1) | exact HB.out))); (case aF => exact (fun _ _ => trivial)); (case aO => exact (by (with_reducible repeat (first | apply Kd.R_alloc | apply Kd.R_drewN | apply Kd.R_drew)); exact HO397.out)); (case aS => exact (below_size (by repeat (first | (with_reducible first | exact HB.out | apply below_alloc | apply pw_below_drewN | apply below_drew1) | exact HB.out)))); (case aL => have := LMc3.out; omega); intro v399 w6 ho hb hg hat; rw [← Ny398.out] at ho; have n0_ := Aside0.mk (hb); have n1_ := Aside0.mk (ho); clear HB; clear HO397; have HB := n0_; have HO400 := n1_; clear n0_ n1_; clear ho hb hg hat))
  go_loopg [5, 6, 7] k (fun kq v5 v6 v7 w' => ∃ (x5_1 : List (S70)) (x6_1 : List (S70)) (x7_1 : Int), v7 = .int .i64 x7_1 ∧ Aside0 (galleyref13_Compose.l0 kq l1 x5_1 x6_1 x7_1 = some r) ∧ Aside0 (kq ≤ k) ∧ Aside0 (Kd.R k70 70 w' w.heap.size (fun k_ => some k_ ≠ (v6 : Value).ownBlock) v5 x5_1) ∧ Aside0 (Kd.Q k70 70 w' w.heap.size (fun k_ => some k_ ≠ (v5 : Value).ownBlock) v6 x6_1) ∧ Aside0 (Below w.heap.size w w'))
  case atStart => exact ⟨(([] : List (S70))), (y398), (0), (by first | rfl | (simp; done) | (simp [*]; done) | (simp; exact isEmpty_bne _)), H', ⟨Nat.le_refl _⟩, ⟨by first | exact Kd.R_nil _ _ _ _ _ | exact Kd.N_nil _ _ _ _ _ | exact Kd.V_nil _ _ _ _ _ | exact Kd.Q_nil _ _ _ _ _ | exact Kd.S_nil _ _ _ _ _⟩, ⟨Kd.Q_of_R (by (with_reducible repeat (first | apply Kd.R_alloc | apply Kd.R_drewN | apply Kd.R_drew)); exact Kd.R_mono HO400.out (fun _ hk => (by simp [Value.ownBlock])))⟩, ⟨by repeat (first | (with_reducible first | exact HB.out | apply below_alloc | apply pw_below_drewN | apply below_drew1) | exact HB.out)⟩⟩
  case round =>
   clear H'
   (try clear c1); (try clear p2); (try clear c3); (try clear c4)
   obtain ⟨x5_1, x6_1, x7_1, rfl, HA, HK1, HO_5, HO_6, HB⟩ := hrel
   cases gk with
   | zero => exact absurd HA.out (by simp [galleyref13_Compose.l0])
   | succ k1 =>
    have H := HA.out
    clear HA
    simp only [galleyref13_Compose.l0] at H
    by_cases c7 : x7_1 < (l1.length : Int)
    ·
     rw [if_pos c7] at H
     have c7b0 : decide (x7_1 < (l1.length : Int)) = true := decide_eq_true c7
     clear c7
     by_cases c8 : 0 ≤ x7_1
     ·
      rw [if_pos c8] at H
      have c8b0 : decide (0 ≤ x7_1) = true := decide_eq_true c8
      clear c8
      by_cases c9 : ((rd_T70 l1 x7_1).f0) = 2
      ·
       rw [if_pos c9] at H
       have c9b0 : (((rd_T70 l1 x7_1).f0) == 2) = true := beq_iff_eq.mpr c9
       have c9b1 : (((rd_T70 l1 x7_1).f0) != 2) = false := bne_eq_false_iff_eq.mpr c9
       clear c9
       replace H := Option.bind_eq_some_iff.mp H
       obtain ⟨t403, A100, H⟩ := H
       replace H : (galleyref13_Compose.l0 k1 l1 t403 x6_1 (wrap64 (x7_1 + 1))) = some r := H
       have A10 := Aside0.mk A100
       clear A100
       have H' := Aside0.mk H
       clear H
       have p401 : 0 ≤ (x7_1 : Int) := of_decide_eq_true (by first | (with_reducible assumption) | assumption)
       have q401 : x7_1 < (l1.length : Int) := of_decide_eq_true (by first | (with_reducible assumption) | assumption)
       obtain ⟨ad401, e401, hx401_0, hx401_1, hx401_2⟩ := at_T70 HR1.out x7_1 p401 q401
       cases e401
       replace hx401_0 := (HB.out.cell (World.block_lt_of_cell? w _ hx401_0)).trans hx401_0
       replace hx401_1 := (HB.out.cell (World.block_lt_of_cell? w _ hx401_1)).trans hx401_1
       replace hx401_2 := (HB.out.cell (World.block_lt_of_cell? w _ hx401_2)).trans hx401_2
       replace p401 := eq_true p401
       replace q401 := eq_true q401
       have p402 : 0 ≤ (x7_1 : Int) := of_decide_eq_true (by first | (with_reducible assumption) | assumption)
       have q402 : x7_1 < (l1.length : Int) := of_decide_eq_true (by first | (with_reducible assumption) | assumption)
       obtain ⟨ad402, e402, hx402_0, hx402_1, hx402_2⟩ := at_T70 HR1.out x7_1 p402 q402
       obtain rfl : ad401 = ad402 := (by injection e402)
       replace hx402_0 := (HB.out.cell (World.block_lt_of_cell? w _ hx402_0)).trans hx402_0
       replace hx402_1 := (HB.out.cell (World.block_lt_of_cell? w _ hx402_1)).trans hx402_1
       replace hx402_2 := (HB.out.cell (World.block_lt_of_cell? w _ hx402_2)).trans hx402_2
       replace p402 := eq_true p402
       replace q402 := eq_true q402
       obtain ⟨Ao11, co11, eo11⟩ := Kd.R_slice HO_5.out
       subst eo11
       go_wp2_with (first | ((with_reducible refine gate_callee (f := 78) rfl ?_); refine goesL_ (some 33) rfl rfl Try.func78 (by kernel_rfl) rfl #[.slice Ao11 x5_1.length co11, .int .i64 2, .int .i64 0, .string ((rd_T70 l1 x7_1).f2)] rfl (by (try simp only [List.map_toArray, List.map_cons, List.map_nil]); first | done | rfl | (simp only [List.length_drop, List.length_take]; rfl)) ?_; (with_reducible refine (galleyref13_add.calls k1 (fun k_ => some k_ = (.slice Ao11 x5_1.length co11 : Value).ownBlock) (.slice Ao11 x5_1.length co11) x5_1 2 0 ((rd_T70 l1 x7_1).f2) t403 w _ ?side1 ?side2 A10.out).mono ?_); (case side1 => repeat (first | (with_reducible first | exact HB.out | apply below_alloc | apply pw_below_drewN | apply below_drew1) | exact HB.out)); (case side2 => exact Kd.R_tight rfl HO_5.out); rintro e w12 ⟨v404, rfl, ho0, hb, hkp⟩; refine ⟨_, rfl, ?_⟩; have n0_ := Aside0.mk (Kd.Q_mono (ok' := fun k_ => some k_ ≠ (v404 : Value).ownBlock) (Kd.Q_keptB (HO_6.out) hkp (fun k_ hk_ hs_ => (hk_) hs_)) (fun k_ hk_ => fun e_ => Or.elim (ho0.1 k_ e_.symm) (fun hs_ => hk_.2.1 hs_) (fun hn_ => Nat.not_le.2 hk_.2.2 hn_))); have n1_ := Aside0.mk (Kd.R_mono (ok' := fun k_ => some k_ ≠ (u6 : Value).ownBlock) ho0 (fun k_ hk_ => Or.elim hk_ (fun hs_ => fun e_ => (((HO_6.out).1 k_ e_.symm)) hs_) (fun hn_ => (Kd.fresh' (Kd.Q_lt (by (with_reducible repeat (first | apply Kd.Q_alloc | apply Kd.Q_drewN | apply Kd.Q_drew)); exact HO_6.out)) k_ hn_)))); have n2_ := Aside0.mk (hb); clear HO_6; clear HB; clear HO_5; have HO_6 := n0_; have HO405 := n1_; have HB := n2_; clear n0_ n1_ n2_; (try clear hb); (try clear hkp); (try clear ho0)))
       go_roundg k1
       case measure => have := HK1.out; omega
       case rel => exact ⟨(t403), (x6_1), (wrap64 (x7_1 + 1)), (by first | rfl | (simp; done) | (simp [*]; done) | (simp; exact isEmpty_bne _)), H', ⟨by have := HK1.out; omega⟩, ⟨by (with_reducible repeat (first | apply Kd.R_alloc | apply Kd.R_drewN | apply Kd.R_drew)); exact HO405.out⟩, ⟨by (with_reducible repeat (first | apply Kd.Q_alloc | apply Kd.Q_drewN | apply Kd.Q_drew)); exact HO_6.out⟩, ⟨by repeat (first | (with_reducible first | exact HB.out | apply below_alloc | apply pw_below_drewN | apply below_drew1) | exact HB.out)⟩⟩
      ·
       rw [if_neg c9] at H
       have c9b0 : (((rd_T70 l1 x7_1).f0) == 2) = false := beq_eq_false_iff_ne.mpr c9
       have c9b1 : (((rd_T70 l1 x7_1).f0) != 2) = true := bne_iff_ne.mpr c9
       have H' := Aside0.mk H
       clear H
       have p401 : 0 ≤ (x7_1 : Int) := of_decide_eq_true (by first | (with_reducible assumption) | assumption)
       have q401 : x7_1 < (l1.length : Int) := of_decide_eq_true (by first | (with_reducible assumption) | assumption)
       obtain ⟨ad401, e401, hx401_0, hx401_1, hx401_2⟩ := at_T70 HR1.out x7_1 p401 q401
       cases e401
       replace hx401_0 := (HB.out.cell (World.block_lt_of_cell? w _ hx401_0)).trans hx401_0
       replace hx401_1 := (HB.out.cell (World.block_lt_of_cell? w _ hx401_1)).trans hx401_1
       replace hx401_2 := (HB.out.cell (World.block_lt_of_cell? w _ hx401_2)).trans hx401_2
       replace p401 := eq_true p401
       replace q401 := eq_true q401
       have p406 : 0 ≤ (x7_1 : Int) := of_decide_eq_true (by first | (with_reducible assumption) | assumption)
       have q406 : x7_1 < (l1.length : Int) := of_decide_eq_true (by first | (with_reducible assumption) | assumption)
       obtain ⟨ad406, e406, hx406_0, hx406_1, hx406_2⟩ := at_T70 HR1.out x7_1 p406 q406
       obtain rfl : ad401 = ad406 := (by injection e406)
       replace hx406_0 := (HB.out.cell (World.block_lt_of_cell? w _ hx406_0)).trans hx406_0
       replace hx406_1 := (HB.out.cell (World.block_lt_of_cell? w _ hx406_1)).trans hx406_1
       replace hx406_2 := (HB.out.cell (World.block_lt_of_cell? w _ hx406_2)).trans hx406_2
       replace p406 := eq_true p406
       replace q406 := eq_true q406
       go_wp2
       go_loopg [5, 6, 8] k1 (fun kq v5 v6 v8 w' => ∃ (x5_2 : List (S70)) (x6_2 : List (S70)) (x8_2 : Int), v8 = .int .i64 x8_2 ∧ Aside0 (galleyref13_Compose.l1 kq l1 x5_2 x6_2 x7_1 x8_2 = some r) ∧ Aside0 (kq ≤ k1) ∧ Aside0 (Kd.R k70 70 w' w.heap.size (fun k_ => some k_ ≠ (v6 : Value).ownBlock) v5 x5_2) ∧ Aside0 (Kd.Q k70 70 w' w.heap.size (fun k_ => some k_ ≠ (v5 : Value).ownBlock) v6 x6_2) ∧ Aside0 (Below w.heap.size w w'))
       case atStart => exact ⟨(x5_1), (x6_1), ((rd_T70 l1 x7_1).f1), (by first | rfl | (simp; done) | (simp [*]; done) | (simp; exact isEmpty_bne _)), H', ⟨Nat.le_refl _⟩, ⟨by (with_reducible repeat (first | apply Kd.R_alloc | apply Kd.R_drewN | apply Kd.R_drew)); exact HO_5.out⟩, ⟨by (with_reducible repeat (first | apply Kd.Q_alloc | apply Kd.Q_drewN | apply Kd.Q_drew)); exact HO_6.out⟩, ⟨by repeat (first | (with_reducible first | exact HB.out | apply below_alloc | apply pw_below_drewN | apply below_drew1) | exact HB.out)⟩⟩
       case round =>
        clear H'
        (try clear c1); (try clear p2); (try clear c3); (try clear c4); (try clear p4); (try clear q4); (try clear hx4); (try clear p6); (try clear c7); (try clear c7b0); (try clear c8); (try clear c8b0); (try clear c9); (try clear c9b0); (try clear c9b1); (try clear hx401_0); (try clear hx401_1); (try clear hx401_2); (try clear hx402_0); (try clear hx402_1); (try clear hx402_2); (try clear hx406_0); (try clear hx406_1); (try clear hx406_2); (try clear p2); (try clear p401); (try clear p402); (try clear p406); (try clear q401); (try clear q402); (try clear q406)
        obtain ⟨x5_2, x6_2, x8_2, rfl, HA, HK2, HO_5, HO_6, HB⟩ := hrel
        cases gk with
        | zero => exact absurd HA.out (by simp [galleyref13_Compose.l1])
        | succ k2 =>
         have H := HA.out
         clear HA
         simp only [galleyref13_Compose.l1] at H
         by_cases c13 : x8_2 > 0
         ·
          rw [if_pos c13] at H
          have c13b0 : decide (0 < x8_2) = true := decide_eq_true c13
          clear c13
          by_cases c14 : 0 < (x6_2.length : Int)
          ·
           rw [if_pos c14] at H
           have c14b0 : decide (0 < (x6_2.length : Int)) = true := decide_eq_true c14
           have c14b1 : decide (0 < x6_2.length) = true := decide_eq_true (by omega)
           clear c14
           by_cases c15 : ((rd_T70 x6_2 0).f0) = 3
           ·
            rw [if_pos c15] at H
            have c15b0 : (((rd_T70 x6_2 0).f0) == 3) = true := beq_iff_eq.mpr c15
            have c15b1 : (((rd_T70 x6_2 0).f0) != 3) = false := bne_eq_false_iff_eq.mpr c15
            clear c15
            replace H := Option.bind_eq_some_iff.mp H
            obtain ⟨t409, A160, H⟩ := H
            replace H : (if 1 ≤ (x6_2.length : Int) then (galleyref13_Compose.l1 k2 l1 t409 (x6_2.drop (1 : Int).toNat) x7_1 x8_2) else (none)) = some r := H
            have A16 := Aside0.mk A160
            clear A160
            by_cases c17 : 1 ≤ (x6_2.length : Int)
            ·
             rw [if_pos c17] at H
             have c17b0 := eq_true c17
             have c17b1 : decide (1 ≤ (x6_2.length : Int)) = true := decide_eq_true c17
             clear c17
             obtain ⟨y412, hy412⟩ : ∃ y_ : List (S70), y_ = (x6_2.drop (1 : Int).toNat) := ⟨_, rfl⟩
             replace H : (galleyref13_Compose.l1 k2 l1 t409 y412 x7_1 x8_2) = some r := by first | (rw [hy412]; with_reducible exact H) | (have H2_ := (Option.bind_some _ _).symm.trans H; rw [hy412]; with_reducible exact H2_) | (have H2_ := (Option.bind_some _ _).symm.trans H; with_reducible exact H2_) | with_reducible exact H | (rw [hy412]; exact H) | exact H
             have Ny412 := Aside0.mk hy412
             clear hy412
             have H' := Aside0.mk H
             clear H
             obtain ⟨Ao18, co18, eo18, _⟩ := Kd.Q_slice HO_6.out
             subst eo18
             have p407 : 0 ≤ (0 : Int) := (by omega)
             have q407 : 0 < (x6_2.length : Int) := of_decide_eq_true (by first | (with_reducible assumption) | assumption)
             obtain ⟨ad407, e407, hx407_0, hx407_1, hx407_2⟩ := at_T70 (Kd.Q_reads' HO_6.out).2.2 0 p407 q407
             cases e407
             have qi407 : (0 < x6_2.length) = True := eq_true (by omega)
             (try rw [show ((0 : Int)).toNat = 0 from rfl] at hx407_0)
             (try rw [show 0 * 3 = 0 from rfl] at hx407_0)
             (try rw [Addr.add_zero'] at hx407_0)
             (try rw [show ((0 : Int)).toNat = 0 from rfl] at hx407_1)
             (try rw [show 0 * 3 = 0 from rfl] at hx407_1)
             (try rw [Addr.add_zero'] at hx407_1)
             (try rw [show ((0 : Int)).toNat = 0 from rfl] at hx407_2)
             (try rw [show 0 * 3 = 0 from rfl] at hx407_2)
             (try rw [Addr.add_zero'] at hx407_2)
             replace p407 := eq_true p407
             replace q407 := eq_true q407
             go_wp2_with (first | ((with_reducible refine gate_dst (N := 9) rfl ?_); refine box_event ?hg (N := 9) ?hd (cs := #[.int .i64 0, .int .i64 0, .string (⟨#[]⟩ : ByteArray)]) (t := 70) ?hr ?_; (case hd => rfl); (case hg => rfl); (case hr => first | (go_simp; done) | (go_simp; rfl)); intro gb408 hg w19 hbox hb; have n0_ := Aside0.mk (Kd.R_below (Kd.R_elderB (by (with_reducible repeat (first | apply Kd.R_alloc | apply Kd.R_drewN | apply Kd.R_drew)); exact HO_5.out) gb408 (Nat.le_of_eq hg.symm)) hb); have n1_ := Aside0.mk (Kd.Q_below (Kd.Q_elderB (by (with_reducible repeat (first | apply Kd.Q_alloc | apply Kd.Q_drewN | apply Kd.Q_drew)); exact HO_6.out) gb408 (Nat.le_of_eq hg.symm)) hb); have n2_ := Aside0.mk (below_step (by repeat (first | (with_reducible first | exact HB.out | apply below_alloc | apply pw_below_drewN | apply below_drew1) | exact HB.out)) hb); have n3_ := Aside0.mk (hbox); have n4_ := Aside0.mk ((by rw [hg]; exact (below_size (by repeat (first | (with_reducible first | exact HB.out | apply below_alloc | apply pw_below_drewN | apply below_drew1) | exact HB.out))) : w.heap.size ≤ gb408)); have n5_ := Aside0.mk ((by rw [hg]; exact (below_size (by repeat (first | (with_reducible first | exact HB.out | apply below_alloc | apply pw_below_drewN | apply below_drew1) | exact HB.out))) : w.heap.size ≤ gb408)); clear HO_5; clear HO_6; clear HB; have HO_5 := n0_; have HO_6 := n1_; have HB := n2_; have BK408 := n3_; have GW408 := n4_; have GE408 := n5_; clear n0_ n1_ n2_ n3_ n4_ n5_; clear hb hbox hg; have hcz20_0 : w19.cell? ⟨gb408, 0, none⟩ = some (.int .i64 0) := (blk_cell BK408.out 0).trans rfl; have hcz20_1 : w19.cell? ⟨gb408, 1, none⟩ = some (.int .i64 0) := (blk_cell BK408.out 1).trans rfl; have hcz20_2 : w19.cell? ⟨gb408, 2, none⟩ = some (.string (⟨#[]⟩ : ByteArray)) := (blk_cell BK408.out 2).trans rfl; have hfz20_0 := blk_frozen BK408.out 0; have hfz20_1 := blk_frozen BK408.out 1; have hfz20_2 := blk_frozen BK408.out 2) | ((with_reducible refine gate_store (t := 70) (p := 9) rfl ?_); refine store_event (t := 70) (p := 9) (v := ?vo_w21) (w1 := (((w19.setCell ⟨gb408, 0, none⟩ (.int .i64 ((rd_T70 x6_2 0).f0))).setCell ⟨gb408, 1, none⟩ (.int .i64 ((rd_T70 x6_2 0).f1))).setCell ⟨gb408, 2, none⟩ (.string ((rd_T70 x6_2 0).f2)))) ?hg ?ho ?hn ?hr ?_; (case ho => rfl); (case hg => rfl); (case hn => rfl); (case hr => first | (go_simp; done) | (go_simp; rfl)); intro w21 hw; have n0_ : Aside0 (Kd.R k70 70 w21 w.heap.size (fun k_ => some k_ ≠ (.slice (some ad407) x6_2.length co18 : Value).ownBlock ∧ k_ ≠ gb408) u5 x5_2) := ⟨(by rw [hw]; exact (by (with_reducible repeat (first | apply Kd.R_alloc | apply Kd.R_drewN | apply Kd.R_drew)); exact Kd.R_mono (Kd.R_far (p := ⟨gb408, 2, none⟩) (Kd.R_far (p := ⟨gb408, 1, none⟩) (Kd.R_far (p := ⟨gb408, 0, none⟩) (Kd.R_mono HO_5.out (fun k_ hk => (⟨hk, hk.2⟩ : _ ∧ k_ ≠ gb408))) (fun _ hk => hk.2) (.int .i64 ((rd_T70 x6_2 0).f0))) (fun _ hk => hk.2) (.int .i64 ((rd_T70 x6_2 0).f1))) (fun _ hk => hk.2) (.string ((rd_T70 x6_2 0).f2))) (fun _ hk => ⟨hk.1.1, hk.1.2⟩)))⟩; have n1_ : Aside0 (Kd.Q k70 70 w21 w.heap.size (fun k_ => some k_ ≠ (u5 : Value).ownBlock ∧ k_ ≠ gb408) (.slice (some ad407) x6_2.length co18) x6_2) := ⟨(by rw [hw]; exact (by (with_reducible repeat (first | apply Kd.Q_alloc | apply Kd.Q_drewN | apply Kd.Q_drew)); exact Kd.Q_mono (Kd.Q_far (p := ⟨gb408, 2, none⟩) (Kd.Q_far (p := ⟨gb408, 1, none⟩) (Kd.Q_far (p := ⟨gb408, 0, none⟩) (Kd.Q_mono HO_6.out (fun k_ hk => (⟨hk, hk.2⟩ : _ ∧ k_ ≠ gb408))) (fun _ hk => hk.2) (.int .i64 ((rd_T70 x6_2 0).f0))) (fun _ hk => hk.2) (.int .i64 ((rd_T70 x6_2 0).f1))) (fun _ hk => hk.2) (.string ((rd_T70 x6_2 0).f2))) (fun _ hk => ⟨hk.1.1, hk.1.2⟩)))⟩; have n2_ : Aside0 (w21.heap[gb408]? = some (.cells #[.int .i64 ((rd_T70 x6_2 0).f0), .int .i64 ((rd_T70 x6_2 0).f1), .string ((rd_T70 x6_2 0).f2)] 70 (0, 0))) := ⟨(by rw [hw]; exact (by (with_reducible repeat (first | refine blk_drewN ?_ _ | refine blk_drew ?_ | refine blk_alloc ?_ _)); refine blk_put (cs := #[.int .i64 ((rd_T70 x6_2 0).f0), .int .i64 ((rd_T70 x6_2 0).f1), .string (⟨#[]⟩ : ByteArray)]) ?_ 2 _ rfl; (with_reducible repeat (first | refine blk_drewN ?_ _ | refine blk_drew ?_ | refine blk_alloc ?_ _)); refine blk_put (cs := #[.int .i64 ((rd_T70 x6_2 0).f0), .int .i64 0, .string (⟨#[]⟩ : ByteArray)]) ?_ 1 _ rfl; (with_reducible repeat (first | refine blk_drewN ?_ _ | refine blk_drew ?_ | refine blk_alloc ?_ _)); refine blk_put (cs := #[.int .i64 0, .int .i64 0, .string (⟨#[]⟩ : ByteArray)]) ?_ 0 _ rfl; (with_reducible repeat (first | refine blk_drewN ?_ _ | refine blk_drew ?_ | refine blk_alloc ?_ _)); exact BK408.out))⟩; have n3_ : Aside0 (Below w.heap.size w w21) := ⟨(by rw [hw]; exact (by repeat (first | (with_reducible first | exact HB.out | apply below_alloc | apply pw_below_drewN | apply below_drew1 | refine below_set ?_ GE408.out) | exact HB.out)))⟩; clear hw; clear HO_5; clear HO_6; clear BK408; clear HB; have HO_5 := n0_; have HO_6 := n1_; have BK408 := n2_; have HB := n3_; clear n0_ n1_ n2_ n3_; have hcz22_0 : w21.cell? ⟨gb408, 0, none⟩ = some (.int .i64 ((rd_T70 x6_2 0).f0)) := (blk_cell BK408.out 0).trans rfl; have hcz22_1 : w21.cell? ⟨gb408, 1, none⟩ = some (.int .i64 ((rd_T70 x6_2 0).f1)) := (blk_cell BK408.out 1).trans rfl; have hcz22_2 : w21.cell? ⟨gb408, 2, none⟩ = some (.string ((rd_T70 x6_2 0).f2)) := (blk_cell BK408.out 2).trans rfl; have hfz22_0 := blk_frozen BK408.out 0; have hfz22_1 := blk_frozen BK408.out 1; have hfz22_2 := blk_frozen BK408.out 2; obtain ⟨Ao23, co23, eo23⟩ := Kd.R_slice HO_5.out; subst eo23) | ((with_reducible refine gate_callee (f := 78) rfl ?_); refine goesL_ (some 50) rfl rfl Try.func78 (by kernel_rfl) rfl #[.slice Ao23 x5_2.length co23, .int .i64 3, .int .i64 ((rd_T70 x6_2 0).f1), .string (⟨#[]⟩ : ByteArray)] rfl (by (try simp only [List.map_toArray, List.map_cons, List.map_nil]); first | done | rfl | (simp only [List.length_drop, List.length_take]; rfl)) ?_; (with_reducible refine (galleyref13_add.calls k2 (fun k_ => some k_ = (.slice Ao23 x5_2.length co23 : Value).ownBlock) (.slice Ao23 x5_2.length co23) x5_2 3 ((rd_T70 x6_2 0).f1) (⟨#[]⟩ : ByteArray) t409 w _ ?side1 ?side2 A16.out).mono ?_); (case side1 => repeat (first | (with_reducible first | exact HB.out | apply below_alloc | apply pw_below_drewN | apply below_drew1 | refine below_set ?_ GE408.out) | exact HB.out)); (case side2 => exact Kd.R_tight rfl HO_5.out); rintro e w24 ⟨v410, rfl, ho0, hb, hkp⟩; refine ⟨_, rfl, ?_⟩; have n0_ := Aside0.mk (Kd.Q_mono (ok' := fun k_ => k_ ≠ gb408 ∧ some k_ ≠ (v410 : Value).ownBlock) (Kd.Q_keptB (HO_6.out) hkp (fun k_ hk_ hs_ => (hk_.1) hs_)) (fun k_ hk_ => ⟨hk_.1.2, fun e_ => Or.elim (ho0.1 k_ e_.symm) (fun hs_ => hk_.2.1 hs_) (fun hn_ => Nat.not_le.2 hk_.2.2 hn_)⟩)); have n1_ := Aside0.mk (blk_kept (by (with_reducible repeat (first | refine blk_drewN ?_ _ | refine blk_drew ?_ | refine blk_alloc ?_ _)); exact BK408.out) hkp (fun hs_ => (fun e_ => (Kd.R_away HO_5.out (fun _ hk => hk.2)) e_) hs_)); have n2_ := Aside0.mk (Kd.R_mono (ok' := fun k_ => some k_ ≠ (.slice (some ad407) x6_2.length co18 : Value).ownBlock ∧ k_ ≠ gb408) ho0 (fun k_ hk_ => ⟨Or.elim hk_ (fun hs_ => fun e_ => (((HO_6.out).1 k_ e_.symm).1) hs_) (fun hn_ => (Kd.fresh' (Kd.Q_lt (by (with_reducible repeat (first | apply Kd.Q_alloc | apply Kd.Q_drewN | apply Kd.Q_drew)); exact HO_6.out)) k_ hn_)), Or.elim hk_ (fun hs_ => fun e_ => (Kd.R_away HO_5.out (fun _ hk => hk.2)) (by rw [← e_]; exact hs_)) (fun hn_ => (Kd.freshB (g := gb408) (o := .cells #[.int .i64 ((rd_T70 x6_2 0).f0), .int .i64 ((rd_T70 x6_2 0).f1), .string ((rd_T70 x6_2 0).f2)] 70 (0, 0)) (by (with_reducible repeat (first | refine blk_drewN ?_ _ | refine blk_drew ?_ | refine blk_alloc ?_ _)); exact BK408.out) k_ hn_))⟩)); have n3_ := Aside0.mk (hb); clear HO_6; clear BK408; clear HB; clear HO_5; have HO_6 := n0_; have BK408 := n1_; have HO411 := n2_; have HB := n3_; clear n0_ n1_ n2_ n3_; (try clear hb); (try clear hkp); (try clear ho0); have q25 : (1 : Int) ≤ ((x6_2.length : Int) : Int) := of_decide_eq_true (by first | (with_reducible assumption) | assumption); obtain ⟨i025, hi025, _, hsz25, _⟩ := info_parts info70; have hcut25 := cut_from (P := Try.prog) 25 70 .i64 Try.underlying25 hi025 3 hsz25 (some ad407) x6_2.length co18 1 (by omega) q25; have hr25 := Kd.Q_drop (k := (1 : Int).toNat) HO_6.out (by omega); obtain ⟨A25, hA25⟩ : ∃ A1, A1 = (if co18 = (1 : Int).toNat then (some ad407) else ((some ad407) : Option Addr).map (·.add ((1 : Int).toNat * 3))) := ⟨_, rfl⟩; obtain ⟨c25, hc25⟩ : ∃ c1, c1 = co18 - (1 : Int).toNat := ⟨_, rfl⟩; have hy25 : y412.length = x6_2.length - (1 : Int).toNat := (by rw [Ny412.out, List.length_drop]); rw [← Ny412.out] at hr25; rw [← hy25, ← hA25, ← hc25] at hcut25; replace hr25 : Kd.Q k70 70 w24 w.heap.size (fun k_ => some k_ ≠ (v410 : Value).ownBlock ∧ k_ ≠ gb408) (.slice A25 y412.length c25) y412 := (by rw [hA25, hc25, hy25]; first | exact hr25 | exact Kd.Q_mono hr25 (fun _ h_ => ⟨h_.2, h_.1⟩)); have HE25 : Aside0 ((Value.slice A25 y412.length c25).ownBlock = (.slice (some ad407) x6_2.length co18 : Value).ownBlock) := ⟨by rw [hA25]; split <;> (cases ((some ad407) : Option Addr) <;> rfl)⟩; clear hy25 hi025 hsz25 HO_6 hA25 hc25; have HO414 := Aside0.mk hr25; clear hr25; replace q25 := eq_true q25; have n_ := Aside0.mk (Kd.R_mono (ok' := fun k_ => (some k_ ≠ (.slice A25 y412.length c25 : Value).ownBlock ∧ k_ ≠ gb408)) HO411.out (fun k_ hk => ⟨(by rw [HE25.out]; exact hk.1), hk.2⟩)); clear HO411; have HO411 := n_; clear n_))
             go_roundg k2
             case measure => have := HK1.out; have := HK2.out; omega
             case rel => exact ⟨(t409), (y412), (x8_2), (by first | rfl | (simp; done) | (simp [*]; done) | (simp; exact isEmpty_bne _)), H', ⟨by have := HK1.out; have := HK2.out; omega⟩, ⟨by (with_reducible repeat (first | apply Kd.R_alloc | apply Kd.R_drewN | apply Kd.R_drew)); exact Kd.R_mono HO411.out (fun _ hk => hk.1)⟩, ⟨by (with_reducible repeat (first | apply Kd.Q_alloc | apply Kd.Q_drewN | apply Kd.Q_drew)); first | exact Kd.Q_mono HO414.out (fun _ hk => hk.2) | exact Kd.Q_mono HO414.out (fun _ hk => hk.1)⟩, ⟨by repeat (first | (with_reducible first | exact HB.out | apply below_alloc | apply pw_below_drewN | apply below_drew1 | refine below_set ?_ GE408.out) | exact HB.out)⟩⟩
            ·
             rw [if_neg c17] at H
             exact absurd H (by simp)
           ·
            rw [if_neg c15] at H
            have c15b0 : (((rd_T70 x6_2 0).f0) == 3) = false := beq_eq_false_iff_ne.mpr c15
            have c15b1 : (((rd_T70 x6_2 0).f0) != 3) = true := bne_iff_ne.mpr c15
            have HC26 := Aside0.mk H
            clear H
            obtain ⟨Ao27, co27, eo27, _⟩ := Kd.Q_slice HO_6.out
            subst eo27
            have p407 : 0 ≤ (0 : Int) := (by omega)
            have q407 : 0 < (x6_2.length : Int) := of_decide_eq_true (by first | (with_reducible assumption) | assumption)
            obtain ⟨ad407, e407, hx407_0, hx407_1, hx407_2⟩ := at_T70 (Kd.Q_reads' HO_6.out).2.2 0 p407 q407
            cases e407
            have qi407 : (0 < x6_2.length) = True := eq_true (by omega)
            (try rw [show ((0 : Int)).toNat = 0 from rfl] at hx407_0)
            (try rw [show 0 * 3 = 0 from rfl] at hx407_0)
            (try rw [Addr.add_zero'] at hx407_0)
            (try rw [show ((0 : Int)).toNat = 0 from rfl] at hx407_1)
            (try rw [show 0 * 3 = 0 from rfl] at hx407_1)
            (try rw [Addr.add_zero'] at hx407_1)
            (try rw [show ((0 : Int)).toNat = 0 from rfl] at hx407_2)
            (try rw [show 0 * 3 = 0 from rfl] at hx407_2)
            (try rw [Addr.add_zero'] at hx407_2)
            replace p407 := eq_true p407
            replace q407 := eq_true q407
            go_upto_if 61 with (first | ((with_reducible refine gate_dst (N := 9) rfl ?_); refine box_event ?hg (N := 9) ?hd (cs := #[.int .i64 0, .int .i64 0, .string (⟨#[]⟩ : ByteArray)]) (t := 70) ?hr ?_; (case hd => rfl); (case hg => rfl); (case hr => first | (go_simp; done) | (go_simp; rfl)); intro gb408 hg w28 hbox hb; have n0_ := Aside0.mk (Kd.R_below (Kd.R_elderB (by (with_reducible repeat (first | apply Kd.R_alloc | apply Kd.R_drewN | apply Kd.R_drew)); exact HO_5.out) gb408 (Nat.le_of_eq hg.symm)) hb); have n1_ := Aside0.mk (Kd.Q_below (Kd.Q_elderB (by (with_reducible repeat (first | apply Kd.Q_alloc | apply Kd.Q_drewN | apply Kd.Q_drew)); exact HO_6.out) gb408 (Nat.le_of_eq hg.symm)) hb); have n2_ := Aside0.mk (below_step (by repeat (first | (with_reducible first | exact HB.out | apply below_alloc | apply pw_below_drewN | apply below_drew1) | exact HB.out)) hb); have n3_ := Aside0.mk (hbox); have n4_ := Aside0.mk ((by rw [hg]; exact (below_size (by repeat (first | (with_reducible first | exact HB.out | apply below_alloc | apply pw_below_drewN | apply below_drew1) | exact HB.out))) : w.heap.size ≤ gb408)); have n5_ := Aside0.mk ((by rw [hg]; exact (below_size (by repeat (first | (with_reducible first | exact HB.out | apply below_alloc | apply pw_below_drewN | apply below_drew1) | exact HB.out))) : w.heap.size ≤ gb408)); clear HO_5; clear HO_6; clear HB; have HO_5 := n0_; have HO_6 := n1_; have HB := n2_; have BK408 := n3_; have GW408 := n4_; have GE408 := n5_; clear n0_ n1_ n2_ n3_ n4_ n5_; clear hb hbox hg; have hcz29_0 : w28.cell? ⟨gb408, 0, none⟩ = some (.int .i64 0) := (blk_cell BK408.out 0).trans rfl; have hcz29_1 : w28.cell? ⟨gb408, 1, none⟩ = some (.int .i64 0) := (blk_cell BK408.out 1).trans rfl; have hcz29_2 : w28.cell? ⟨gb408, 2, none⟩ = some (.string (⟨#[]⟩ : ByteArray)) := (blk_cell BK408.out 2).trans rfl; have hfz29_0 := blk_frozen BK408.out 0; have hfz29_1 := blk_frozen BK408.out 1; have hfz29_2 := blk_frozen BK408.out 2))
            (try simp only [Act.put, List.setIfInBounds_toArray, List.set_cons_zero, List.set_cons_succ])
            go_cut [10] (fun v10 wc => ∃ (kq : Nat) (x10_25 : Int), v10 = .int .i64 x10_25 ∧ Aside0 (galleyref13_Compose.j2 kq l1 x5_2 x6_2 x7_1 x8_2 x10_25 ((rd_T70 x6_2 0).f0) ((rd_T70 x6_2 0).f1) ((rd_T70 x6_2 0).f2) = some r) ∧ Aside0 (kq ≤ k2) ∧ Aside0 (Kd.R k70 70 wc w.heap.size (fun k_ => some k_ ≠ ((.slice (some ad407) x6_2.length co27) : Value).ownBlock ∧ k_ ≠ gb408) u5 x5_2) ∧ Aside0 (Kd.Q k70 70 wc w.heap.size (fun k_ => some k_ ≠ (u5 : Value).ownBlock ∧ k_ ≠ gb408) (.slice (some ad407) x6_2.length co27) x6_2) ∧ Aside0 (wc.heap[gb408]? = some (.cells #[.int .i64 ((rd_T70 x6_2 0).f0), .int .i64 ((rd_T70 x6_2 0).f1), .string ((rd_T70 x6_2 0).f2)] 70 (0, 0))) ∧ Aside0 (Below w.heap.size w wc))
            case first =>
             have H := HC26.out
             clear HC26
             by_cases c30 : (wrap64 (((rd_T70 x6_2 0).f1) + (((rd_T70 x6_2 0).f2).size : Int))) > x8_2
             ·
              rw [if_pos c30] at H
              have c30b0 : decide (x8_2 < (wrap64 (((rd_T70 x6_2 0).f1) + (((rd_T70 x6_2 0).f2).size : Int)))) = true := decide_eq_true c30
              clear c30
              (first | rw [c30b0] | (simp only [i64_w, i32_w]; rw [c30b0]) | skip)
              have H' := Aside0.mk H
              clear H
              go_wp2
              go_meet
              case rel => exact ⟨_, (x8_2), (by first | rfl | (simp; done) | (simp [*]; done) | (simp; exact isEmpty_bne _)), H', ⟨by have := HK1.out; have := HK2.out; first | omega | exact Nat.le_refl _⟩, ⟨by (with_reducible repeat (first | apply Kd.R_alloc | apply Kd.R_drewN | apply Kd.R_drew)); exact Kd.R_mono (Kd.R_far (p := ⟨gb408, 2, none⟩) (Kd.R_far (p := ⟨gb408, 1, none⟩) (Kd.R_far (p := ⟨gb408, 0, none⟩) (Kd.R_mono HO_5.out (fun k_ hk => (⟨hk, hk.2⟩ : _ ∧ k_ ≠ gb408))) (fun _ hk => hk.2) (.int .i64 ((rd_T70 x6_2 0).f0))) (fun _ hk => hk.2) (.int .i64 ((rd_T70 x6_2 0).f1))) (fun _ hk => hk.2) (.string ((rd_T70 x6_2 0).f2))) (fun _ hk => ⟨hk.1.1, hk.1.2⟩)⟩, ⟨by (with_reducible repeat (first | apply Kd.Q_alloc | apply Kd.Q_drewN | apply Kd.Q_drew)); exact Kd.Q_mono (Kd.Q_far (p := ⟨gb408, 2, none⟩) (Kd.Q_far (p := ⟨gb408, 1, none⟩) (Kd.Q_far (p := ⟨gb408, 0, none⟩) (Kd.Q_mono HO_6.out (fun k_ hk => (⟨hk, hk.2⟩ : _ ∧ k_ ≠ gb408))) (fun _ hk => hk.2) (.int .i64 ((rd_T70 x6_2 0).f0))) (fun _ hk => hk.2) (.int .i64 ((rd_T70 x6_2 0).f1))) (fun _ hk => hk.2) (.string ((rd_T70 x6_2 0).f2))) (fun _ hk => ⟨hk.1.1, hk.1.2⟩)⟩, ⟨by (with_reducible repeat (first | refine blk_drewN ?_ _ | refine blk_drew ?_ | refine blk_alloc ?_ _)); refine blk_put (cs := #[.int .i64 ((rd_T70 x6_2 0).f0), .int .i64 ((rd_T70 x6_2 0).f1), .string (⟨#[]⟩ : ByteArray)]) ?_ 2 _ rfl; (with_reducible repeat (first | refine blk_drewN ?_ _ | refine blk_drew ?_ | refine blk_alloc ?_ _)); refine blk_put (cs := #[.int .i64 ((rd_T70 x6_2 0).f0), .int .i64 0, .string (⟨#[]⟩ : ByteArray)]) ?_ 1 _ rfl; (with_reducible repeat (first | refine blk_drewN ?_ _ | refine blk_drew ?_ | refine blk_alloc ?_ _)); refine blk_put (cs := #[.int .i64 0, .int .i64 0, .string (⟨#[]⟩ : ByteArray)]) ?_ 0 _ rfl; (with_reducible repeat (first | refine blk_drewN ?_ _ | refine blk_drew ?_ | refine blk_alloc ?_ _)); exact BK408.out⟩, ⟨by repeat (first | (with_reducible first | exact HB.out | apply below_alloc | apply pw_below_drewN | apply below_drew1 | refine below_set ?_ GE408.out) | exact HB.out)⟩⟩
             ·
              rw [if_neg c30] at H
              have c30b0 : decide (x8_2 < (wrap64 (((rd_T70 x6_2 0).f1) + (((rd_T70 x6_2 0).f2).size : Int)))) = false := decide_eq_false c30
              clear c30
              (first | rw [c30b0] | (simp only [i64_w, i32_w]; rw [c30b0]) | skip)
              have H' := Aside0.mk H
              clear H
              go_wp2
              go_meet
              case rel => exact ⟨_, (wrap64 (((rd_T70 x6_2 0).f1) + (((rd_T70 x6_2 0).f2).size : Int))), (by first | rfl | (simp; done) | (simp [*]; done) | (simp; exact isEmpty_bne _)), H', ⟨by have := HK1.out; have := HK2.out; first | omega | exact Nat.le_refl _⟩, ⟨by (with_reducible repeat (first | apply Kd.R_alloc | apply Kd.R_drewN | apply Kd.R_drew)); exact Kd.R_mono (Kd.R_far (p := ⟨gb408, 2, none⟩) (Kd.R_far (p := ⟨gb408, 1, none⟩) (Kd.R_far (p := ⟨gb408, 0, none⟩) (Kd.R_mono HO_5.out (fun k_ hk => (⟨hk, hk.2⟩ : _ ∧ k_ ≠ gb408))) (fun _ hk => hk.2) (.int .i64 ((rd_T70 x6_2 0).f0))) (fun _ hk => hk.2) (.int .i64 ((rd_T70 x6_2 0).f1))) (fun _ hk => hk.2) (.string ((rd_T70 x6_2 0).f2))) (fun _ hk => ⟨hk.1.1, hk.1.2⟩)⟩, ⟨by (with_reducible repeat (first | apply Kd.Q_alloc | apply Kd.Q_drewN | apply Kd.Q_drew)); exact Kd.Q_mono (Kd.Q_far (p := ⟨gb408, 2, none⟩) (Kd.Q_far (p := ⟨gb408, 1, none⟩) (Kd.Q_far (p := ⟨gb408, 0, none⟩) (Kd.Q_mono HO_6.out (fun k_ hk => (⟨hk, hk.2⟩ : _ ∧ k_ ≠ gb408))) (fun _ hk => hk.2) (.int .i64 ((rd_T70 x6_2 0).f0))) (fun _ hk => hk.2) (.int .i64 ((rd_T70 x6_2 0).f1))) (fun _ hk => hk.2) (.string ((rd_T70 x6_2 0).f2))) (fun _ hk => ⟨hk.1.1, hk.1.2⟩)⟩, ⟨by (with_reducible repeat (first | refine blk_drewN ?_ _ | refine blk_drew ?_ | refine blk_alloc ?_ _)); refine blk_put (cs := #[.int .i64 ((rd_T70 x6_2 0).f0), .int .i64 ((rd_T70 x6_2 0).f1), .string (⟨#[]⟩ : ByteArray)]) ?_ 2 _ rfl; (with_reducible repeat (first | refine blk_drewN ?_ _ | refine blk_drew ?_ | refine blk_alloc ?_ _)); refine blk_put (cs := #[.int .i64 ((rd_T70 x6_2 0).f0), .int .i64 0, .string (⟨#[]⟩ : ByteArray)]) ?_ 1 _ rfl; (with_reducible repeat (first | refine blk_drewN ?_ _ | refine blk_drew ?_ | refine blk_alloc ?_ _)); refine blk_put (cs := #[.int .i64 0, .int .i64 0, .string (⟨#[]⟩ : ByteArray)]) ?_ 0 _ rfl; (with_reducible repeat (first | refine blk_drewN ?_ _ | refine blk_drew ?_ | refine blk_alloc ?_ _)); exact BK408.out⟩, ⟨by repeat (first | (with_reducible first | exact HB.out | apply below_alloc | apply pw_below_drewN | apply below_drew1 | refine below_set ?_ GE408.out) | exact HB.out)⟩⟩
            case rest =>
             clear HC26
             (try clear c1); (try clear c2); (try clear p2); (try clear q2); (try clear c3); (try clear c4); (try clear p4); (try clear q4); (try clear hx4); (try clear qi4); (try clear p6); (try clear c7); (try clear c7b0); (try clear c8); (try clear c8b0); (try clear c9); (try clear c9b0); (try clear c9b1); (try clear c13); (try clear c13b0); (try clear c14); (try clear c14b0); (try clear c14b1); (try clear c15); (try clear c15b0); (try clear c15b1); (try clear c17); (try clear c17b0); (try clear c17b1); (try clear c25); (try clear q25); (try clear c30); (try clear c30b0); (try clear hcz20_0); (try clear hcz20_1); (try clear hcz20_2); (try clear hcz22_0); (try clear hcz22_1); (try clear hcz22_2); (try clear hcz29_0); (try clear hcz29_1); (try clear hcz29_2); (try clear hfz20_0); (try clear hfz20_1); (try clear hfz20_2); (try clear hfz22_0); (try clear hfz22_1); (try clear hfz22_2); (try clear hfz29_0); (try clear hfz29_1); (try clear hfz29_2); (try clear hx401_0); (try clear hx401_1); (try clear hx401_2); (try clear hx402_0); (try clear hx402_1); (try clear hx402_2); (try clear hx406_0); (try clear hx406_1); (try clear hx406_2); (try clear hx407_0); (try clear hx407_1); (try clear hx407_2); (try clear p2); (try clear p4); (try clear p401); (try clear p402); (try clear p406); (try clear p407); (try clear p6); (try clear q25); (try clear q4); (try clear q401); (try clear q402); (try clear q406); (try clear q407)
             obtain ⟨kq, x10_25, rfl, HA, HJ25, HO_5, HO_6, BK408, HB⟩ := hcut
             cases kq with
             | zero => exact absurd HA.out (by simp [galleyref13_Compose.j2])
             | succ kj25 =>
              have H := HA.out
              clear HA
              simp only [galleyref13_Compose.j2] at H
              by_cases c31 : ((rd_T70 x6_2 0).f0) = 1
              ·
               rw [if_pos c31] at H
               have c31b0 : (((rd_T70 x6_2 0).f0) == 1) = true := beq_iff_eq.mpr c31
               have c31b1 : (((rd_T70 x6_2 0).f0) != 1) = false := bne_eq_false_iff_eq.mpr c31
               clear c31
               by_cases c32 : 0 ≤ x7_1
               ·
                rw [if_pos c32] at H
                have c32b0 : decide (0 ≤ x7_1) = true := decide_eq_true c32
                clear c32
                by_cases c33 : x7_1 < (l1.length : Int)
                ·
                 rw [if_pos c33] at H
                 have c33b0 : decide (x7_1 < (l1.length : Int)) = true := decide_eq_true c33
                 clear c33
                 replace H := Option.bind_eq_some_iff.mp H
                 obtain ⟨t416, A340, H⟩ := H
                 replace H : (if 0 < (x6_2.length : Int) then ((some (x6_2.set (0 : Int).toNat (⟨(rd_T70 x6_2 0).f0, wrap64 (((rd_T70 x6_2 0).f1) - x10_25), (rd_T70 x6_2 0).f2⟩ : S70) : List (S70))).bind fun y419 => (if ((rd_T70 y419 0).f1) = 0 then (if ((rd_T70 y419 0).f2).toList = ([] : List UInt8) then (if 1 ≤ (x6_2.length : Int) then (galleyref13_Compose.l1 kj25 l1 t416 (y419.drop (1 : Int).toNat) x7_1 (wrap64 (x8_2 - x10_25))) else (none)) else (galleyref13_Compose.l1 kj25 l1 t416 y419 x7_1 (wrap64 (x8_2 - x10_25)))) else (galleyref13_Compose.l1 kj25 l1 t416 y419 x7_1 (wrap64 (x8_2 - x10_25))))) else (none)) = some r := H
                 have A34 := Aside0.mk A340
                 clear A340
                 by_cases c35 : 0 < (x6_2.length : Int)
                 ·
                  rw [if_pos c35] at H
                  have c35b0 : decide (0 < (x6_2.length : Int)) = true := decide_eq_true c35
                  have c35b1 : decide (0 < x6_2.length) = true := decide_eq_true (by omega)
                  clear c35
                  obtain ⟨y419, hy419⟩ : ∃ y_ : List (S70), y_ = (x6_2.set (0 : Int).toNat (⟨(rd_T70 x6_2 0).f0, wrap64 (((rd_T70 x6_2 0).f1) - x10_25), (rd_T70 x6_2 0).f2⟩ : S70)) := ⟨_, rfl⟩
                  replace H : (if ((rd_T70 y419 0).f1) = 0 then (if ((rd_T70 y419 0).f2).toList = ([] : List UInt8) then (if 1 ≤ (x6_2.length : Int) then (galleyref13_Compose.l1 kj25 l1 t416 (y419.drop (1 : Int).toNat) x7_1 (wrap64 (x8_2 - x10_25))) else (none)) else (galleyref13_Compose.l1 kj25 l1 t416 y419 x7_1 (wrap64 (x8_2 - x10_25)))) else (galleyref13_Compose.l1 kj25 l1 t416 y419 x7_1 (wrap64 (x8_2 - x10_25)))) = some r := by first | (rw [hy419]; with_reducible exact H) | (have H2_ := (Option.bind_some _ _).symm.trans H; rw [hy419]; with_reducible exact H2_) | (have H2_ := (Option.bind_some _ _).symm.trans H; with_reducible exact H2_) | with_reducible exact H | (rw [hy419]; exact H) | exact H
                  have Ny419 := Aside0.mk hy419
                  have HYL419 := Aside0.mk (show y419.length = x6_2.length from by rw [hy419, List.length_set])
                  clear hy419
                  by_cases c37 : ((rd_T70 y419 0).f1) = 0
                  ·
                   rw [if_pos c37] at H
                   have c37b0 : (((rd_T70 y419 0).f1) == 0) = true := beq_iff_eq.mpr c37
                   have c37b1 : (((rd_T70 y419 0).f1) != 0) = false := bne_eq_false_iff_eq.mpr c37
                   clear c37
                   by_cases c38 : ((rd_T70 y419 0).f2).toList = ([] : List UInt8)
                   ·
                    rw [if_pos c38] at H
                    have c38b0 : (((rd_T70 y419 0).f2).toList == ([] : List UInt8)) = true := beq_iff_eq.mpr c38
                    have c38b1 : (((rd_T70 y419 0).f2).toList != ([] : List UInt8)) = false := bne_eq_false_iff_eq.mpr c38
                    clear c38
                    by_cases c39 : 1 ≤ (x6_2.length : Int)
                    ·
                     rw [if_pos c39] at H
                     have c39b0 := eq_true c39
                     have c39b1 : decide (1 ≤ (x6_2.length : Int)) = true := decide_eq_true c39
                     clear c39
                     obtain ⟨y422, hy422⟩ : ∃ y_ : List (S70), y_ = (y419.drop (1 : Int).toNat) := ⟨_, rfl⟩
                     replace H : (galleyref13_Compose.l1 kj25 l1 t416 y422 x7_1 (wrap64 (x8_2 - x10_25))) = some r := by first | (rw [hy422]; with_reducible exact H) | (have H2_ := (Option.bind_some _ _).symm.trans H; rw [hy422]; with_reducible exact H2_) | (have H2_ := (Option.bind_some _ _).symm.trans H; with_reducible exact H2_) | with_reducible exact H | (rw [hy422]; exact H) | exact H
                     have Ny422 := Aside0.mk hy422
                     clear hy422
                     have H' := Aside0.mk H
                     clear H
                     have hcz40_0 : wc.cell? ⟨gb408, 0, none⟩ = some (.int .i64 ((rd_T70 x6_2 0).f0)) := (blk_cell BK408.out 0).trans rfl
                     have hcz40_1 : wc.cell? ⟨gb408, 1, none⟩ = some (.int .i64 ((rd_T70 x6_2 0).f1)) := (blk_cell BK408.out 1).trans rfl
                     have hcz40_2 : wc.cell? ⟨gb408, 2, none⟩ = some (.string ((rd_T70 x6_2 0).f2)) := (blk_cell BK408.out 2).trans rfl
                     have hfz40_0 := blk_frozen BK408.out 0
                     have hfz40_1 := blk_frozen BK408.out 1
                     have hfz40_2 := blk_frozen BK408.out 2
                     have p415 : 0 ≤ (x7_1 : Int) := of_decide_eq_true (by first | (with_reducible assumption) | assumption)
                     have q415 : x7_1 < (l1.length : Int) := of_decide_eq_true (by first | (with_reducible assumption) | assumption)
                     obtain ⟨ad415, e415, hx415_0, hx415_1, hx415_2⟩ := at_T70 HR1.out x7_1 p415 q415
                     obtain rfl : ad401 = ad415 := (by injection e415)
                     replace hx415_0 := (HB.out.cell (World.block_lt_of_cell? w _ hx415_0)).trans hx415_0
                     replace hx415_1 := (HB.out.cell (World.block_lt_of_cell? w _ hx415_1)).trans hx415_1
                     replace hx415_2 := (HB.out.cell (World.block_lt_of_cell? w _ hx415_2)).trans hx415_2
                     replace p415 := eq_true p415
                     replace q415 := eq_true q415
                     obtain ⟨Ao41, co41, eo41⟩ := Kd.R_slice HO_5.out
                     subst eo41
                     go_wp2_with (first | ((with_reducible refine gate_callee (f := 78) rfl ?_); refine goesL_ (some 73) rfl rfl Try.func78 (by kernel_rfl) rfl #[.slice Ao41 x5_2.length co41, .int .i64 ((rd_T70 l1 x7_1).f0), .int .i64 x10_25, .string (⟨#[]⟩ : ByteArray)] rfl (by (try simp only [List.map_toArray, List.map_cons, List.map_nil]); first | done | rfl | (simp only [List.length_drop, List.length_take]; rfl)) ?_; (with_reducible refine (galleyref13_add.calls kj25 (fun k_ => some k_ = (.slice Ao41 x5_2.length co41 : Value).ownBlock) (.slice Ao41 x5_2.length co41) x5_2 ((rd_T70 l1 x7_1).f0) x10_25 (⟨#[]⟩ : ByteArray) t416 w _ ?side1 ?side2 A34.out).mono ?_); (case side1 => repeat (first | (with_reducible first | exact HB.out | apply below_alloc | apply pw_below_drewN | apply below_drew1 | refine below_set ?_ GE408.out) | exact HB.out)); (case side2 => exact Kd.R_tight rfl HO_5.out); rintro e w42 ⟨v417, rfl, ho0, hb, hkp⟩; refine ⟨_, rfl, ?_⟩; have n0_ := Aside0.mk (Kd.Q_mono (ok' := fun k_ => k_ ≠ gb408 ∧ some k_ ≠ (v417 : Value).ownBlock) (Kd.Q_keptB (HO_6.out) hkp (fun k_ hk_ hs_ => (hk_.1) hs_)) (fun k_ hk_ => ⟨hk_.1.2, fun e_ => Or.elim (ho0.1 k_ e_.symm) (fun hs_ => hk_.2.1 hs_) (fun hn_ => Nat.not_le.2 hk_.2.2 hn_)⟩)); have n1_ := Aside0.mk (blk_kept (by (with_reducible repeat (first | refine blk_drewN ?_ _ | refine blk_drew ?_ | refine blk_alloc ?_ _)); exact BK408.out) hkp (fun hs_ => (fun e_ => (Kd.R_away HO_5.out (fun _ hk => hk.2)) e_) hs_)); have n2_ := Aside0.mk (Kd.R_mono (ok' := fun k_ => some k_ ≠ (.slice (some ad407) x6_2.length co27 : Value).ownBlock ∧ k_ ≠ gb408) ho0 (fun k_ hk_ => ⟨Or.elim hk_ (fun hs_ => fun e_ => (((HO_6.out).1 k_ e_.symm).1) hs_) (fun hn_ => (Kd.fresh' (Kd.Q_lt (by (with_reducible repeat (first | apply Kd.Q_alloc | apply Kd.Q_drewN | apply Kd.Q_drew)); exact HO_6.out)) k_ hn_)), Or.elim hk_ (fun hs_ => fun e_ => (Kd.R_away HO_5.out (fun _ hk => hk.2)) (by rw [← e_]; exact hs_)) (fun hn_ => (Kd.freshB (g := gb408) (o := .cells #[.int .i64 ((rd_T70 x6_2 0).f0), .int .i64 ((rd_T70 x6_2 0).f1), .string ((rd_T70 x6_2 0).f2)] 70 (0, 0)) (by (with_reducible repeat (first | refine blk_drewN ?_ _ | refine blk_drew ?_ | refine blk_alloc ?_ _)); exact BK408.out) k_ hn_))⟩)); have n3_ := Aside0.mk (hb); clear HO_6; clear BK408; clear HB; clear HO_5; have HO_6 := n0_; have BK408 := n1_; have HO418 := n2_; have HB := n3_; clear n0_ n1_ n2_ n3_; (try clear hb); (try clear hkp); (try clear ho0); have hcz43_0 : w42.cell? ⟨gb408, 0, none⟩ = some (.int .i64 ((rd_T70 x6_2 0).f0)) := (blk_cell BK408.out 0).trans rfl; have hcz43_1 : w42.cell? ⟨gb408, 1, none⟩ = some (.int .i64 ((rd_T70 x6_2 0).f1)) := (blk_cell BK408.out 1).trans rfl; have hcz43_2 : w42.cell? ⟨gb408, 2, none⟩ = some (.string ((rd_T70 x6_2 0).f2)) := (blk_cell BK408.out 2).trans rfl; have hfz43_0 := blk_frozen BK408.out 0; have hfz43_1 := blk_frozen BK408.out 1; have hfz43_2 := blk_frozen BK408.out 2; have p36 : 0 ≤ (0 : Int) := (by omega); have q36 : (0 : Int) < ((x6_2.length : Int) : Int) := of_decide_eq_true (by first | (with_reducible assumption) | assumption); have qi36 : (0 < x6_2.length) = True := eq_true (by omega); obtain ⟨go36, oo36, co36, eo36, gb36, gl36, cl36, HG36⟩ := Kd.Q_form HO_6.out (by omega); (first | cases eo36 | (injection eo36 with ea_ en_ ec_; (first | subst ea_ | (injection ea_ with ea_; subst ea_)); subst ec_; clear en_)); have GB36 := Aside0.mk gb36; have GG36 := Aside0.mk HG36; clear gb36 gl36 HG36; (first | simp only [add_at] at hx407_0 | skip); (first | simp only [add_at] at hx407_1 | skip); (first | simp only [add_at] at hx407_2 | skip); obtain ⟨ce36, hcl36, hM36, hcc36, hfr36⟩ := Kd.Q_elem HO_6.out z70 (0 : Int) p36 q36; obtain rfl := k70_openM hM36; have hx36_0 : w42.cell? ⟨go36, oo36 + (0 : Int).toNat * 3, none⟩ = some (.int .i64 ((rd_T70 x6_2 0).f0)) := hcc36 0 _ rfl; have hx36_1 : w42.cell? ⟨go36, oo36 + (0 : Int).toNat * 3 + 1, none⟩ = some (.int .i64 ((rd_T70 x6_2 0).f1)) := hcc36 1 _ rfl; have hx36_2 : w42.cell? ⟨go36, oo36 + (0 : Int).toNat * 3 + 2, none⟩ = some (.string ((rd_T70 x6_2 0).f2)) := hcc36 2 _ rfl; have hf36_0 : w42.frozen? ⟨go36, oo36 + (0 : Int).toNat * 3, none⟩ = false := hfr36 0; have hf36_1 : w42.frozen? ⟨go36, oo36 + (0 : Int).toNat * 3 + 1, none⟩ = false := hfr36 1; have hf36_2 : w42.frozen? ⟨go36, oo36 + (0 : Int).toNat * 3 + 2, none⟩ = false := hfr36 2; clear hcl36 hcc36 hfr36 hM36; (try rw [show ((0 : Int)).toNat = 0 from rfl] at hx36_0); (try simp only [Nat.reduceMul, Nat.zero_mul, Nat.zero_add, Nat.reduceAdd] at hx36_0); (try rw [show ((0 : Int)).toNat = 0 from rfl] at hf36_0); (try simp only [Nat.reduceMul, Nat.zero_mul, Nat.zero_add, Nat.reduceAdd] at hf36_0); (try rw [show ((0 : Int)).toNat = 0 from rfl] at hx36_1); (try simp only [Nat.reduceMul, Nat.zero_mul, Nat.zero_add, Nat.reduceAdd] at hx36_1); (try rw [show ((0 : Int)).toNat = 0 from rfl] at hf36_1); (try simp only [Nat.reduceMul, Nat.zero_mul, Nat.zero_add, Nat.reduceAdd] at hf36_1); (try rw [show ((0 : Int)).toNat = 0 from rfl] at hx36_2); (try simp only [Nat.reduceMul, Nat.zero_mul, Nat.zero_add, Nat.reduceAdd] at hx36_2); (try rw [show ((0 : Int)).toNat = 0 from rfl] at hf36_2); (try simp only [Nat.reduceMul, Nat.zero_mul, Nat.zero_add, Nat.reduceAdd] at hf36_2); replace p36 := eq_true p36; replace q36 := eq_true q36; have HX44 := Aside0.mk (show Kd.Q k70 70 w42 w.heap.size (fun k_ => some k_ ≠ (v417 : Value).ownBlock ∧ k_ ≠ gb408) (.slice (some ⟨go36, oo36, none⟩) x6_2.length co27) x6_2 from (by (with_reducible repeat (first | apply Kd.Q_alloc | apply Kd.Q_drewN | apply Kd.Q_drew)); exact Kd.Q_mono HO_6.out (fun _ hk => ⟨hk.2, hk.1⟩))); obtain ⟨ce44, hcl44, hM44, hcc44, hfr44⟩ := Kd.Q_elem HX44.out z70 (0 : Int) (by omega) (by have h_ : (0 : Int) < ((x6_2.length : Int) : Int) := of_decide_eq_true (by first | (with_reducible assumption) | assumption); first | exact h_ | (have e_ := (Kd.Q_reads' HO_6.out).1; omega) | simpa using h_); obtain rfl := k70_openM hM44; have HP44 := Kd.Q_seg HX44.out (0 : Int) (by omega) (by have h_ : (0 : Int) < ((x6_2.length : Int) : Int) := of_decide_eq_true (by first | (with_reducible assumption) | assumption); first | exact h_ | (have e_ := (Kd.Q_reads' HO_6.out).1; omega) | simpa using h_) (seg := [.int .i64 (wrap64 (((rd_T70 x6_2 0).f1) - x10_25))]) (j := 1) hcl44 hcc44 (show 2 ≤ 3 from by decide) (x' := (⟨(rd_T70 x6_2 0).f0, wrap64 (((rd_T70 x6_2 0).f1) - x10_25), (rd_T70 x6_2 0).f2⟩ : S70)) (k70_mkM _ _ _ (⟨(rd_T70 x6_2 0).f0, wrap64 (((rd_T70 x6_2 0).f1) - x10_25), (rd_T70 x6_2 0).f2⟩ : S70) ) (fun _ hk => hk); have hx44_1 := hcc44 1 _ rfl; (try simp only [show (k70).sz = 3 from rfl, Nat.mul_one, Nat.add_zero] at hx44_1); (try rw [show ((0 : Int)).toNat = 0 from rfl] at hx44_1); (try simp only [Nat.reduceMul, Nat.zero_mul, Nat.zero_add, Nat.reduceAdd] at hx44_1); have hf44_1 := hfr44 1; (try simp only [show (k70).sz = 3 from rfl, Nat.mul_one, Nat.add_zero] at hf44_1); (try rw [show ((0 : Int)).toNat = 0 from rfl] at hf44_1); (try simp only [Nat.reduceMul, Nat.zero_mul, Nat.zero_add, Nat.reduceAdd] at hf44_1); clear hcl44 hcc44 hfr44 hM44) | ((with_reducible refine gate_store (t := 3) (p := 80) rfl ?_); refine store_event (t := 3) (p := 80) (v := ?vo_w45) (w1 := (w42.setCell ⟨go36, oo36 + 1, none⟩ (.int .i64 (wrap64 (((rd_T70 x6_2 0).f1) - x10_25))))) ?hg ?ho ?hn ?hr ?_; (case ho => rfl); (case hg => rfl); (case hn => rfl); (case hr => first | (go_simp; done) | (go_simp; rfl)); intro w45 hw; have hg : w42.grownBy w45 (some go36) := (by rw [hw]; exact HP44.2); have hp_ : Kd.Q k70 70 w45 w.heap.size (fun k_ => some k_ ≠ (v417 : Value).ownBlock ∧ k_ ≠ gb408) (.slice (some ⟨go36, oo36, none⟩) x6_2.length co27) y419 := (by rw [hw, Ny419.out]; exact HP44.1); clear HP44; have n0_ := Aside0.mk (hp_); have n1_ := Aside0.mk (blk_grown (g := gb408) (o := .cells #[.int .i64 ((rd_T70 x6_2 0).f0), .int .i64 ((rd_T70 x6_2 0).f1), .string ((rd_T70 x6_2 0).f2)] 70 (0, 0)) (by (with_reducible repeat (first | refine blk_drewN ?_ _ | refine blk_drew ?_ | refine blk_alloc ?_ _)); exact BK408.out) hg (Kd.Q_away HO_6.out (fun _ hk => hk.1))); have n2_ := Aside0.mk (Kd.R_after (v := (.slice (some ⟨go36, oo36, none⟩) x6_2.length co27)) (v1 := (.slice (some ⟨go36, oo36, none⟩) x6_2.length co27)) (ok := (fun k_ => k_ ≠ gb408)) (by (with_reducible repeat (first | apply Kd.R_alloc | apply Kd.R_drewN | apply Kd.R_drew)); exact Kd.R_mono HO418.out (fun _ hk => ⟨hk.2, hk.1⟩)) hg (.inl rfl)); have n3_ := Aside0.mk ((by rw [hw]; exact below_set (HB.out) GB36.out : Below w.heap.size w w45)); clear HO_6; clear BK408; clear HO418; clear HB; have HO_6 := n0_; have BK408 := n1_; have HO418 := n2_; have HB := n3_; clear n0_ n1_ n2_ n3_; clear hg hw hp_; have p420 : 0 ≤ (0 : Int) := (by omega); have q420 : 0 < (y419.length : Int) := (by have h_ : (0 : Int) < ((x6_2.length : Int) : Int) := of_decide_eq_true (by first | (with_reducible assumption) | assumption); first | (have e_ := (Kd.Q_reads' HO_6.out).1; omega) | simpa only [Ny419.out, List.length_set] using h_); have ql420 : ((0 : Int) < ((x6_2.length : Int) : Int)) = True := eq_true (of_decide_eq_true (by first | (with_reducible assumption) | assumption)); (try have qn420 : (0 < x6_2.length) = True := eq_true (by have h_ : (0 : Int) < ((x6_2.length : Int) : Int) := of_decide_eq_true (by first | (with_reducible assumption) | assumption); omega)); obtain ⟨ad420, e420, hx420_0, hx420_1, hx420_2⟩ := at_T70 (Kd.Q_reads' HO_6.out).2.2 0 p420 q420; obtain rfl : (⟨go36, oo36, none⟩ : Addr) = ad420 := (by injection e420); (first | simp only [add_plain] at hx420_0 | simp only [add_at] at hx420_0 | simp only [Addr.add, Nat.zero_add] at hx420_0 | skip); (first | simp only [add_plain] at hx420_1 | simp only [add_at] at hx420_1 | simp only [Addr.add, Nat.zero_add] at hx420_1 | skip); (first | simp only [add_plain] at hx420_2 | simp only [add_at] at hx420_2 | simp only [Addr.add, Nat.zero_add] at hx420_2 | skip); have qi420 : (0 < y419.length) = True := eq_true (by omega); (try rw [show ((0 : Int)).toNat = 0 from rfl] at hx420_0); (try rw [show 0 * 3 = 0 from rfl] at hx420_0); (try rw [Addr.add_zero'] at hx420_0); (try rw [show ((0 : Int)).toNat = 0 from rfl] at hx420_1); (try rw [show 0 * 3 = 0 from rfl] at hx420_1); (try rw [Addr.add_zero'] at hx420_1); (try rw [show ((0 : Int)).toNat = 0 from rfl] at hx420_2); (try rw [show 0 * 3 = 0 from rfl] at hx420_2); (try rw [Addr.add_zero'] at hx420_2); replace p420 := eq_true p420; replace q420 := eq_true q420; have p421 : 0 ≤ (0 : Int) := (by omega); have q421 : 0 < (y419.length : Int) := (by have h_ : (0 : Int) < ((x6_2.length : Int) : Int) := of_decide_eq_true (by first | (with_reducible assumption) | assumption); first | (have e_ := (Kd.Q_reads' HO_6.out).1; omega) | simpa only [Ny419.out, List.length_set] using h_); have ql421 : ((0 : Int) < ((x6_2.length : Int) : Int)) = True := eq_true (of_decide_eq_true (by first | (with_reducible assumption) | assumption)); (try have qn421 : (0 < x6_2.length) = True := eq_true (by have h_ : (0 : Int) < ((x6_2.length : Int) : Int) := of_decide_eq_true (by first | (with_reducible assumption) | assumption); omega)); obtain ⟨ad421, e421, hx421_0, hx421_1, hx421_2⟩ := at_T70 (Kd.Q_reads' HO_6.out).2.2 0 p421 q421; obtain rfl : (⟨go36, oo36, none⟩ : Addr) = ad421 := (by injection e421); (first | simp only [add_plain] at hx421_0 | simp only [add_at] at hx421_0 | simp only [Addr.add, Nat.zero_add] at hx421_0 | skip); (first | simp only [add_plain] at hx421_1 | simp only [add_at] at hx421_1 | simp only [Addr.add, Nat.zero_add] at hx421_1 | skip); (first | simp only [add_plain] at hx421_2 | simp only [add_at] at hx421_2 | simp only [Addr.add, Nat.zero_add] at hx421_2 | skip); have qi421 : (0 < y419.length) = True := eq_true (by omega); (try rw [show ((0 : Int)).toNat = 0 from rfl] at hx421_0); (try rw [show 0 * 3 = 0 from rfl] at hx421_0); (try rw [Addr.add_zero'] at hx421_0); (try rw [show ((0 : Int)).toNat = 0 from rfl] at hx421_1); (try rw [show 0 * 3 = 0 from rfl] at hx421_1); (try rw [Addr.add_zero'] at hx421_1); (try rw [show ((0 : Int)).toNat = 0 from rfl] at hx421_2); (try rw [show 0 * 3 = 0 from rfl] at hx421_2); (try rw [Addr.add_zero'] at hx421_2); replace p421 := eq_true p421; replace q421 := eq_true q421; have q46 : (1 : Int) ≤ ((x6_2.length : Int) : Int) := of_decide_eq_true (by first | (with_reducible assumption) | assumption); obtain ⟨i046, hi046, _, hsz46, _⟩ := info_parts info70; have hcut46 := cut_from (P := Try.prog) 25 70 .i64 Try.underlying25 hi046 3 hsz46 (some ⟨go36, oo36, none⟩) x6_2.length co27 1 (by omega) q46; have hr46 := Kd.Q_drop (k := (1 : Int).toNat) HO_6.out (by have := HYL419.out; omega); obtain ⟨A46, hA46⟩ : ∃ A1, A1 = (if co27 = (1 : Int).toNat then (some ⟨go36, oo36, none⟩) else ((some ⟨go36, oo36, none⟩) : Option Addr).map (·.add ((1 : Int).toNat * 3))) := ⟨_, rfl⟩; obtain ⟨c46, hc46⟩ : ∃ c1, c1 = co27 - (1 : Int).toNat := ⟨_, rfl⟩; have hy46 : y422.length = x6_2.length - (1 : Int).toNat := (by rw [Ny422.out, List.length_drop, HYL419.out]); rw [← Ny422.out] at hr46; rw [← hy46, ← hA46, ← hc46] at hcut46; replace hr46 : Kd.Q k70 70 w45 w.heap.size (fun k_ => some k_ ≠ (v417 : Value).ownBlock ∧ k_ ≠ gb408) (.slice A46 y422.length c46) y422 := (by rw [hA46, hc46, hy46]; first | exact hr46 | exact Kd.Q_mono hr46 (fun _ h_ => ⟨h_.2, h_.1⟩)); have HE46 : Aside0 ((Value.slice A46 y422.length c46).ownBlock = (.slice (some ⟨go36, oo36, none⟩) x6_2.length co27 : Value).ownBlock) := ⟨by rw [hA46]; split <;> (cases ((some ⟨go36, oo36, none⟩) : Option Addr) <;> rfl)⟩; clear hy46 hi046 hsz46 HO_6 hA46 hc46; have HO424 := Aside0.mk hr46; clear hr46; replace q46 := eq_true q46; have n_ := Aside0.mk (Kd.R_mono (ok' := fun k_ => (k_ ≠ gb408 ∧ some k_ ≠ (.slice A46 y422.length c46 : Value).ownBlock)) HO418.out (fun k_ hk => ⟨hk.1, (by rw [HE46.out]; exact hk.2)⟩)); clear HO418; have HO418 := n_; clear n_))
                     go_roundg kj25
                     case measure => have := HK1.out; have := HK2.out; have := HJ25.out; omega
                     case rel => exact ⟨(t416), (y422), (wrap64 (x8_2 - x10_25)), (by first | rfl | (simp; done) | (simp [*]; done) | (simp; exact isEmpty_bne _)), H', ⟨by have := HK1.out; have := HK2.out; have := HJ25.out; omega⟩, ⟨by (with_reducible repeat (first | apply Kd.R_alloc | apply Kd.R_drewN | apply Kd.R_drew)); exact Kd.R_mono HO418.out (fun _ hk => hk.2)⟩, ⟨by (with_reducible repeat (first | apply Kd.Q_alloc | apply Kd.Q_drewN | apply Kd.Q_drew)); exact Kd.Q_mono HO424.out (fun _ hk => hk.1)⟩, ⟨by repeat (first | (with_reducible first | exact HB.out | apply below_alloc | apply pw_below_drewN | apply below_drew1 | refine below_set ?_ GE408.out) | exact HB.out)⟩⟩
                    ·
                     rw [if_neg c39] at H
                     exact absurd H (by simp)
                   ·
                    rw [if_neg c38] at H
                    have c38b0 : (((rd_T70 y419 0).f2).toList == ([] : List UInt8)) = false := beq_eq_false_iff_ne.mpr c38
                    have c38b1 : (((rd_T70 y419 0).f2).toList != ([] : List UInt8)) = true := bne_iff_ne.mpr c38
                    have H' := Aside0.mk H
                    clear H
                    have hcz47_0 : wc.cell? ⟨gb408, 0, none⟩ = some (.int .i64 ((rd_T70 x6_2 0).f0)) := (blk_cell BK408.out 0).trans rfl
                    have hcz47_1 : wc.cell? ⟨gb408, 1, none⟩ = some (.int .i64 ((rd_T70 x6_2 0).f1)) := (blk_cell BK408.out 1).trans rfl
                    have hcz47_2 : wc.cell? ⟨gb408, 2, none⟩ = some (.string ((rd_T70 x6_2 0).f2)) := (blk_cell BK408.out 2).trans rfl
                    have hfz47_0 := blk_frozen BK408.out 0
                    have hfz47_1 := blk_frozen BK408.out 1
                    have hfz47_2 := blk_frozen BK408.out 2
                    have p415 : 0 ≤ (x7_1 : Int) := of_decide_eq_true (by first | (with_reducible assumption) | assumption)
                    have q415 : x7_1 < (l1.length : Int) := of_decide_eq_true (by first | (with_reducible assumption) | assumption)
                    obtain ⟨ad415, e415, hx415_0, hx415_1, hx415_2⟩ := at_T70 HR1.out x7_1 p415 q415
                    obtain rfl : ad401 = ad415 := (by injection e415)
                    replace hx415_0 := (HB.out.cell (World.block_lt_of_cell? w _ hx415_0)).trans hx415_0
                    replace hx415_1 := (HB.out.cell (World.block_lt_of_cell? w _ hx415_1)).trans hx415_1
                    replace hx415_2 := (HB.out.cell (World.block_lt_of_cell? w _ hx415_2)).trans hx415_2
                    replace p415 := eq_true p415
                    replace q415 := eq_true q415
                    obtain ⟨Ao48, co48, eo48⟩ := Kd.R_slice HO_5.out
                    subst eo48
                    go_wp2_with (first | ((with_reducible refine gate_callee (f := 78) rfl ?_); refine goesL_ (some 73) rfl rfl Try.func78 (by kernel_rfl) rfl #[.slice Ao48 x5_2.length co48, .int .i64 ((rd_T70 l1 x7_1).f0), .int .i64 x10_25, .string (⟨#[]⟩ : ByteArray)] rfl (by (try simp only [List.map_toArray, List.map_cons, List.map_nil]); first | done | rfl | (simp only [List.length_drop, List.length_take]; rfl)) ?_; (with_reducible refine (galleyref13_add.calls kj25 (fun k_ => some k_ = (.slice Ao48 x5_2.length co48 : Value).ownBlock) (.slice Ao48 x5_2.length co48) x5_2 ((rd_T70 l1 x7_1).f0) x10_25 (⟨#[]⟩ : ByteArray) t416 w _ ?side1 ?side2 A34.out).mono ?_); (case side1 => repeat (first | (with_reducible first | exact HB.out | apply below_alloc | apply pw_below_drewN | apply below_drew1 | refine below_set ?_ GE408.out) | exact HB.out)); (case side2 => exact Kd.R_tight rfl HO_5.out); rintro e w49 ⟨v417, rfl, ho0, hb, hkp⟩; refine ⟨_, rfl, ?_⟩; have n0_ := Aside0.mk (Kd.Q_mono (ok' := fun k_ => k_ ≠ gb408 ∧ some k_ ≠ (v417 : Value).ownBlock) (Kd.Q_keptB (HO_6.out) hkp (fun k_ hk_ hs_ => (hk_.1) hs_)) (fun k_ hk_ => ⟨hk_.1.2, fun e_ => Or.elim (ho0.1 k_ e_.symm) (fun hs_ => hk_.2.1 hs_) (fun hn_ => Nat.not_le.2 hk_.2.2 hn_)⟩)); have n1_ := Aside0.mk (blk_kept (by (with_reducible repeat (first | refine blk_drewN ?_ _ | refine blk_drew ?_ | refine blk_alloc ?_ _)); exact BK408.out) hkp (fun hs_ => (fun e_ => (Kd.R_away HO_5.out (fun _ hk => hk.2)) e_) hs_)); have n2_ := Aside0.mk (Kd.R_mono (ok' := fun k_ => some k_ ≠ (.slice (some ad407) x6_2.length co27 : Value).ownBlock ∧ k_ ≠ gb408) ho0 (fun k_ hk_ => ⟨Or.elim hk_ (fun hs_ => fun e_ => (((HO_6.out).1 k_ e_.symm).1) hs_) (fun hn_ => (Kd.fresh' (Kd.Q_lt (by (with_reducible repeat (first | apply Kd.Q_alloc | apply Kd.Q_drewN | apply Kd.Q_drew)); exact HO_6.out)) k_ hn_)), Or.elim hk_ (fun hs_ => fun e_ => (Kd.R_away HO_5.out (fun _ hk => hk.2)) (by rw [← e_]; exact hs_)) (fun hn_ => (Kd.freshB (g := gb408) (o := .cells #[.int .i64 ((rd_T70 x6_2 0).f0), .int .i64 ((rd_T70 x6_2 0).f1), .string ((rd_T70 x6_2 0).f2)] 70 (0, 0)) (by (with_reducible repeat (first | refine blk_drewN ?_ _ | refine blk_drew ?_ | refine blk_alloc ?_ _)); exact BK408.out) k_ hn_))⟩)); have n3_ := Aside0.mk (hb); clear HO_6; clear BK408; clear HB; clear HO_5; have HO_6 := n0_; have BK408 := n1_; have HO418 := n2_; have HB := n3_; clear n0_ n1_ n2_ n3_; (try clear hb); (try clear hkp); (try clear ho0); have hcz50_0 : w49.cell? ⟨gb408, 0, none⟩ = some (.int .i64 ((rd_T70 x6_2 0).f0)) := (blk_cell BK408.out 0).trans rfl; have hcz50_1 : w49.cell? ⟨gb408, 1, none⟩ = some (.int .i64 ((rd_T70 x6_2 0).f1)) := (blk_cell BK408.out 1).trans rfl; have hcz50_2 : w49.cell? ⟨gb408, 2, none⟩ = some (.string ((rd_T70 x6_2 0).f2)) := (blk_cell BK408.out 2).trans rfl; have hfz50_0 := blk_frozen BK408.out 0; have hfz50_1 := blk_frozen BK408.out 1; have hfz50_2 := blk_frozen BK408.out 2; have p36 : 0 ≤ (0 : Int) := (by omega); have q36 : (0 : Int) < ((x6_2.length : Int) : Int) := of_decide_eq_true (by first | (with_reducible assumption) | assumption); have qi36 : (0 < x6_2.length) = True := eq_true (by omega); obtain ⟨go36, oo36, co36, eo36, gb36, gl36, cl36, HG36⟩ := Kd.Q_form HO_6.out (by omega); (first | cases eo36 | (injection eo36 with ea_ en_ ec_; (first | subst ea_ | (injection ea_ with ea_; subst ea_)); subst ec_; clear en_)); have GB36 := Aside0.mk gb36; have GG36 := Aside0.mk HG36; clear gb36 gl36 HG36; obtain ⟨ce36, hcl36, hM36, hcc36, hfr36⟩ := Kd.Q_elem HO_6.out z70 (0 : Int) p36 q36; obtain rfl := k70_openM hM36; have hx36_0 : w49.cell? ⟨go36, oo36 + (0 : Int).toNat * 3, none⟩ = some (.int .i64 ((rd_T70 x6_2 0).f0)) := hcc36 0 _ rfl; have hx36_1 : w49.cell? ⟨go36, oo36 + (0 : Int).toNat * 3 + 1, none⟩ = some (.int .i64 ((rd_T70 x6_2 0).f1)) := hcc36 1 _ rfl; have hx36_2 : w49.cell? ⟨go36, oo36 + (0 : Int).toNat * 3 + 2, none⟩ = some (.string ((rd_T70 x6_2 0).f2)) := hcc36 2 _ rfl; have hf36_0 : w49.frozen? ⟨go36, oo36 + (0 : Int).toNat * 3, none⟩ = false := hfr36 0; have hf36_1 : w49.frozen? ⟨go36, oo36 + (0 : Int).toNat * 3 + 1, none⟩ = false := hfr36 1; have hf36_2 : w49.frozen? ⟨go36, oo36 + (0 : Int).toNat * 3 + 2, none⟩ = false := hfr36 2; clear hcl36 hcc36 hfr36 hM36; (try rw [show ((0 : Int)).toNat = 0 from rfl] at hx36_0); (try simp only [Nat.reduceMul, Nat.zero_mul, Nat.zero_add, Nat.reduceAdd] at hx36_0); (try rw [show ((0 : Int)).toNat = 0 from rfl] at hf36_0); (try simp only [Nat.reduceMul, Nat.zero_mul, Nat.zero_add, Nat.reduceAdd] at hf36_0); (try rw [show ((0 : Int)).toNat = 0 from rfl] at hx36_1); (try simp only [Nat.reduceMul, Nat.zero_mul, Nat.zero_add, Nat.reduceAdd] at hx36_1); (try rw [show ((0 : Int)).toNat = 0 from rfl] at hf36_1); (try simp only [Nat.reduceMul, Nat.zero_mul, Nat.zero_add, Nat.reduceAdd] at hf36_1); (try rw [show ((0 : Int)).toNat = 0 from rfl] at hx36_2); (try simp only [Nat.reduceMul, Nat.zero_mul, Nat.zero_add, Nat.reduceAdd] at hx36_2); (try rw [show ((0 : Int)).toNat = 0 from rfl] at hf36_2); (try simp only [Nat.reduceMul, Nat.zero_mul, Nat.zero_add, Nat.reduceAdd] at hf36_2); replace p36 := eq_true p36; replace q36 := eq_true q36; have HX51 := Aside0.mk (show Kd.Q k70 70 w49 w.heap.size (fun k_ => some k_ ≠ (v417 : Value).ownBlock ∧ k_ ≠ gb408) (.slice (some ⟨go36, oo36, none⟩) x6_2.length co27) x6_2 from (by (with_reducible repeat (first | apply Kd.Q_alloc | apply Kd.Q_drewN | apply Kd.Q_drew)); exact Kd.Q_mono HO_6.out (fun _ hk => ⟨hk.2, hk.1⟩))); obtain ⟨ce51, hcl51, hM51, hcc51, hfr51⟩ := Kd.Q_elem HX51.out z70 (0 : Int) (by omega) (by have h_ : (0 : Int) < ((x6_2.length : Int) : Int) := of_decide_eq_true (by first | (with_reducible assumption) | assumption); first | exact h_ | (have e_ := (Kd.Q_reads' HO_6.out).1; omega) | simpa using h_); obtain rfl := k70_openM hM51; have HP51 := Kd.Q_seg HX51.out (0 : Int) (by omega) (by have h_ : (0 : Int) < ((x6_2.length : Int) : Int) := of_decide_eq_true (by first | (with_reducible assumption) | assumption); first | exact h_ | (have e_ := (Kd.Q_reads' HO_6.out).1; omega) | simpa using h_) (seg := [.int .i64 (wrap64 (((rd_T70 x6_2 0).f1) - x10_25))]) (j := 1) hcl51 hcc51 (show 2 ≤ 3 from by decide) (x' := (⟨(rd_T70 x6_2 0).f0, wrap64 (((rd_T70 x6_2 0).f1) - x10_25), (rd_T70 x6_2 0).f2⟩ : S70)) (k70_mkM _ _ _ (⟨(rd_T70 x6_2 0).f0, wrap64 (((rd_T70 x6_2 0).f1) - x10_25), (rd_T70 x6_2 0).f2⟩ : S70) ) (fun _ hk => hk); have hx51_1 := hcc51 1 _ rfl; (try simp only [show (k70).sz = 3 from rfl, Nat.mul_one, Nat.add_zero] at hx51_1); (try rw [show ((0 : Int)).toNat = 0 from rfl] at hx51_1); (try simp only [Nat.reduceMul, Nat.zero_mul, Nat.zero_add, Nat.reduceAdd] at hx51_1); have hf51_1 := hfr51 1; (try simp only [show (k70).sz = 3 from rfl, Nat.mul_one, Nat.add_zero] at hf51_1); (try rw [show ((0 : Int)).toNat = 0 from rfl] at hf51_1); (try simp only [Nat.reduceMul, Nat.zero_mul, Nat.zero_add, Nat.reduceAdd] at hf51_1); clear hcl51 hcc51 hfr51 hM51) | ((with_reducible refine gate_store (t := 3) (p := 80) rfl ?_); refine store_event (t := 3) (p := 80) (v := ?vo_w52) (w1 := (w49.setCell ⟨go36, oo36 + 1, none⟩ (.int .i64 (wrap64 (((rd_T70 x6_2 0).f1) - x10_25))))) ?hg ?ho ?hn ?hr ?_; (case ho => rfl); (case hg => rfl); (case hn => rfl); (case hr => first | (go_simp; done) | (go_simp; rfl)); intro w52 hw; have hg : w49.grownBy w52 (some go36) := (by rw [hw]; exact HP51.2); have hp_ : Kd.Q k70 70 w52 w.heap.size (fun k_ => some k_ ≠ (v417 : Value).ownBlock ∧ k_ ≠ gb408) (.slice (some ⟨go36, oo36, none⟩) x6_2.length co27) y419 := (by rw [hw, Ny419.out]; exact HP51.1); clear HP51; have n0_ := Aside0.mk (hp_); have n1_ := Aside0.mk (blk_grown (g := gb408) (o := .cells #[.int .i64 ((rd_T70 x6_2 0).f0), .int .i64 ((rd_T70 x6_2 0).f1), .string ((rd_T70 x6_2 0).f2)] 70 (0, 0)) (by (with_reducible repeat (first | refine blk_drewN ?_ _ | refine blk_drew ?_ | refine blk_alloc ?_ _)); exact BK408.out) hg (Kd.Q_away HO_6.out (fun _ hk => hk.1))); have n2_ := Aside0.mk (Kd.R_after (v := (.slice (some ⟨go36, oo36, none⟩) x6_2.length co27)) (v1 := (.slice (some ⟨go36, oo36, none⟩) x6_2.length co27)) (ok := (fun k_ => k_ ≠ gb408)) (by (with_reducible repeat (first | apply Kd.R_alloc | apply Kd.R_drewN | apply Kd.R_drew)); exact Kd.R_mono HO418.out (fun _ hk => ⟨hk.2, hk.1⟩)) hg (.inl rfl)); have n3_ := Aside0.mk ((by rw [hw]; exact below_set (HB.out) GB36.out : Below w.heap.size w w52)); clear HO_6; clear BK408; clear HO418; clear HB; have HO_6 := n0_; have BK408 := n1_; have HO418 := n2_; have HB := n3_; clear n0_ n1_ n2_ n3_; clear hg hw hp_; have p420 : 0 ≤ (0 : Int) := (by omega); have q420 : 0 < (y419.length : Int) := (by have h_ : (0 : Int) < ((x6_2.length : Int) : Int) := of_decide_eq_true (by first | (with_reducible assumption) | assumption); first | (have e_ := (Kd.Q_reads' HO_6.out).1; omega) | simpa only [Ny419.out, List.length_set] using h_); have ql420 : ((0 : Int) < ((x6_2.length : Int) : Int)) = True := eq_true (of_decide_eq_true (by first | (with_reducible assumption) | assumption)); (try have qn420 : (0 < x6_2.length) = True := eq_true (by have h_ : (0 : Int) < ((x6_2.length : Int) : Int) := of_decide_eq_true (by first | (with_reducible assumption) | assumption); omega)); obtain ⟨ad420, e420, hx420_0, hx420_1, hx420_2⟩ := at_T70 (Kd.Q_reads' HO_6.out).2.2 0 p420 q420; obtain rfl : (⟨go36, oo36, none⟩ : Addr) = ad420 := (by injection e420); (first | simp only [add_plain] at hx420_0 | simp only [add_at] at hx420_0 | simp only [Addr.add, Nat.zero_add] at hx420_0 | skip); (first | simp only [add_plain] at hx420_1 | simp only [add_at] at hx420_1 | simp only [Addr.add, Nat.zero_add] at hx420_1 | skip); (first | simp only [add_plain] at hx420_2 | simp only [add_at] at hx420_2 | simp only [Addr.add, Nat.zero_add] at hx420_2 | skip); have qi420 : (0 < y419.length) = True := eq_true (by omega); (try rw [show ((0 : Int)).toNat = 0 from rfl] at hx420_0); (try rw [show 0 * 3 = 0 from rfl] at hx420_0); (try rw [Addr.add_zero'] at hx420_0); (try rw [show ((0 : Int)).toNat = 0 from rfl] at hx420_1); (try rw [show 0 * 3 = 0 from rfl] at hx420_1); (try rw [Addr.add_zero'] at hx420_1); (try rw [show ((0 : Int)).toNat = 0 from rfl] at hx420_2); (try rw [show 0 * 3 = 0 from rfl] at hx420_2); (try rw [Addr.add_zero'] at hx420_2); replace p420 := eq_true p420; replace q420 := eq_true q420; have p421 : 0 ≤ (0 : Int) := (by omega); have q421 : 0 < (y419.length : Int) := (by have h_ : (0 : Int) < ((x6_2.length : Int) : Int) := of_decide_eq_true (by first | (with_reducible assumption) | assumption); first | (have e_ := (Kd.Q_reads' HO_6.out).1; omega) | simpa only [Ny419.out, List.length_set] using h_); have ql421 : ((0 : Int) < ((x6_2.length : Int) : Int)) = True := eq_true (of_decide_eq_true (by first | (with_reducible assumption) | assumption)); (try have qn421 : (0 < x6_2.length) = True := eq_true (by have h_ : (0 : Int) < ((x6_2.length : Int) : Int) := of_decide_eq_true (by first | (with_reducible assumption) | assumption); omega)); obtain ⟨ad421, e421, hx421_0, hx421_1, hx421_2⟩ := at_T70 (Kd.Q_reads' HO_6.out).2.2 0 p421 q421; obtain rfl : (⟨go36, oo36, none⟩ : Addr) = ad421 := (by injection e421); (first | simp only [add_plain] at hx421_0 | simp only [add_at] at hx421_0 | simp only [Addr.add, Nat.zero_add] at hx421_0 | skip); (first | simp only [add_plain] at hx421_1 | simp only [add_at] at hx421_1 | simp only [Addr.add, Nat.zero_add] at hx421_1 | skip); (first | simp only [add_plain] at hx421_2 | simp only [add_at] at hx421_2 | simp only [Addr.add, Nat.zero_add] at hx421_2 | skip); have qi421 : (0 < y419.length) = True := eq_true (by omega); (try rw [show ((0 : Int)).toNat = 0 from rfl] at hx421_0); (try rw [show 0 * 3 = 0 from rfl] at hx421_0); (try rw [Addr.add_zero'] at hx421_0); (try rw [show ((0 : Int)).toNat = 0 from rfl] at hx421_1); (try rw [show 0 * 3 = 0 from rfl] at hx421_1); (try rw [Addr.add_zero'] at hx421_1); (try rw [show ((0 : Int)).toNat = 0 from rfl] at hx421_2); (try rw [show 0 * 3 = 0 from rfl] at hx421_2); (try rw [Addr.add_zero'] at hx421_2); replace p421 := eq_true p421; replace q421 := eq_true q421))
                    go_roundg kj25
                    case measure => have := HK1.out; have := HK2.out; have := HJ25.out; omega
                    case rel => exact ⟨(t416), (y419), (wrap64 (x8_2 - x10_25)), (by first | rfl | (simp; done) | (simp [*]; done) | (simp; exact isEmpty_bne _)), H', ⟨by have := HK1.out; have := HK2.out; have := HJ25.out; omega⟩, ⟨by (with_reducible repeat (first | apply Kd.R_alloc | apply Kd.R_drewN | apply Kd.R_drew)); exact Kd.R_mono HO418.out (fun _ hk => hk.2)⟩, ⟨by (with_reducible repeat (first | apply Kd.Q_alloc | apply Kd.Q_drewN | apply Kd.Q_drew)); exact Kd.Q_mono HO_6.out (fun _ hk => hk.1)⟩, ⟨by repeat (first | (with_reducible first | exact HB.out | apply below_alloc | apply pw_below_drewN | apply below_drew1 | refine below_set ?_ GE408.out) | exact HB.out)⟩⟩
                  ·
                   rw [if_neg c37] at H
                   have c37b0 : (((rd_T70 y419 0).f1) == 0) = false := beq_eq_false_iff_ne.mpr c37
                   have c37b1 : (((rd_T70 y419 0).f1) != 0) = true := bne_iff_ne.mpr c37
                   have H' := Aside0.mk H
                   clear H
                   have hcz53_0 : wc.cell? ⟨gb408, 0, none⟩ = some (.int .i64 ((rd_T70 x6_2 0).f0)) := (blk_cell BK408.out 0).trans rfl
                   have hcz53_1 : wc.cell? ⟨gb408, 1, none⟩ = some (.int .i64 ((rd_T70 x6_2 0).f1)) := (blk_cell BK408.out 1).trans rfl
                   have hcz53_2 : wc.cell? ⟨gb408, 2, none⟩ = some (.string ((rd_T70 x6_2 0).f2)) := (blk_cell BK408.out 2).trans rfl
                   have hfz53_0 := blk_frozen BK408.out 0
                   have hfz53_1 := blk_frozen BK408.out 1
                   have hfz53_2 := blk_frozen BK408.out 2
                   have p415 : 0 ≤ (x7_1 : Int) := of_decide_eq_true (by first | (with_reducible assumption) | assumption)
                   have q415 : x7_1 < (l1.length : Int) := of_decide_eq_true (by first | (with_reducible assumption) | assumption)
                   obtain ⟨ad415, e415, hx415_0, hx415_1, hx415_2⟩ := at_T70 HR1.out x7_1 p415 q415
                   obtain rfl : ad401 = ad415 := (by injection e415)
                   replace hx415_0 := (HB.out.cell (World.block_lt_of_cell? w _ hx415_0)).trans hx415_0
                   replace hx415_1 := (HB.out.cell (World.block_lt_of_cell? w _ hx415_1)).trans hx415_1
                   replace hx415_2 := (HB.out.cell (World.block_lt_of_cell? w _ hx415_2)).trans hx415_2
                   replace p415 := eq_true p415
                   replace q415 := eq_true q415
                   obtain ⟨Ao54, co54, eo54⟩ := Kd.R_slice HO_5.out
                   subst eo54
                   go_wp2_with (first | ((with_reducible refine gate_callee (f := 78) rfl ?_); refine goesL_ (some 73) rfl rfl Try.func78 (by kernel_rfl) rfl #[.slice Ao54 x5_2.length co54, .int .i64 ((rd_T70 l1 x7_1).f0), .int .i64 x10_25, .string (⟨#[]⟩ : ByteArray)] rfl (by (try simp only [List.map_toArray, List.map_cons, List.map_nil]); first | done | rfl | (simp only [List.length_drop, List.length_take]; rfl)) ?_; (with_reducible refine (galleyref13_add.calls kj25 (fun k_ => some k_ = (.slice Ao54 x5_2.length co54 : Value).ownBlock) (.slice Ao54 x5_2.length co54) x5_2 ((rd_T70 l1 x7_1).f0) x10_25 (⟨#[]⟩ : ByteArray) t416 w _ ?side1 ?side2 A34.out).mono ?_); (case side1 => repeat (first | (with_reducible first | exact HB.out | apply below_alloc | apply pw_below_drewN | apply below_drew1 | refine below_set ?_ GE408.out) | exact HB.out)); (case side2 => exact Kd.R_tight rfl HO_5.out); rintro e w55 ⟨v417, rfl, ho0, hb, hkp⟩; refine ⟨_, rfl, ?_⟩; have n0_ := Aside0.mk (Kd.Q_mono (ok' := fun k_ => k_ ≠ gb408 ∧ some k_ ≠ (v417 : Value).ownBlock) (Kd.Q_keptB (HO_6.out) hkp (fun k_ hk_ hs_ => (hk_.1) hs_)) (fun k_ hk_ => ⟨hk_.1.2, fun e_ => Or.elim (ho0.1 k_ e_.symm) (fun hs_ => hk_.2.1 hs_) (fun hn_ => Nat.not_le.2 hk_.2.2 hn_)⟩)); have n1_ := Aside0.mk (blk_kept (by (with_reducible repeat (first | refine blk_drewN ?_ _ | refine blk_drew ?_ | refine blk_alloc ?_ _)); exact BK408.out) hkp (fun hs_ => (fun e_ => (Kd.R_away HO_5.out (fun _ hk => hk.2)) e_) hs_)); have n2_ := Aside0.mk (Kd.R_mono (ok' := fun k_ => some k_ ≠ (.slice (some ad407) x6_2.length co27 : Value).ownBlock ∧ k_ ≠ gb408) ho0 (fun k_ hk_ => ⟨Or.elim hk_ (fun hs_ => fun e_ => (((HO_6.out).1 k_ e_.symm).1) hs_) (fun hn_ => (Kd.fresh' (Kd.Q_lt (by (with_reducible repeat (first | apply Kd.Q_alloc | apply Kd.Q_drewN | apply Kd.Q_drew)); exact HO_6.out)) k_ hn_)), Or.elim hk_ (fun hs_ => fun e_ => (Kd.R_away HO_5.out (fun _ hk => hk.2)) (by rw [← e_]; exact hs_)) (fun hn_ => (Kd.freshB (g := gb408) (o := .cells #[.int .i64 ((rd_T70 x6_2 0).f0), .int .i64 ((rd_T70 x6_2 0).f1), .string ((rd_T70 x6_2 0).f2)] 70 (0, 0)) (by (with_reducible repeat (first | refine blk_drewN ?_ _ | refine blk_drew ?_ | refine blk_alloc ?_ _)); exact BK408.out) k_ hn_))⟩)); have n3_ := Aside0.mk (hb); clear HO_6; clear BK408; clear HB; clear HO_5; have HO_6 := n0_; have BK408 := n1_; have HO418 := n2_; have HB := n3_; clear n0_ n1_ n2_ n3_; (try clear hb); (try clear hkp); (try clear ho0); have hcz56_0 : w55.cell? ⟨gb408, 0, none⟩ = some (.int .i64 ((rd_T70 x6_2 0).f0)) := (blk_cell BK408.out 0).trans rfl; have hcz56_1 : w55.cell? ⟨gb408, 1, none⟩ = some (.int .i64 ((rd_T70 x6_2 0).f1)) := (blk_cell BK408.out 1).trans rfl; have hcz56_2 : w55.cell? ⟨gb408, 2, none⟩ = some (.string ((rd_T70 x6_2 0).f2)) := (blk_cell BK408.out 2).trans rfl; have hfz56_0 := blk_frozen BK408.out 0; have hfz56_1 := blk_frozen BK408.out 1; have hfz56_2 := blk_frozen BK408.out 2; have p36 : 0 ≤ (0 : Int) := (by omega); have q36 : (0 : Int) < ((x6_2.length : Int) : Int) := of_decide_eq_true (by first | (with_reducible assumption) | assumption); have qi36 : (0 < x6_2.length) = True := eq_true (by omega); obtain ⟨go36, oo36, co36, eo36, gb36, gl36, cl36, HG36⟩ := Kd.Q_form HO_6.out (by omega); (first | cases eo36 | (injection eo36 with ea_ en_ ec_; (first | subst ea_ | (injection ea_ with ea_; subst ea_)); subst ec_; clear en_)); have GB36 := Aside0.mk gb36; have GG36 := Aside0.mk HG36; clear gb36 gl36 HG36; obtain ⟨ce36, hcl36, hM36, hcc36, hfr36⟩ := Kd.Q_elem HO_6.out z70 (0 : Int) p36 q36; obtain rfl := k70_openM hM36; have hx36_0 : w55.cell? ⟨go36, oo36 + (0 : Int).toNat * 3, none⟩ = some (.int .i64 ((rd_T70 x6_2 0).f0)) := hcc36 0 _ rfl; have hx36_1 : w55.cell? ⟨go36, oo36 + (0 : Int).toNat * 3 + 1, none⟩ = some (.int .i64 ((rd_T70 x6_2 0).f1)) := hcc36 1 _ rfl; have hx36_2 : w55.cell? ⟨go36, oo36 + (0 : Int).toNat * 3 + 2, none⟩ = some (.string ((rd_T70 x6_2 0).f2)) := hcc36 2 _ rfl; have hf36_0 : w55.frozen? ⟨go36, oo36 + (0 : Int).toNat * 3, none⟩ = false := hfr36 0; have hf36_1 : w55.frozen? ⟨go36, oo36 + (0 : Int).toNat * 3 + 1, none⟩ = false := hfr36 1; have hf36_2 : w55.frozen? ⟨go36, oo36 + (0 : Int).toNat * 3 + 2, none⟩ = false := hfr36 2; clear hcl36 hcc36 hfr36 hM36; (try rw [show ((0 : Int)).toNat = 0 from rfl] at hx36_0); (try simp only [Nat.reduceMul, Nat.zero_mul, Nat.zero_add, Nat.reduceAdd] at hx36_0); (try rw [show ((0 : Int)).toNat = 0 from rfl] at hf36_0); (try simp only [Nat.reduceMul, Nat.zero_mul, Nat.zero_add, Nat.reduceAdd] at hf36_0); (try rw [show ((0 : Int)).toNat = 0 from rfl] at hx36_1); (try simp only [Nat.reduceMul, Nat.zero_mul, Nat.zero_add, Nat.reduceAdd] at hx36_1); (try rw [show ((0 : Int)).toNat = 0 from rfl] at hf36_1); (try simp only [Nat.reduceMul, Nat.zero_mul, Nat.zero_add, Nat.reduceAdd] at hf36_1); (try rw [show ((0 : Int)).toNat = 0 from rfl] at hx36_2); (try simp only [Nat.reduceMul, Nat.zero_mul, Nat.zero_add, Nat.reduceAdd] at hx36_2); (try rw [show ((0 : Int)).toNat = 0 from rfl] at hf36_2); (try simp only [Nat.reduceMul, Nat.zero_mul, Nat.zero_add, Nat.reduceAdd] at hf36_2); replace p36 := eq_true p36; replace q36 := eq_true q36; have HX57 := Aside0.mk (show Kd.Q k70 70 w55 w.heap.size (fun k_ => some k_ ≠ (v417 : Value).ownBlock ∧ k_ ≠ gb408) (.slice (some ⟨go36, oo36, none⟩) x6_2.length co27) x6_2 from (by (with_reducible repeat (first | apply Kd.Q_alloc | apply Kd.Q_drewN | apply Kd.Q_drew)); exact Kd.Q_mono HO_6.out (fun _ hk => ⟨hk.2, hk.1⟩))); obtain ⟨ce57, hcl57, hM57, hcc57, hfr57⟩ := Kd.Q_elem HX57.out z70 (0 : Int) (by omega) (by have h_ : (0 : Int) < ((x6_2.length : Int) : Int) := of_decide_eq_true (by first | (with_reducible assumption) | assumption); first | exact h_ | (have e_ := (Kd.Q_reads' HO_6.out).1; omega) | simpa using h_); obtain rfl := k70_openM hM57; have HP57 := Kd.Q_seg HX57.out (0 : Int) (by omega) (by have h_ : (0 : Int) < ((x6_2.length : Int) : Int) := of_decide_eq_true (by first | (with_reducible assumption) | assumption); first | exact h_ | (have e_ := (Kd.Q_reads' HO_6.out).1; omega) | simpa using h_) (seg := [.int .i64 (wrap64 (((rd_T70 x6_2 0).f1) - x10_25))]) (j := 1) hcl57 hcc57 (show 2 ≤ 3 from by decide) (x' := (⟨(rd_T70 x6_2 0).f0, wrap64 (((rd_T70 x6_2 0).f1) - x10_25), (rd_T70 x6_2 0).f2⟩ : S70)) (k70_mkM _ _ _ (⟨(rd_T70 x6_2 0).f0, wrap64 (((rd_T70 x6_2 0).f1) - x10_25), (rd_T70 x6_2 0).f2⟩ : S70) ) (fun _ hk => hk); have hx57_1 := hcc57 1 _ rfl; (try simp only [show (k70).sz = 3 from rfl, Nat.mul_one, Nat.add_zero] at hx57_1); (try rw [show ((0 : Int)).toNat = 0 from rfl] at hx57_1); (try simp only [Nat.reduceMul, Nat.zero_mul, Nat.zero_add, Nat.reduceAdd] at hx57_1); have hf57_1 := hfr57 1; (try simp only [show (k70).sz = 3 from rfl, Nat.mul_one, Nat.add_zero] at hf57_1); (try rw [show ((0 : Int)).toNat = 0 from rfl] at hf57_1); (try simp only [Nat.reduceMul, Nat.zero_mul, Nat.zero_add, Nat.reduceAdd] at hf57_1); clear hcl57 hcc57 hfr57 hM57) | ((with_reducible refine gate_store (t := 3) (p := 80) rfl ?_); refine store_event (t := 3) (p := 80) (v := ?vo_w58) (w1 := (w55.setCell ⟨go36, oo36 + 1, none⟩ (.int .i64 (wrap64 (((rd_T70 x6_2 0).f1) - x10_25))))) ?hg ?ho ?hn ?hr ?_; (case ho => rfl); (case hg => rfl); (case hn => rfl); (case hr => first | (go_simp; done) | (go_simp; rfl)); intro w58 hw; have hg : w55.grownBy w58 (some go36) := (by rw [hw]; exact HP57.2); have hp_ : Kd.Q k70 70 w58 w.heap.size (fun k_ => some k_ ≠ (v417 : Value).ownBlock ∧ k_ ≠ gb408) (.slice (some ⟨go36, oo36, none⟩) x6_2.length co27) y419 := (by rw [hw, Ny419.out]; exact HP57.1); clear HP57; have n0_ := Aside0.mk (hp_); have n1_ := Aside0.mk (blk_grown (g := gb408) (o := .cells #[.int .i64 ((rd_T70 x6_2 0).f0), .int .i64 ((rd_T70 x6_2 0).f1), .string ((rd_T70 x6_2 0).f2)] 70 (0, 0)) (by (with_reducible repeat (first | refine blk_drewN ?_ _ | refine blk_drew ?_ | refine blk_alloc ?_ _)); exact BK408.out) hg (Kd.Q_away HO_6.out (fun _ hk => hk.1))); have n2_ := Aside0.mk (Kd.R_after (v := (.slice (some ⟨go36, oo36, none⟩) x6_2.length co27)) (v1 := (.slice (some ⟨go36, oo36, none⟩) x6_2.length co27)) (ok := (fun k_ => k_ ≠ gb408)) (by (with_reducible repeat (first | apply Kd.R_alloc | apply Kd.R_drewN | apply Kd.R_drew)); exact Kd.R_mono HO418.out (fun _ hk => ⟨hk.2, hk.1⟩)) hg (.inl rfl)); have n3_ := Aside0.mk ((by rw [hw]; exact below_set (HB.out) GB36.out : Below w.heap.size w w58)); clear HO_6; clear BK408; clear HO418; clear HB; have HO_6 := n0_; have BK408 := n1_; have HO418 := n2_; have HB := n3_; clear n0_ n1_ n2_ n3_; clear hg hw hp_; have p420 : 0 ≤ (0 : Int) := (by omega); have q420 : 0 < (y419.length : Int) := (by have h_ : (0 : Int) < ((x6_2.length : Int) : Int) := of_decide_eq_true (by first | (with_reducible assumption) | assumption); first | (have e_ := (Kd.Q_reads' HO_6.out).1; omega) | simpa only [Ny419.out, List.length_set] using h_); have ql420 : ((0 : Int) < ((x6_2.length : Int) : Int)) = True := eq_true (of_decide_eq_true (by first | (with_reducible assumption) | assumption)); (try have qn420 : (0 < x6_2.length) = True := eq_true (by have h_ : (0 : Int) < ((x6_2.length : Int) : Int) := of_decide_eq_true (by first | (with_reducible assumption) | assumption); omega)); obtain ⟨ad420, e420, hx420_0, hx420_1, hx420_2⟩ := at_T70 (Kd.Q_reads' HO_6.out).2.2 0 p420 q420; obtain rfl : (⟨go36, oo36, none⟩ : Addr) = ad420 := (by injection e420); (first | simp only [add_plain] at hx420_0 | simp only [add_at] at hx420_0 | simp only [Addr.add, Nat.zero_add] at hx420_0 | skip); (first | simp only [add_plain] at hx420_1 | simp only [add_at] at hx420_1 | simp only [Addr.add, Nat.zero_add] at hx420_1 | skip); (first | simp only [add_plain] at hx420_2 | simp only [add_at] at hx420_2 | simp only [Addr.add, Nat.zero_add] at hx420_2 | skip); have qi420 : (0 < y419.length) = True := eq_true (by omega); (try rw [show ((0 : Int)).toNat = 0 from rfl] at hx420_0); (try rw [show 0 * 3 = 0 from rfl] at hx420_0); (try rw [Addr.add_zero'] at hx420_0); (try rw [show ((0 : Int)).toNat = 0 from rfl] at hx420_1); (try rw [show 0 * 3 = 0 from rfl] at hx420_1); (try rw [Addr.add_zero'] at hx420_1); (try rw [show ((0 : Int)).toNat = 0 from rfl] at hx420_2); (try rw [show 0 * 3 = 0 from rfl] at hx420_2); (try rw [Addr.add_zero'] at hx420_2); replace p420 := eq_true p420; replace q420 := eq_true q420))
                   go_roundg kj25
                   case measure => have := HK1.out; have := HK2.out; have := HJ25.out; omega
                   case rel => exact ⟨(t416), (y419), (wrap64 (x8_2 - x10_25)), (by first | rfl | (simp; done) | (simp [*]; done) | (simp; exact isEmpty_bne _)), H', ⟨by have := HK1.out; have := HK2.out; have := HJ25.out; omega⟩, ⟨by (with_reducible repeat (first | apply Kd.R_alloc | apply Kd.R_drewN | apply Kd.R_drew)); exact Kd.R_mono HO418.out (fun _ hk => hk.2)⟩, ⟨by (with_reducible repeat (first | apply Kd.Q_alloc | apply Kd.Q_drewN | apply Kd.Q_drew)); exact Kd.Q_mono HO_6.out (fun _ hk => hk.1)⟩, ⟨by repeat (first | (with_reducible first | exact HB.out | apply below_alloc | apply pw_below_drewN | apply below_drew1 | refine below_set ?_ GE408.out) | exact HB.out)⟩⟩
                 ·
                  rw [if_neg c35] at H
                  exact absurd H (by simp)
                ·
                 rw [if_neg c33] at H
                 exact absurd H (by simp)
               ·
                rw [if_neg c32] at H
                exact absurd H (by simp)
              ·
               rw [if_neg c31] at H
               have c31b0 : (((rd_T70 x6_2 0).f0) == 1) = false := beq_eq_false_iff_ne.mpr c31
               have c31b1 : (((rd_T70 x6_2 0).f0) != 1) = true := bne_iff_ne.mpr c31
               by_cases c59 : 0 ≤ x7_1
               ·
                rw [if_pos c59] at H
                have c59b0 : decide (0 ≤ x7_1) = true := decide_eq_true c59
                clear c59
                by_cases c60 : x7_1 < (l1.length : Int)
                ·
                 rw [if_pos c60] at H
                 have c60b0 : decide (x7_1 < (l1.length : Int)) = true := decide_eq_true c60
                 clear c60
                 by_cases c61 : ((rd_T70 l1 x7_1).f0) = 1
                 ·
                  rw [if_pos c61] at H
                  have c61b0 : (((rd_T70 l1 x7_1).f0) == 1) = true := beq_iff_eq.mpr c61
                  have c61b1 : (((rd_T70 l1 x7_1).f0) != 1) = false := bne_eq_false_iff_eq.mpr c61
                  clear c61
                  by_cases c62 : 0 ≤ x10_25
                  ·
                   rw [if_pos c62] at H
                   have c62b0 := eq_true c62
                   have c62b1 : decide (0 ≤ x10_25) = true := decide_eq_true c62
                   clear c62
                   by_cases c63 : x10_25 ≤ (((rd_T70 x6_2 0).f2).size : Int)
                   ·
                    rw [if_pos c63] at H
                    have c63b0 := eq_true c63
                    have c63b1 : decide (x10_25 ≤ (((rd_T70 x6_2 0).f2).size : Int)) = true := decide_eq_true c63
                    clear c63
                    replace H := Option.bind_eq_some_iff.mp H
                    obtain ⟨t426, A640, H⟩ := H
                    replace H : (if 0 < (x6_2.length : Int) then ((some (x6_2.set (0 : Int).toNat (⟨(rd_T70 x6_2 0).f0, (rd_T70 x6_2 0).f1, ((rd_T70 x6_2 0).f2).extract (x10_25 : Int).toNat ((rd_T70 x6_2 0).f2).size⟩ : S70) : List (S70))).bind fun y429 => (if ((rd_T70 y429 0).f1) = 0 then (if ((rd_T70 y429 0).f2).toList = ([] : List UInt8) then (if 1 ≤ (x6_2.length : Int) then (galleyref13_Compose.l1 kj25 l1 t426 (y429.drop (1 : Int).toNat) x7_1 (wrap64 (x8_2 - x10_25))) else (none)) else (galleyref13_Compose.l1 kj25 l1 t426 y429 x7_1 (wrap64 (x8_2 - x10_25)))) else (galleyref13_Compose.l1 kj25 l1 t426 y429 x7_1 (wrap64 (x8_2 - x10_25))))) else (none)) = some r := H
                    have A64 := Aside0.mk A640
                    clear A640
                    have c65b0 := eq_true (of_decide_eq_true (by first | (with_reducible assumption) | assumption) : 0 ≤ x10_25)
                    have c66b0 := eq_true (of_decide_eq_true (by first | (with_reducible assumption) | assumption) : x10_25 ≤ (((rd_T70 x6_2 0).f2).size : Int))
                    by_cases c67 : 0 < (x6_2.length : Int)
                    ·
                     rw [if_pos c67] at H
                     have c67b0 : decide (0 < (x6_2.length : Int)) = true := decide_eq_true c67
                     have c67b1 : decide (0 < x6_2.length) = true := decide_eq_true (by omega)
                     clear c67
                     obtain ⟨y429, hy429⟩ : ∃ y_ : List (S70), y_ = (x6_2.set (0 : Int).toNat (⟨(rd_T70 x6_2 0).f0, (rd_T70 x6_2 0).f1, ((rd_T70 x6_2 0).f2).extract (x10_25 : Int).toNat ((rd_T70 x6_2 0).f2).size⟩ : S70)) := ⟨_, rfl⟩
                     replace H : (if ((rd_T70 y429 0).f1) = 0 then (if ((rd_T70 y429 0).f2).toList = ([] : List UInt8) then (if 1 ≤ (x6_2.length : Int) then (galleyref13_Compose.l1 kj25 l1 t426 (y429.drop (1 : Int).toNat) x7_1 (wrap64 (x8_2 - x10_25))) else (none)) else (galleyref13_Compose.l1 kj25 l1 t426 y429 x7_1 (wrap64 (x8_2 - x10_25)))) else (galleyref13_Compose.l1 kj25 l1 t426 y429 x7_1 (wrap64 (x8_2 - x10_25)))) = some r := by first | (rw [hy429]; with_reducible exact H) | (have H2_ := (Option.bind_some _ _).symm.trans H; rw [hy429]; with_reducible exact H2_) | (have H2_ := (Option.bind_some _ _).symm.trans H; with_reducible exact H2_) | with_reducible exact H | (rw [hy429]; exact H) | exact H
                     have Ny429 := Aside0.mk hy429
                     have HYL429 := Aside0.mk (show y429.length = x6_2.length from by rw [hy429, List.length_set])
                     clear hy429
                     by_cases c69 : ((rd_T70 y429 0).f1) = 0
                     ·
                      rw [if_pos c69] at H
                      have c69b0 : (((rd_T70 y429 0).f1) == 0) = true := beq_iff_eq.mpr c69
                      have c69b1 : (((rd_T70 y429 0).f1) != 0) = false := bne_eq_false_iff_eq.mpr c69
                      clear c69
                      by_cases c70 : ((rd_T70 y429 0).f2).toList = ([] : List UInt8)
                      ·
                       rw [if_pos c70] at H
                       have c70b0 : (((rd_T70 y429 0).f2).toList == ([] : List UInt8)) = true := beq_iff_eq.mpr c70
                       have c70b1 : (((rd_T70 y429 0).f2).toList != ([] : List UInt8)) = false := bne_eq_false_iff_eq.mpr c70
                       clear c70
                       by_cases c71 : 1 ≤ (x6_2.length : Int)
                       ·
                        rw [if_pos c71] at H
                        have c71b0 := eq_true c71
                        have c71b1 : decide (1 ≤ (x6_2.length : Int)) = true := decide_eq_true c71
                        clear c71
                        obtain ⟨y432, hy432⟩ : ∃ y_ : List (S70), y_ = (y429.drop (1 : Int).toNat) := ⟨_, rfl⟩
                        replace H : (galleyref13_Compose.l1 kj25 l1 t426 y432 x7_1 (wrap64 (x8_2 - x10_25))) = some r := by first | (rw [hy432]; with_reducible exact H) | (have H2_ := (Option.bind_some _ _).symm.trans H; rw [hy432]; with_reducible exact H2_) | (have H2_ := (Option.bind_some _ _).symm.trans H; with_reducible exact H2_) | with_reducible exact H | (rw [hy432]; exact H) | exact H
                        have Ny432 := Aside0.mk hy432
                        clear hy432
                        have H' := Aside0.mk H
                        clear H
                        have hcz72_0 : wc.cell? ⟨gb408, 0, none⟩ = some (.int .i64 ((rd_T70 x6_2 0).f0)) := (blk_cell BK408.out 0).trans rfl
                        have hcz72_1 : wc.cell? ⟨gb408, 1, none⟩ = some (.int .i64 ((rd_T70 x6_2 0).f1)) := (blk_cell BK408.out 1).trans rfl
                        have hcz72_2 : wc.cell? ⟨gb408, 2, none⟩ = some (.string ((rd_T70 x6_2 0).f2)) := (blk_cell BK408.out 2).trans rfl
                        have hfz72_0 := blk_frozen BK408.out 0
                        have hfz72_1 := blk_frozen BK408.out 1
                        have hfz72_2 := blk_frozen BK408.out 2
                        have p425 : 0 ≤ (x7_1 : Int) := of_decide_eq_true (by first | (with_reducible assumption) | assumption)
                        have q425 : x7_1 < (l1.length : Int) := of_decide_eq_true (by first | (with_reducible assumption) | assumption)
                        obtain ⟨ad425, e425, hx425_0, hx425_1, hx425_2⟩ := at_T70 HR1.out x7_1 p425 q425
                        obtain rfl : ad401 = ad425 := (by injection e425)
                        replace hx425_0 := (HB.out.cell (World.block_lt_of_cell? w _ hx425_0)).trans hx425_0
                        replace hx425_1 := (HB.out.cell (World.block_lt_of_cell? w _ hx425_1)).trans hx425_1
                        replace hx425_2 := (HB.out.cell (World.block_lt_of_cell? w _ hx425_2)).trans hx425_2
                        replace p425 := eq_true p425
                        replace q425 := eq_true q425
                        obtain ⟨Ao73, co73, eo73⟩ := Kd.R_slice HO_5.out
                        subst eo73
                        go_wp2_with (first | ((with_reducible refine gate_callee (f := 78) rfl ?_); refine goesL_ (some 92) rfl rfl Try.func78 (by kernel_rfl) rfl #[.slice Ao73 x5_2.length co73, .int .i64 2, .int .i64 0, .string (((rd_T70 x6_2 0).f2).extract 0 (x10_25 : Int).toNat)] rfl (by (try simp only [List.map_toArray, List.map_cons, List.map_nil]); first | done | rfl | (simp only [List.length_drop, List.length_take]; rfl)) ?_; (with_reducible refine (galleyref13_add.calls kj25 (fun k_ => some k_ = (.slice Ao73 x5_2.length co73 : Value).ownBlock) (.slice Ao73 x5_2.length co73) x5_2 2 0 (((rd_T70 x6_2 0).f2).extract 0 (x10_25 : Int).toNat) t426 w _ ?side1 ?side2 A64.out).mono ?_); (case side1 => repeat (first | (with_reducible first | exact HB.out | apply below_alloc | apply pw_below_drewN | apply below_drew1 | refine below_set ?_ GE408.out) | exact HB.out)); (case side2 => exact Kd.R_tight rfl HO_5.out); rintro e w74 ⟨v427, rfl, ho0, hb, hkp⟩; refine ⟨_, rfl, ?_⟩; have n0_ := Aside0.mk (Kd.Q_mono (ok' := fun k_ => k_ ≠ gb408 ∧ some k_ ≠ (v427 : Value).ownBlock) (Kd.Q_keptB (HO_6.out) hkp (fun k_ hk_ hs_ => (hk_.1) hs_)) (fun k_ hk_ => ⟨hk_.1.2, fun e_ => Or.elim (ho0.1 k_ e_.symm) (fun hs_ => hk_.2.1 hs_) (fun hn_ => Nat.not_le.2 hk_.2.2 hn_)⟩)); have n1_ := Aside0.mk (blk_kept (by (with_reducible repeat (first | refine blk_drewN ?_ _ | refine blk_drew ?_ | refine blk_alloc ?_ _)); exact BK408.out) hkp (fun hs_ => (fun e_ => (Kd.R_away HO_5.out (fun _ hk => hk.2)) e_) hs_)); have n2_ := Aside0.mk (Kd.R_mono (ok' := fun k_ => some k_ ≠ (.slice (some ad407) x6_2.length co27 : Value).ownBlock ∧ k_ ≠ gb408) ho0 (fun k_ hk_ => ⟨Or.elim hk_ (fun hs_ => fun e_ => (((HO_6.out).1 k_ e_.symm).1) hs_) (fun hn_ => (Kd.fresh' (Kd.Q_lt (by (with_reducible repeat (first | apply Kd.Q_alloc | apply Kd.Q_drewN | apply Kd.Q_drew)); exact HO_6.out)) k_ hn_)), Or.elim hk_ (fun hs_ => fun e_ => (Kd.R_away HO_5.out (fun _ hk => hk.2)) (by rw [← e_]; exact hs_)) (fun hn_ => (Kd.freshB (g := gb408) (o := .cells #[.int .i64 ((rd_T70 x6_2 0).f0), .int .i64 ((rd_T70 x6_2 0).f1), .string ((rd_T70 x6_2 0).f2)] 70 (0, 0)) (by (with_reducible repeat (first | refine blk_drewN ?_ _ | refine blk_drew ?_ | refine blk_alloc ?_ _)); exact BK408.out) k_ hn_))⟩)); have n3_ := Aside0.mk (hb); clear HO_6; clear BK408; clear HB; clear HO_5; have HO_6 := n0_; have BK408 := n1_; have HO428 := n2_; have HB := n3_; clear n0_ n1_ n2_ n3_; (try clear hb); (try clear hkp); (try clear ho0); have hcz75_0 : w74.cell? ⟨gb408, 0, none⟩ = some (.int .i64 ((rd_T70 x6_2 0).f0)) := (blk_cell BK408.out 0).trans rfl; have hcz75_1 : w74.cell? ⟨gb408, 1, none⟩ = some (.int .i64 ((rd_T70 x6_2 0).f1)) := (blk_cell BK408.out 1).trans rfl; have hcz75_2 : w74.cell? ⟨gb408, 2, none⟩ = some (.string ((rd_T70 x6_2 0).f2)) := (blk_cell BK408.out 2).trans rfl; have hfz75_0 := blk_frozen BK408.out 0; have hfz75_1 := blk_frozen BK408.out 1; have hfz75_2 := blk_frozen BK408.out 2; have p68 : 0 ≤ (0 : Int) := (by omega); have q68 : (0 : Int) < ((x6_2.length : Int) : Int) := of_decide_eq_true (by first | (with_reducible assumption) | assumption); have qi68 : (0 < x6_2.length) = True := eq_true (by omega); obtain ⟨go68, oo68, co68, eo68, gb68, gl68, cl68, HG68⟩ := Kd.Q_form HO_6.out (by omega); (first | cases eo68 | (injection eo68 with ea_ en_ ec_; (first | subst ea_ | (injection ea_ with ea_; subst ea_)); subst ec_; clear en_)); have GB68 := Aside0.mk gb68; have GG68 := Aside0.mk HG68; clear gb68 gl68 HG68; obtain ⟨ce68, hcl68, hM68, hcc68, hfr68⟩ := Kd.Q_elem HO_6.out z70 (0 : Int) p68 q68; obtain rfl := k70_openM hM68; have hx68_0 : w74.cell? ⟨go68, oo68 + (0 : Int).toNat * 3, none⟩ = some (.int .i64 ((rd_T70 x6_2 0).f0)) := hcc68 0 _ rfl; have hx68_1 : w74.cell? ⟨go68, oo68 + (0 : Int).toNat * 3 + 1, none⟩ = some (.int .i64 ((rd_T70 x6_2 0).f1)) := hcc68 1 _ rfl; have hx68_2 : w74.cell? ⟨go68, oo68 + (0 : Int).toNat * 3 + 2, none⟩ = some (.string ((rd_T70 x6_2 0).f2)) := hcc68 2 _ rfl; have hf68_0 : w74.frozen? ⟨go68, oo68 + (0 : Int).toNat * 3, none⟩ = false := hfr68 0; have hf68_1 : w74.frozen? ⟨go68, oo68 + (0 : Int).toNat * 3 + 1, none⟩ = false := hfr68 1; have hf68_2 : w74.frozen? ⟨go68, oo68 + (0 : Int).toNat * 3 + 2, none⟩ = false := hfr68 2; clear hcl68 hcc68 hfr68 hM68; (try rw [show ((0 : Int)).toNat = 0 from rfl] at hx68_0); (try simp only [Nat.reduceMul, Nat.zero_mul, Nat.zero_add, Nat.reduceAdd] at hx68_0); (try rw [show ((0 : Int)).toNat = 0 from rfl] at hf68_0); (try simp only [Nat.reduceMul, Nat.zero_mul, Nat.zero_add, Nat.reduceAdd] at hf68_0); (try rw [show ((0 : Int)).toNat = 0 from rfl] at hx68_1); (try simp only [Nat.reduceMul, Nat.zero_mul, Nat.zero_add, Nat.reduceAdd] at hx68_1); (try rw [show ((0 : Int)).toNat = 0 from rfl] at hf68_1); (try simp only [Nat.reduceMul, Nat.zero_mul, Nat.zero_add, Nat.reduceAdd] at hf68_1); (try rw [show ((0 : Int)).toNat = 0 from rfl] at hx68_2); (try simp only [Nat.reduceMul, Nat.zero_mul, Nat.zero_add, Nat.reduceAdd] at hx68_2); (try rw [show ((0 : Int)).toNat = 0 from rfl] at hf68_2); (try simp only [Nat.reduceMul, Nat.zero_mul, Nat.zero_add, Nat.reduceAdd] at hf68_2); replace p68 := eq_true p68; replace q68 := eq_true q68; have HX76 := Aside0.mk (show Kd.Q k70 70 w74 w.heap.size (fun k_ => some k_ ≠ (v427 : Value).ownBlock ∧ k_ ≠ gb408) (.slice (some ⟨go68, oo68, none⟩) x6_2.length co27) x6_2 from (by (with_reducible repeat (first | apply Kd.Q_alloc | apply Kd.Q_drewN | apply Kd.Q_drew)); exact Kd.Q_mono HO_6.out (fun _ hk => ⟨hk.2, hk.1⟩))); obtain ⟨ce76, hcl76, hM76, hcc76, hfr76⟩ := Kd.Q_elem HX76.out z70 (0 : Int) (by omega) (by have h_ : (0 : Int) < ((x6_2.length : Int) : Int) := of_decide_eq_true (by first | (with_reducible assumption) | assumption); first | exact h_ | (have e_ := (Kd.Q_reads' HO_6.out).1; omega) | simpa using h_); obtain rfl := k70_openM hM76; have HP76 := Kd.Q_seg HX76.out (0 : Int) (by omega) (by have h_ : (0 : Int) < ((x6_2.length : Int) : Int) := of_decide_eq_true (by first | (with_reducible assumption) | assumption); first | exact h_ | (have e_ := (Kd.Q_reads' HO_6.out).1; omega) | simpa using h_) (seg := [.string (((rd_T70 x6_2 0).f2).extract (x10_25 : Int).toNat ((rd_T70 x6_2 0).f2).size)]) (j := 2) hcl76 hcc76 (show 3 ≤ 3 from by decide) (x' := (⟨(rd_T70 x6_2 0).f0, (rd_T70 x6_2 0).f1, ((rd_T70 x6_2 0).f2).extract (x10_25 : Int).toNat ((rd_T70 x6_2 0).f2).size⟩ : S70)) (k70_mkM _ _ _ (⟨(rd_T70 x6_2 0).f0, (rd_T70 x6_2 0).f1, ((rd_T70 x6_2 0).f2).extract (x10_25 : Int).toNat ((rd_T70 x6_2 0).f2).size⟩ : S70) ) (fun _ hk => hk); have hx76_2 := hcc76 2 _ rfl; (try simp only [show (k70).sz = 3 from rfl, Nat.mul_one, Nat.add_zero] at hx76_2); (try rw [show ((0 : Int)).toNat = 0 from rfl] at hx76_2); (try simp only [Nat.reduceMul, Nat.zero_mul, Nat.zero_add, Nat.reduceAdd] at hx76_2); have hf76_2 := hfr76 2; (try simp only [show (k70).sz = 3 from rfl, Nat.mul_one, Nat.add_zero] at hf76_2); (try rw [show ((0 : Int)).toNat = 0 from rfl] at hf76_2); (try simp only [Nat.reduceMul, Nat.zero_mul, Nat.zero_add, Nat.reduceAdd] at hf76_2); clear hcl76 hcc76 hfr76 hM76) | ((with_reducible refine gate_store (t := 9) (p := 99) rfl ?_); refine store_event (t := 9) (p := 99) (v := ?vo_w77) (w1 := (w74.setCell ⟨go68, oo68 + 2, none⟩ (.string (((rd_T70 x6_2 0).f2).extract (x10_25 : Int).toNat ((rd_T70 x6_2 0).f2).size)))) ?hg ?ho ?hn ?hr ?_; (case ho => rfl); (case hg => rfl); (case hn => rfl); (case hr => first | (go_simp; done) | (go_simp; rfl)); intro w77 hw; have hg : w74.grownBy w77 (some go68) := (by rw [hw]; exact HP76.2); have hp_ : Kd.Q k70 70 w77 w.heap.size (fun k_ => some k_ ≠ (v427 : Value).ownBlock ∧ k_ ≠ gb408) (.slice (some ⟨go68, oo68, none⟩) x6_2.length co27) y429 := (by rw [hw, Ny429.out]; exact HP76.1); clear HP76; have n0_ := Aside0.mk (hp_); have n1_ := Aside0.mk (blk_grown (g := gb408) (o := .cells #[.int .i64 ((rd_T70 x6_2 0).f0), .int .i64 ((rd_T70 x6_2 0).f1), .string ((rd_T70 x6_2 0).f2)] 70 (0, 0)) (by (with_reducible repeat (first | refine blk_drewN ?_ _ | refine blk_drew ?_ | refine blk_alloc ?_ _)); exact BK408.out) hg (Kd.Q_away HO_6.out (fun _ hk => hk.1))); have n2_ := Aside0.mk (Kd.R_after (v := (.slice (some ⟨go68, oo68, none⟩) x6_2.length co27)) (v1 := (.slice (some ⟨go68, oo68, none⟩) x6_2.length co27)) (ok := (fun k_ => k_ ≠ gb408)) (by (with_reducible repeat (first | apply Kd.R_alloc | apply Kd.R_drewN | apply Kd.R_drew)); exact Kd.R_mono HO428.out (fun _ hk => ⟨hk.2, hk.1⟩)) hg (.inl rfl)); have n3_ := Aside0.mk ((by rw [hw]; exact below_set (HB.out) GB68.out : Below w.heap.size w w77)); clear HO_6; clear BK408; clear HO428; clear HB; have HO_6 := n0_; have BK408 := n1_; have HO428 := n2_; have HB := n3_; clear n0_ n1_ n2_ n3_; clear hg hw hp_; have p430 : 0 ≤ (0 : Int) := (by omega); have q430 : 0 < (y429.length : Int) := (by have h_ : (0 : Int) < ((x6_2.length : Int) : Int) := of_decide_eq_true (by first | (with_reducible assumption) | assumption); first | (have e_ := (Kd.Q_reads' HO_6.out).1; omega) | simpa only [Ny429.out, List.length_set] using h_); have ql430 : ((0 : Int) < ((x6_2.length : Int) : Int)) = True := eq_true (of_decide_eq_true (by first | (with_reducible assumption) | assumption)); (try have qn430 : (0 < x6_2.length) = True := eq_true (by have h_ : (0 : Int) < ((x6_2.length : Int) : Int) := of_decide_eq_true (by first | (with_reducible assumption) | assumption); omega)); obtain ⟨ad430, e430, hx430_0, hx430_1, hx430_2⟩ := at_T70 (Kd.Q_reads' HO_6.out).2.2 0 p430 q430; obtain rfl : (⟨go68, oo68, none⟩ : Addr) = ad430 := (by injection e430); (first | simp only [add_plain] at hx430_0 | simp only [add_at] at hx430_0 | simp only [Addr.add, Nat.zero_add] at hx430_0 | skip); (first | simp only [add_plain] at hx430_1 | simp only [add_at] at hx430_1 | simp only [Addr.add, Nat.zero_add] at hx430_1 | skip); (first | simp only [add_plain] at hx430_2 | simp only [add_at] at hx430_2 | simp only [Addr.add, Nat.zero_add] at hx430_2 | skip); have qi430 : (0 < y429.length) = True := eq_true (by omega); (try rw [show ((0 : Int)).toNat = 0 from rfl] at hx430_0); (try rw [show 0 * 3 = 0 from rfl] at hx430_0); (try rw [Addr.add_zero'] at hx430_0); (try rw [show ((0 : Int)).toNat = 0 from rfl] at hx430_1); (try rw [show 0 * 3 = 0 from rfl] at hx430_1); (try rw [Addr.add_zero'] at hx430_1); (try rw [show ((0 : Int)).toNat = 0 from rfl] at hx430_2); (try rw [show 0 * 3 = 0 from rfl] at hx430_2); (try rw [Addr.add_zero'] at hx430_2); replace p430 := eq_true p430; replace q430 := eq_true q430; have p431 : 0 ≤ (0 : Int) := (by omega); have q431 : 0 < (y429.length : Int) := (by have h_ : (0 : Int) < ((x6_2.length : Int) : Int) := of_decide_eq_true (by first | (with_reducible assumption) | assumption); first | (have e_ := (Kd.Q_reads' HO_6.out).1; omega) | simpa only [Ny429.out, List.length_set] using h_); have ql431 : ((0 : Int) < ((x6_2.length : Int) : Int)) = True := eq_true (of_decide_eq_true (by first | (with_reducible assumption) | assumption)); (try have qn431 : (0 < x6_2.length) = True := eq_true (by have h_ : (0 : Int) < ((x6_2.length : Int) : Int) := of_decide_eq_true (by first | (with_reducible assumption) | assumption); omega)); obtain ⟨ad431, e431, hx431_0, hx431_1, hx431_2⟩ := at_T70 (Kd.Q_reads' HO_6.out).2.2 0 p431 q431; obtain rfl : (⟨go68, oo68, none⟩ : Addr) = ad431 := (by injection e431); (first | simp only [add_plain] at hx431_0 | simp only [add_at] at hx431_0 | simp only [Addr.add, Nat.zero_add] at hx431_0 | skip); (first | simp only [add_plain] at hx431_1 | simp only [add_at] at hx431_1 | simp only [Addr.add, Nat.zero_add] at hx431_1 | skip); (first | simp only [add_plain] at hx431_2 | simp only [add_at] at hx431_2 | simp only [Addr.add, Nat.zero_add] at hx431_2 | skip); have qi431 : (0 < y429.length) = True := eq_true (by omega); (try rw [show ((0 : Int)).toNat = 0 from rfl] at hx431_0); (try rw [show 0 * 3 = 0 from rfl] at hx431_0); (try rw [Addr.add_zero'] at hx431_0); (try rw [show ((0 : Int)).toNat = 0 from rfl] at hx431_1); (try rw [show 0 * 3 = 0 from rfl] at hx431_1); (try rw [Addr.add_zero'] at hx431_1); (try rw [show ((0 : Int)).toNat = 0 from rfl] at hx431_2); (try rw [show 0 * 3 = 0 from rfl] at hx431_2); (try rw [Addr.add_zero'] at hx431_2); replace p431 := eq_true p431; replace q431 := eq_true q431; have q78 : (1 : Int) ≤ ((x6_2.length : Int) : Int) := of_decide_eq_true (by first | (with_reducible assumption) | assumption); obtain ⟨i078, hi078, _, hsz78, _⟩ := info_parts info70; have hcut78 := cut_from (P := Try.prog) 25 70 .i64 Try.underlying25 hi078 3 hsz78 (some ⟨go68, oo68, none⟩) x6_2.length co27 1 (by omega) q78; have hr78 := Kd.Q_drop (k := (1 : Int).toNat) HO_6.out (by have := HYL429.out; omega); obtain ⟨A78, hA78⟩ : ∃ A1, A1 = (if co27 = (1 : Int).toNat then (some ⟨go68, oo68, none⟩) else ((some ⟨go68, oo68, none⟩) : Option Addr).map (·.add ((1 : Int).toNat * 3))) := ⟨_, rfl⟩; obtain ⟨c78, hc78⟩ : ∃ c1, c1 = co27 - (1 : Int).toNat := ⟨_, rfl⟩; have hy78 : y432.length = x6_2.length - (1 : Int).toNat := (by rw [Ny432.out, List.length_drop, HYL429.out]); rw [← Ny432.out] at hr78; rw [← hy78, ← hA78, ← hc78] at hcut78; replace hr78 : Kd.Q k70 70 w77 w.heap.size (fun k_ => some k_ ≠ (v427 : Value).ownBlock ∧ k_ ≠ gb408) (.slice A78 y432.length c78) y432 := (by rw [hA78, hc78, hy78]; first | exact hr78 | exact Kd.Q_mono hr78 (fun _ h_ => ⟨h_.2, h_.1⟩)); have HE78 : Aside0 ((Value.slice A78 y432.length c78).ownBlock = (.slice (some ⟨go68, oo68, none⟩) x6_2.length co27 : Value).ownBlock) := ⟨by rw [hA78]; split <;> (cases ((some ⟨go68, oo68, none⟩) : Option Addr) <;> rfl)⟩; clear hy78 hi078 hsz78 HO_6 hA78 hc78; have HO434 := Aside0.mk hr78; clear hr78; replace q78 := eq_true q78; have n_ := Aside0.mk (Kd.R_mono (ok' := fun k_ => (k_ ≠ gb408 ∧ some k_ ≠ (.slice A78 y432.length c78 : Value).ownBlock)) HO428.out (fun k_ hk => ⟨hk.1, (by rw [HE78.out]; exact hk.2)⟩)); clear HO428; have HO428 := n_; clear n_))
                        go_roundg kj25
                        case measure => have := HK1.out; have := HK2.out; have := HJ25.out; omega
                        case rel => exact ⟨(t426), (y432), (wrap64 (x8_2 - x10_25)), (by first | rfl | (simp; done) | (simp [*]; done) | (simp; exact isEmpty_bne _)), H', ⟨by have := HK1.out; have := HK2.out; have := HJ25.out; omega⟩, ⟨by (with_reducible repeat (first | apply Kd.R_alloc | apply Kd.R_drewN | apply Kd.R_drew)); exact Kd.R_mono HO428.out (fun _ hk => hk.2)⟩, ⟨by (with_reducible repeat (first | apply Kd.Q_alloc | apply Kd.Q_drewN | apply Kd.Q_drew)); exact Kd.Q_mono HO434.out (fun _ hk => hk.1)⟩, ⟨by repeat (first | (with_reducible first | exact HB.out | apply below_alloc | apply pw_below_drewN | apply below_drew1 | refine below_set ?_ GE408.out) | exact HB.out)⟩⟩
                       ·
                        rw [if_neg c71] at H
                        exact absurd H (by simp)
                      ·
                       rw [if_neg c70] at H
                       have c70b0 : (((rd_T70 y429 0).f2).toList == ([] : List UInt8)) = false := beq_eq_false_iff_ne.mpr c70
                       have c70b1 : (((rd_T70 y429 0).f2).toList != ([] : List UInt8)) = true := bne_iff_ne.mpr c70
                       have H' := Aside0.mk H
                       clear H
                       have hcz79_0 : wc.cell? ⟨gb408, 0, none⟩ = some (.int .i64 ((rd_T70 x6_2 0).f0)) := (blk_cell BK408.out 0).trans rfl
                       have hcz79_1 : wc.cell? ⟨gb408, 1, none⟩ = some (.int .i64 ((rd_T70 x6_2 0).f1)) := (blk_cell BK408.out 1).trans rfl
                       have hcz79_2 : wc.cell? ⟨gb408, 2, none⟩ = some (.string ((rd_T70 x6_2 0).f2)) := (blk_cell BK408.out 2).trans rfl
                       have hfz79_0 := blk_frozen BK408.out 0
                       have hfz79_1 := blk_frozen BK408.out 1
                       have hfz79_2 := blk_frozen BK408.out 2
                       have p425 : 0 ≤ (x7_1 : Int) := of_decide_eq_true (by first | (with_reducible assumption) | assumption)
                       have q425 : x7_1 < (l1.length : Int) := of_decide_eq_true (by first | (with_reducible assumption) | assumption)
                       obtain ⟨ad425, e425, hx425_0, hx425_1, hx425_2⟩ := at_T70 HR1.out x7_1 p425 q425
                       obtain rfl : ad401 = ad425 := (by injection e425)
                       replace hx425_0 := (HB.out.cell (World.block_lt_of_cell? w _ hx425_0)).trans hx425_0
                       replace hx425_1 := (HB.out.cell (World.block_lt_of_cell? w _ hx425_1)).trans hx425_1
                       replace hx425_2 := (HB.out.cell (World.block_lt_of_cell? w _ hx425_2)).trans hx425_2
                       replace p425 := eq_true p425
                       replace q425 := eq_true q425
                       obtain ⟨Ao80, co80, eo80⟩ := Kd.R_slice HO_5.out
                       subst eo80
                       go_wp2_with (first | ((with_reducible refine gate_callee (f := 78) rfl ?_); refine goesL_ (some 92) rfl rfl Try.func78 (by kernel_rfl) rfl #[.slice Ao80 x5_2.length co80, .int .i64 2, .int .i64 0, .string (((rd_T70 x6_2 0).f2).extract 0 (x10_25 : Int).toNat)] rfl (by (try simp only [List.map_toArray, List.map_cons, List.map_nil]); first | done | rfl | (simp only [List.length_drop, List.length_take]; rfl)) ?_; (with_reducible refine (galleyref13_add.calls kj25 (fun k_ => some k_ = (.slice Ao80 x5_2.length co80 : Value).ownBlock) (.slice Ao80 x5_2.length co80) x5_2 2 0 (((rd_T70 x6_2 0).f2).extract 0 (x10_25 : Int).toNat) t426 w _ ?side1 ?side2 A64.out).mono ?_); (case side1 => repeat (first | (with_reducible first | exact HB.out | apply below_alloc | apply pw_below_drewN | apply below_drew1 | refine below_set ?_ GE408.out) | exact HB.out)); (case side2 => exact Kd.R_tight rfl HO_5.out); rintro e w81 ⟨v427, rfl, ho0, hb, hkp⟩; refine ⟨_, rfl, ?_⟩; have n0_ := Aside0.mk (Kd.Q_mono (ok' := fun k_ => k_ ≠ gb408 ∧ some k_ ≠ (v427 : Value).ownBlock) (Kd.Q_keptB (HO_6.out) hkp (fun k_ hk_ hs_ => (hk_.1) hs_)) (fun k_ hk_ => ⟨hk_.1.2, fun e_ => Or.elim (ho0.1 k_ e_.symm) (fun hs_ => hk_.2.1 hs_) (fun hn_ => Nat.not_le.2 hk_.2.2 hn_)⟩)); have n1_ := Aside0.mk (blk_kept (by (with_reducible repeat (first | refine blk_drewN ?_ _ | refine blk_drew ?_ | refine blk_alloc ?_ _)); exact BK408.out) hkp (fun hs_ => (fun e_ => (Kd.R_away HO_5.out (fun _ hk => hk.2)) e_) hs_)); have n2_ := Aside0.mk (Kd.R_mono (ok' := fun k_ => some k_ ≠ (.slice (some ad407) x6_2.length co27 : Value).ownBlock ∧ k_ ≠ gb408) ho0 (fun k_ hk_ => ⟨Or.elim hk_ (fun hs_ => fun e_ => (((HO_6.out).1 k_ e_.symm).1) hs_) (fun hn_ => (Kd.fresh' (Kd.Q_lt (by (with_reducible repeat (first | apply Kd.Q_alloc | apply Kd.Q_drewN | apply Kd.Q_drew)); exact HO_6.out)) k_ hn_)), Or.elim hk_ (fun hs_ => fun e_ => (Kd.R_away HO_5.out (fun _ hk => hk.2)) (by rw [← e_]; exact hs_)) (fun hn_ => (Kd.freshB (g := gb408) (o := .cells #[.int .i64 ((rd_T70 x6_2 0).f0), .int .i64 ((rd_T70 x6_2 0).f1), .string ((rd_T70 x6_2 0).f2)] 70 (0, 0)) (by (with_reducible repeat (first | refine blk_drewN ?_ _ | refine blk_drew ?_ | refine blk_alloc ?_ _)); exact BK408.out) k_ hn_))⟩)); have n3_ := Aside0.mk (hb); clear HO_6; clear BK408; clear HB; clear HO_5; have HO_6 := n0_; have BK408 := n1_; have HO428 := n2_; have HB := n3_; clear n0_ n1_ n2_ n3_; (try clear hb); (try clear hkp); (try clear ho0); have hcz82_0 : w81.cell? ⟨gb408, 0, none⟩ = some (.int .i64 ((rd_T70 x6_2 0).f0)) := (blk_cell BK408.out 0).trans rfl; have hcz82_1 : w81.cell? ⟨gb408, 1, none⟩ = some (.int .i64 ((rd_T70 x6_2 0).f1)) := (blk_cell BK408.out 1).trans rfl; have hcz82_2 : w81.cell? ⟨gb408, 2, none⟩ = some (.string ((rd_T70 x6_2 0).f2)) := (blk_cell BK408.out 2).trans rfl; have hfz82_0 := blk_frozen BK408.out 0; have hfz82_1 := blk_frozen BK408.out 1; have hfz82_2 := blk_frozen BK408.out 2; have p68 : 0 ≤ (0 : Int) := (by omega); have q68 : (0 : Int) < ((x6_2.length : Int) : Int) := of_decide_eq_true (by first | (with_reducible assumption) | assumption); have qi68 : (0 < x6_2.length) = True := eq_true (by omega); obtain ⟨go68, oo68, co68, eo68, gb68, gl68, cl68, HG68⟩ := Kd.Q_form HO_6.out (by omega); (first | cases eo68 | (injection eo68 with ea_ en_ ec_; (first | subst ea_ | (injection ea_ with ea_; subst ea_)); subst ec_; clear en_)); have GB68 := Aside0.mk gb68; have GG68 := Aside0.mk HG68; clear gb68 gl68 HG68; obtain ⟨ce68, hcl68, hM68, hcc68, hfr68⟩ := Kd.Q_elem HO_6.out z70 (0 : Int) p68 q68; obtain rfl := k70_openM hM68; have hx68_0 : w81.cell? ⟨go68, oo68 + (0 : Int).toNat * 3, none⟩ = some (.int .i64 ((rd_T70 x6_2 0).f0)) := hcc68 0 _ rfl; have hx68_1 : w81.cell? ⟨go68, oo68 + (0 : Int).toNat * 3 + 1, none⟩ = some (.int .i64 ((rd_T70 x6_2 0).f1)) := hcc68 1 _ rfl; have hx68_2 : w81.cell? ⟨go68, oo68 + (0 : Int).toNat * 3 + 2, none⟩ = some (.string ((rd_T70 x6_2 0).f2)) := hcc68 2 _ rfl; have hf68_0 : w81.frozen? ⟨go68, oo68 + (0 : Int).toNat * 3, none⟩ = false := hfr68 0; have hf68_1 : w81.frozen? ⟨go68, oo68 + (0 : Int).toNat * 3 + 1, none⟩ = false := hfr68 1; have hf68_2 : w81.frozen? ⟨go68, oo68 + (0 : Int).toNat * 3 + 2, none⟩ = false := hfr68 2; clear hcl68 hcc68 hfr68 hM68; (try rw [show ((0 : Int)).toNat = 0 from rfl] at hx68_0); (try simp only [Nat.reduceMul, Nat.zero_mul, Nat.zero_add, Nat.reduceAdd] at hx68_0); (try rw [show ((0 : Int)).toNat = 0 from rfl] at hf68_0); (try simp only [Nat.reduceMul, Nat.zero_mul, Nat.zero_add, Nat.reduceAdd] at hf68_0); (try rw [show ((0 : Int)).toNat = 0 from rfl] at hx68_1); (try simp only [Nat.reduceMul, Nat.zero_mul, Nat.zero_add, Nat.reduceAdd] at hx68_1); (try rw [show ((0 : Int)).toNat = 0 from rfl] at hf68_1); (try simp only [Nat.reduceMul, Nat.zero_mul, Nat.zero_add, Nat.reduceAdd] at hf68_1); (try rw [show ((0 : Int)).toNat = 0 from rfl] at hx68_2); (try simp only [Nat.reduceMul, Nat.zero_mul, Nat.zero_add, Nat.reduceAdd] at hx68_2); (try rw [show ((0 : Int)).toNat = 0 from rfl] at hf68_2); (try simp only [Nat.reduceMul, Nat.zero_mul, Nat.zero_add, Nat.reduceAdd] at hf68_2); replace p68 := eq_true p68; replace q68 := eq_true q68; have HX83 := Aside0.mk (show Kd.Q k70 70 w81 w.heap.size (fun k_ => some k_ ≠ (v427 : Value).ownBlock ∧ k_ ≠ gb408) (.slice (some ⟨go68, oo68, none⟩) x6_2.length co27) x6_2 from (by (with_reducible repeat (first | apply Kd.Q_alloc | apply Kd.Q_drewN | apply Kd.Q_drew)); exact Kd.Q_mono HO_6.out (fun _ hk => ⟨hk.2, hk.1⟩))); obtain ⟨ce83, hcl83, hM83, hcc83, hfr83⟩ := Kd.Q_elem HX83.out z70 (0 : Int) (by omega) (by have h_ : (0 : Int) < ((x6_2.length : Int) : Int) := of_decide_eq_true (by first | (with_reducible assumption) | assumption); first | exact h_ | (have e_ := (Kd.Q_reads' HO_6.out).1; omega) | simpa using h_); obtain rfl := k70_openM hM83; have HP83 := Kd.Q_seg HX83.out (0 : Int) (by omega) (by have h_ : (0 : Int) < ((x6_2.length : Int) : Int) := of_decide_eq_true (by first | (with_reducible assumption) | assumption); first | exact h_ | (have e_ := (Kd.Q_reads' HO_6.out).1; omega) | simpa using h_) (seg := [.string (((rd_T70 x6_2 0).f2).extract (x10_25 : Int).toNat ((rd_T70 x6_2 0).f2).size)]) (j := 2) hcl83 hcc83 (show 3 ≤ 3 from by decide) (x' := (⟨(rd_T70 x6_2 0).f0, (rd_T70 x6_2 0).f1, ((rd_T70 x6_2 0).f2).extract (x10_25 : Int).toNat ((rd_T70 x6_2 0).f2).size⟩ : S70)) (k70_mkM _ _ _ (⟨(rd_T70 x6_2 0).f0, (rd_T70 x6_2 0).f1, ((rd_T70 x6_2 0).f2).extract (x10_25 : Int).toNat ((rd_T70 x6_2 0).f2).size⟩ : S70) ) (fun _ hk => hk); have hx83_2 := hcc83 2 _ rfl; (try simp only [show (k70).sz = 3 from rfl, Nat.mul_one, Nat.add_zero] at hx83_2); (try rw [show ((0 : Int)).toNat = 0 from rfl] at hx83_2); (try simp only [Nat.reduceMul, Nat.zero_mul, Nat.zero_add, Nat.reduceAdd] at hx83_2); have hf83_2 := hfr83 2; (try simp only [show (k70).sz = 3 from rfl, Nat.mul_one, Nat.add_zero] at hf83_2); (try rw [show ((0 : Int)).toNat = 0 from rfl] at hf83_2); (try simp only [Nat.reduceMul, Nat.zero_mul, Nat.zero_add, Nat.reduceAdd] at hf83_2); clear hcl83 hcc83 hfr83 hM83) | ((with_reducible refine gate_store (t := 9) (p := 99) rfl ?_); refine store_event (t := 9) (p := 99) (v := ?vo_w84) (w1 := (w81.setCell ⟨go68, oo68 + 2, none⟩ (.string (((rd_T70 x6_2 0).f2).extract (x10_25 : Int).toNat ((rd_T70 x6_2 0).f2).size)))) ?hg ?ho ?hn ?hr ?_; (case ho => rfl); (case hg => rfl); (case hn => rfl); (case hr => first | (go_simp; done) | (go_simp; rfl)); intro w84 hw; have hg : w81.grownBy w84 (some go68) := (by rw [hw]; exact HP83.2); have hp_ : Kd.Q k70 70 w84 w.heap.size (fun k_ => some k_ ≠ (v427 : Value).ownBlock ∧ k_ ≠ gb408) (.slice (some ⟨go68, oo68, none⟩) x6_2.length co27) y429 := (by rw [hw, Ny429.out]; exact HP83.1); clear HP83; have n0_ := Aside0.mk (hp_); have n1_ := Aside0.mk (blk_grown (g := gb408) (o := .cells #[.int .i64 ((rd_T70 x6_2 0).f0), .int .i64 ((rd_T70 x6_2 0).f1), .string ((rd_T70 x6_2 0).f2)] 70 (0, 0)) (by (with_reducible repeat (first | refine blk_drewN ?_ _ | refine blk_drew ?_ | refine blk_alloc ?_ _)); exact BK408.out) hg (Kd.Q_away HO_6.out (fun _ hk => hk.1))); have n2_ := Aside0.mk (Kd.R_after (v := (.slice (some ⟨go68, oo68, none⟩) x6_2.length co27)) (v1 := (.slice (some ⟨go68, oo68, none⟩) x6_2.length co27)) (ok := (fun k_ => k_ ≠ gb408)) (by (with_reducible repeat (first | apply Kd.R_alloc | apply Kd.R_drewN | apply Kd.R_drew)); exact Kd.R_mono HO428.out (fun _ hk => ⟨hk.2, hk.1⟩)) hg (.inl rfl)); have n3_ := Aside0.mk ((by rw [hw]; exact below_set (HB.out) GB68.out : Below w.heap.size w w84)); clear HO_6; clear BK408; clear HO428; clear HB; have HO_6 := n0_; have BK408 := n1_; have HO428 := n2_; have HB := n3_; clear n0_ n1_ n2_ n3_; clear hg hw hp_; have p430 : 0 ≤ (0 : Int) := (by omega); have q430 : 0 < (y429.length : Int) := (by have h_ : (0 : Int) < ((x6_2.length : Int) : Int) := of_decide_eq_true (by first | (with_reducible assumption) | assumption); first | (have e_ := (Kd.Q_reads' HO_6.out).1; omega) | simpa only [Ny429.out, List.length_set] using h_); have ql430 : ((0 : Int) < ((x6_2.length : Int) : Int)) = True := eq_true (of_decide_eq_true (by first | (with_reducible assumption) | assumption)); (try have qn430 : (0 < x6_2.length) = True := eq_true (by have h_ : (0 : Int) < ((x6_2.length : Int) : Int) := of_decide_eq_true (by first | (with_reducible assumption) | assumption); omega)); obtain ⟨ad430, e430, hx430_0, hx430_1, hx430_2⟩ := at_T70 (Kd.Q_reads' HO_6.out).2.2 0 p430 q430; obtain rfl : (⟨go68, oo68, none⟩ : Addr) = ad430 := (by injection e430); (first | simp only [add_plain] at hx430_0 | simp only [add_at] at hx430_0 | simp only [Addr.add, Nat.zero_add] at hx430_0 | skip); (first | simp only [add_plain] at hx430_1 | simp only [add_at] at hx430_1 | simp only [Addr.add, Nat.zero_add] at hx430_1 | skip); (first | simp only [add_plain] at hx430_2 | simp only [add_at] at hx430_2 | simp only [Addr.add, Nat.zero_add] at hx430_2 | skip); have qi430 : (0 < y429.length) = True := eq_true (by omega); (try rw [show ((0 : Int)).toNat = 0 from rfl] at hx430_0); (try rw [show 0 * 3 = 0 from rfl] at hx430_0); (try rw [Addr.add_zero'] at hx430_0); (try rw [show ((0 : Int)).toNat = 0 from rfl] at hx430_1); (try rw [show 0 * 3 = 0 from rfl] at hx430_1); (try rw [Addr.add_zero'] at hx430_1); (try rw [show ((0 : Int)).toNat = 0 from rfl] at hx430_2); (try rw [show 0 * 3 = 0 from rfl] at hx430_2); (try rw [Addr.add_zero'] at hx430_2); replace p430 := eq_true p430; replace q430 := eq_true q430; have p431 : 0 ≤ (0 : Int) := (by omega); have q431 : 0 < (y429.length : Int) := (by have h_ : (0 : Int) < ((x6_2.length : Int) : Int) := of_decide_eq_true (by first | (with_reducible assumption) | assumption); first | (have e_ := (Kd.Q_reads' HO_6.out).1; omega) | simpa only [Ny429.out, List.length_set] using h_); have ql431 : ((0 : Int) < ((x6_2.length : Int) : Int)) = True := eq_true (of_decide_eq_true (by first | (with_reducible assumption) | assumption)); (try have qn431 : (0 < x6_2.length) = True := eq_true (by have h_ : (0 : Int) < ((x6_2.length : Int) : Int) := of_decide_eq_true (by first | (with_reducible assumption) | assumption); omega)); obtain ⟨ad431, e431, hx431_0, hx431_1, hx431_2⟩ := at_T70 (Kd.Q_reads' HO_6.out).2.2 0 p431 q431; obtain rfl : (⟨go68, oo68, none⟩ : Addr) = ad431 := (by injection e431); (first | simp only [add_plain] at hx431_0 | simp only [add_at] at hx431_0 | simp only [Addr.add, Nat.zero_add] at hx431_0 | skip); (first | simp only [add_plain] at hx431_1 | simp only [add_at] at hx431_1 | simp only [Addr.add, Nat.zero_add] at hx431_1 | skip); (first | simp only [add_plain] at hx431_2 | simp only [add_at] at hx431_2 | simp only [Addr.add, Nat.zero_add] at hx431_2 | skip); have qi431 : (0 < y429.length) = True := eq_true (by omega); (try rw [show ((0 : Int)).toNat = 0 from rfl] at hx431_0); (try rw [show 0 * 3 = 0 from rfl] at hx431_0); (try rw [Addr.add_zero'] at hx431_0); (try rw [show ((0 : Int)).toNat = 0 from rfl] at hx431_1); (try rw [show 0 * 3 = 0 from rfl] at hx431_1); (try rw [Addr.add_zero'] at hx431_1); (try rw [show ((0 : Int)).toNat = 0 from rfl] at hx431_2); (try rw [show 0 * 3 = 0 from rfl] at hx431_2); (try rw [Addr.add_zero'] at hx431_2); replace p431 := eq_true p431; replace q431 := eq_true q431))
                       go_roundg kj25
                       case measure => have := HK1.out; have := HK2.out; have := HJ25.out; omega
                       case rel => exact ⟨(t426), (y429), (wrap64 (x8_2 - x10_25)), (by first | rfl | (simp; done) | (simp [*]; done) | (simp; exact isEmpty_bne _)), H', ⟨by have := HK1.out; have := HK2.out; have := HJ25.out; omega⟩, ⟨by (with_reducible repeat (first | apply Kd.R_alloc | apply Kd.R_drewN | apply Kd.R_drew)); exact Kd.R_mono HO428.out (fun _ hk => hk.2)⟩, ⟨by (with_reducible repeat (first | apply Kd.Q_alloc | apply Kd.Q_drewN | apply Kd.Q_drew)); exact Kd.Q_mono HO_6.out (fun _ hk => hk.1)⟩, ⟨by repeat (first | (with_reducible first | exact HB.out | apply below_alloc | apply pw_below_drewN | apply below_drew1 | refine below_set ?_ GE408.out) | exact HB.out)⟩⟩
                     ·
                      rw [if_neg c69] at H
                      have c69b0 : (((rd_T70 y429 0).f1) == 0) = false := beq_eq_false_iff_ne.mpr c69
                      have c69b1 : (((rd_T70 y429 0).f1) != 0) = true := bne_iff_ne.mpr c69
                      have H' := Aside0.mk H
                      clear H
                      have hcz85_0 : wc.cell? ⟨gb408, 0, none⟩ = some (.int .i64 ((rd_T70 x6_2 0).f0)) := (blk_cell BK408.out 0).trans rfl
                      have hcz85_1 : wc.cell? ⟨gb408, 1, none⟩ = some (.int .i64 ((rd_T70 x6_2 0).f1)) := (blk_cell BK408.out 1).trans rfl
                      have hcz85_2 : wc.cell? ⟨gb408, 2, none⟩ = some (.string ((rd_T70 x6_2 0).f2)) := (blk_cell BK408.out 2).trans rfl
                      have hfz85_0 := blk_frozen BK408.out 0
                      have hfz85_1 := blk_frozen BK408.out 1
                      have hfz85_2 := blk_frozen BK408.out 2
                      have p425 : 0 ≤ (x7_1 : Int) := of_decide_eq_true (by first | (with_reducible assumption) | assumption)
                      have q425 : x7_1 < (l1.length : Int) := of_decide_eq_true (by first | (with_reducible assumption) | assumption)
                      obtain ⟨ad425, e425, hx425_0, hx425_1, hx425_2⟩ := at_T70 HR1.out x7_1 p425 q425
                      obtain rfl : ad401 = ad425 := (by injection e425)
                      replace hx425_0 := (HB.out.cell (World.block_lt_of_cell? w _ hx425_0)).trans hx425_0
                      replace hx425_1 := (HB.out.cell (World.block_lt_of_cell? w _ hx425_1)).trans hx425_1
                      replace hx425_2 := (HB.out.cell (World.block_lt_of_cell? w _ hx425_2)).trans hx425_2
                      replace p425 := eq_true p425
                      replace q425 := eq_true q425
                      obtain ⟨Ao86, co86, eo86⟩ := Kd.R_slice HO_5.out
                      subst eo86
                      go_wp2_with (first | ((with_reducible refine gate_callee (f := 78) rfl ?_); refine goesL_ (some 92) rfl rfl Try.func78 (by kernel_rfl) rfl #[.slice Ao86 x5_2.length co86, .int .i64 2, .int .i64 0, .string (((rd_T70 x6_2 0).f2).extract 0 (x10_25 : Int).toNat)] rfl (by (try simp only [List.map_toArray, List.map_cons, List.map_nil]); first | done | rfl | (simp only [List.length_drop, List.length_take]; rfl)) ?_; (with_reducible refine (galleyref13_add.calls kj25 (fun k_ => some k_ = (.slice Ao86 x5_2.length co86 : Value).ownBlock) (.slice Ao86 x5_2.length co86) x5_2 2 0 (((rd_T70 x6_2 0).f2).extract 0 (x10_25 : Int).toNat) t426 w _ ?side1 ?side2 A64.out).mono ?_); (case side1 => repeat (first | (with_reducible first | exact HB.out | apply below_alloc | apply pw_below_drewN | apply below_drew1 | refine below_set ?_ GE408.out) | exact HB.out)); (case side2 => exact Kd.R_tight rfl HO_5.out); rintro e w87 ⟨v427, rfl, ho0, hb, hkp⟩; refine ⟨_, rfl, ?_⟩; have n0_ := Aside0.mk (Kd.Q_mono (ok' := fun k_ => k_ ≠ gb408 ∧ some k_ ≠ (v427 : Value).ownBlock) (Kd.Q_keptB (HO_6.out) hkp (fun k_ hk_ hs_ => (hk_.1) hs_)) (fun k_ hk_ => ⟨hk_.1.2, fun e_ => Or.elim (ho0.1 k_ e_.symm) (fun hs_ => hk_.2.1 hs_) (fun hn_ => Nat.not_le.2 hk_.2.2 hn_)⟩)); have n1_ := Aside0.mk (blk_kept (by (with_reducible repeat (first | refine blk_drewN ?_ _ | refine blk_drew ?_ | refine blk_alloc ?_ _)); exact BK408.out) hkp (fun hs_ => (fun e_ => (Kd.R_away HO_5.out (fun _ hk => hk.2)) e_) hs_)); have n2_ := Aside0.mk (Kd.R_mono (ok' := fun k_ => some k_ ≠ (.slice (some ad407) x6_2.length co27 : Value).ownBlock ∧ k_ ≠ gb408) ho0 (fun k_ hk_ => ⟨Or.elim hk_ (fun hs_ => fun e_ => (((HO_6.out).1 k_ e_.symm).1) hs_) (fun hn_ => (Kd.fresh' (Kd.Q_lt (by (with_reducible repeat (first | apply Kd.Q_alloc | apply Kd.Q_drewN | apply Kd.Q_drew)); exact HO_6.out)) k_ hn_)), Or.elim hk_ (fun hs_ => fun e_ => (Kd.R_away HO_5.out (fun _ hk => hk.2)) (by rw [← e_]; exact hs_)) (fun hn_ => (Kd.freshB (g := gb408) (o := .cells #[.int .i64 ((rd_T70 x6_2 0).f0), .int .i64 ((rd_T70 x6_2 0).f1), .string ((rd_T70 x6_2 0).f2)] 70 (0, 0)) (by (with_reducible repeat (first | refine blk_drewN ?_ _ | refine blk_drew ?_ | refine blk_alloc ?_ _)); exact BK408.out) k_ hn_))⟩)); have n3_ := Aside0.mk (hb); clear HO_6; clear BK408; clear HB; clear HO_5; have HO_6 := n0_; have BK408 := n1_; have HO428 := n2_; have HB := n3_; clear n0_ n1_ n2_ n3_; (try clear hb); (try clear hkp); (try clear ho0); have hcz88_0 : w87.cell? ⟨gb408, 0, none⟩ = some (.int .i64 ((rd_T70 x6_2 0).f0)) := (blk_cell BK408.out 0).trans rfl; have hcz88_1 : w87.cell? ⟨gb408, 1, none⟩ = some (.int .i64 ((rd_T70 x6_2 0).f1)) := (blk_cell BK408.out 1).trans rfl; have hcz88_2 : w87.cell? ⟨gb408, 2, none⟩ = some (.string ((rd_T70 x6_2 0).f2)) := (blk_cell BK408.out 2).trans rfl; have hfz88_0 := blk_frozen BK408.out 0; have hfz88_1 := blk_frozen BK408.out 1; have hfz88_2 := blk_frozen BK408.out 2; have p68 : 0 ≤ (0 : Int) := (by omega); have q68 : (0 : Int) < ((x6_2.length : Int) : Int) := of_decide_eq_true (by first | (with_reducible assumption) | assumption); have qi68 : (0 < x6_2.length) = True := eq_true (by omega); obtain ⟨go68, oo68, co68, eo68, gb68, gl68, cl68, HG68⟩ := Kd.Q_form HO_6.out (by omega); (first | cases eo68 | (injection eo68 with ea_ en_ ec_; (first | subst ea_ | (injection ea_ with ea_; subst ea_)); subst ec_; clear en_)); have GB68 := Aside0.mk gb68; have GG68 := Aside0.mk HG68; clear gb68 gl68 HG68; obtain ⟨ce68, hcl68, hM68, hcc68, hfr68⟩ := Kd.Q_elem HO_6.out z70 (0 : Int) p68 q68; obtain rfl := k70_openM hM68; have hx68_0 : w87.cell? ⟨go68, oo68 + (0 : Int).toNat * 3, none⟩ = some (.int .i64 ((rd_T70 x6_2 0).f0)) := hcc68 0 _ rfl; have hx68_1 : w87.cell? ⟨go68, oo68 + (0 : Int).toNat * 3 + 1, none⟩ = some (.int .i64 ((rd_T70 x6_2 0).f1)) := hcc68 1 _ rfl; have hx68_2 : w87.cell? ⟨go68, oo68 + (0 : Int).toNat * 3 + 2, none⟩ = some (.string ((rd_T70 x6_2 0).f2)) := hcc68 2 _ rfl; have hf68_0 : w87.frozen? ⟨go68, oo68 + (0 : Int).toNat * 3, none⟩ = false := hfr68 0; have hf68_1 : w87.frozen? ⟨go68, oo68 + (0 : Int).toNat * 3 + 1, none⟩ = false := hfr68 1; have hf68_2 : w87.frozen? ⟨go68, oo68 + (0 : Int).toNat * 3 + 2, none⟩ = false := hfr68 2; clear hcl68 hcc68 hfr68 hM68; (try rw [show ((0 : Int)).toNat = 0 from rfl] at hx68_0); (try simp only [Nat.reduceMul, Nat.zero_mul, Nat.zero_add, Nat.reduceAdd] at hx68_0); (try rw [show ((0 : Int)).toNat = 0 from rfl] at hf68_0); (try simp only [Nat.reduceMul, Nat.zero_mul, Nat.zero_add, Nat.reduceAdd] at hf68_0); (try rw [show ((0 : Int)).toNat = 0 from rfl] at hx68_1); (try simp only [Nat.reduceMul, Nat.zero_mul, Nat.zero_add, Nat.reduceAdd] at hx68_1); (try rw [show ((0 : Int)).toNat = 0 from rfl] at hf68_1); (try simp only [Nat.reduceMul, Nat.zero_mul, Nat.zero_add, Nat.reduceAdd] at hf68_1); (try rw [show ((0 : Int)).toNat = 0 from rfl] at hx68_2); (try simp only [Nat.reduceMul, Nat.zero_mul, Nat.zero_add, Nat.reduceAdd] at hx68_2); (try rw [show ((0 : Int)).toNat = 0 from rfl] at hf68_2); (try simp only [Nat.reduceMul, Nat.zero_mul, Nat.zero_add, Nat.reduceAdd] at hf68_2); replace p68 := eq_true p68; replace q68 := eq_true q68; have HX89 := Aside0.mk (show Kd.Q k70 70 w87 w.heap.size (fun k_ => some k_ ≠ (v427 : Value).ownBlock ∧ k_ ≠ gb408) (.slice (some ⟨go68, oo68, none⟩) x6_2.length co27) x6_2 from (by (with_reducible repeat (first | apply Kd.Q_alloc | apply Kd.Q_drewN | apply Kd.Q_drew)); exact Kd.Q_mono HO_6.out (fun _ hk => ⟨hk.2, hk.1⟩))); obtain ⟨ce89, hcl89, hM89, hcc89, hfr89⟩ := Kd.Q_elem HX89.out z70 (0 : Int) (by omega) (by have h_ : (0 : Int) < ((x6_2.length : Int) : Int) := of_decide_eq_true (by first | (with_reducible assumption) | assumption); first | exact h_ | (have e_ := (Kd.Q_reads' HO_6.out).1; omega) | simpa using h_); obtain rfl := k70_openM hM89; have HP89 := Kd.Q_seg HX89.out (0 : Int) (by omega) (by have h_ : (0 : Int) < ((x6_2.length : Int) : Int) := of_decide_eq_true (by first | (with_reducible assumption) | assumption); first | exact h_ | (have e_ := (Kd.Q_reads' HO_6.out).1; omega) | simpa using h_) (seg := [.string (((rd_T70 x6_2 0).f2).extract (x10_25 : Int).toNat ((rd_T70 x6_2 0).f2).size)]) (j := 2) hcl89 hcc89 (show 3 ≤ 3 from by decide) (x' := (⟨(rd_T70 x6_2 0).f0, (rd_T70 x6_2 0).f1, ((rd_T70 x6_2 0).f2).extract (x10_25 : Int).toNat ((rd_T70 x6_2 0).f2).size⟩ : S70)) (k70_mkM _ _ _ (⟨(rd_T70 x6_2 0).f0, (rd_T70 x6_2 0).f1, ((rd_T70 x6_2 0).f2).extract (x10_25 : Int).toNat ((rd_T70 x6_2 0).f2).size⟩ : S70) ) (fun _ hk => hk); have hx89_2 := hcc89 2 _ rfl; (try simp only [show (k70).sz = 3 from rfl, Nat.mul_one, Nat.add_zero] at hx89_2); (try rw [show ((0 : Int)).toNat = 0 from rfl] at hx89_2); (try simp only [Nat.reduceMul, Nat.zero_mul, Nat.zero_add, Nat.reduceAdd] at hx89_2); have hf89_2 := hfr89 2; (try simp only [show (k70).sz = 3 from rfl, Nat.mul_one, Nat.add_zero] at hf89_2); (try rw [show ((0 : Int)).toNat = 0 from rfl] at hf89_2); (try simp only [Nat.reduceMul, Nat.zero_mul, Nat.zero_add, Nat.reduceAdd] at hf89_2); clear hcl89 hcc89 hfr89 hM89) | ((with_reducible refine gate_store (t := 9) (p := 99) rfl ?_); refine store_event (t := 9) (p := 99) (v := ?vo_w90) (w1 := (w87.setCell ⟨go68, oo68 + 2, none⟩ (.string (((rd_T70 x6_2 0).f2).extract (x10_25 : Int).toNat ((rd_T70 x6_2 0).f2).size)))) ?hg ?ho ?hn ?hr ?_; (case ho => rfl); (case hg => rfl); (case hn => rfl); (case hr => first | (go_simp; done) | (go_simp; rfl)); intro w90 hw; have hg : w87.grownBy w90 (some go68) := (by rw [hw]; exact HP89.2); have hp_ : Kd.Q k70 70 w90 w.heap.size (fun k_ => some k_ ≠ (v427 : Value).ownBlock ∧ k_ ≠ gb408) (.slice (some ⟨go68, oo68, none⟩) x6_2.length co27) y429 := (by rw [hw, Ny429.out]; exact HP89.1); clear HP89; have n0_ := Aside0.mk (hp_); have n1_ := Aside0.mk (blk_grown (g := gb408) (o := .cells #[.int .i64 ((rd_T70 x6_2 0).f0), .int .i64 ((rd_T70 x6_2 0).f1), .string ((rd_T70 x6_2 0).f2)] 70 (0, 0)) (by (with_reducible repeat (first | refine blk_drewN ?_ _ | refine blk_drew ?_ | refine blk_alloc ?_ _)); exact BK408.out) hg (Kd.Q_away HO_6.out (fun _ hk => hk.1))); have n2_ := Aside0.mk (Kd.R_after (v := (.slice (some ⟨go68, oo68, none⟩) x6_2.length co27)) (v1 := (.slice (some ⟨go68, oo68, none⟩) x6_2.length co27)) (ok := (fun k_ => k_ ≠ gb408)) (by (with_reducible repeat (first | apply Kd.R_alloc | apply Kd.R_drewN | apply Kd.R_drew)); exact Kd.R_mono HO428.out (fun _ hk => ⟨hk.2, hk.1⟩)) hg (.inl rfl)); have n3_ := Aside0.mk ((by rw [hw]; exact below_set (HB.out) GB68.out : Below w.heap.size w w90)); clear HO_6; clear BK408; clear HO428; clear HB; have HO_6 := n0_; have BK408 := n1_; have HO428 := n2_; have HB := n3_; clear n0_ n1_ n2_ n3_; clear hg hw hp_; have p430 : 0 ≤ (0 : Int) := (by omega); have q430 : 0 < (y429.length : Int) := (by have h_ : (0 : Int) < ((x6_2.length : Int) : Int) := of_decide_eq_true (by first | (with_reducible assumption) | assumption); first | (have e_ := (Kd.Q_reads' HO_6.out).1; omega) | simpa only [Ny429.out, List.length_set] using h_); have ql430 : ((0 : Int) < ((x6_2.length : Int) : Int)) = True := eq_true (of_decide_eq_true (by first | (with_reducible assumption) | assumption)); (try have qn430 : (0 < x6_2.length) = True := eq_true (by have h_ : (0 : Int) < ((x6_2.length : Int) : Int) := of_decide_eq_true (by first | (with_reducible assumption) | assumption); omega)); obtain ⟨ad430, e430, hx430_0, hx430_1, hx430_2⟩ := at_T70 (Kd.Q_reads' HO_6.out).2.2 0 p430 q430; obtain rfl : (⟨go68, oo68, none⟩ : Addr) = ad430 := (by injection e430); (first | simp only [add_plain] at hx430_0 | simp only [add_at] at hx430_0 | simp only [Addr.add, Nat.zero_add] at hx430_0 | skip); (first | simp only [add_plain] at hx430_1 | simp only [add_at] at hx430_1 | simp only [Addr.add, Nat.zero_add] at hx430_1 | skip); (first | simp only [add_plain] at hx430_2 | simp only [add_at] at hx430_2 | simp only [Addr.add, Nat.zero_add] at hx430_2 | skip); have qi430 : (0 < y429.length) = True := eq_true (by omega); (try rw [show ((0 : Int)).toNat = 0 from rfl] at hx430_0); (try rw [show 0 * 3 = 0 from rfl] at hx430_0); (try rw [Addr.add_zero'] at hx430_0); (try rw [show ((0 : Int)).toNat = 0 from rfl] at hx430_1); (try rw [show 0 * 3 = 0 from rfl] at hx430_1); (try rw [Addr.add_zero'] at hx430_1); (try rw [show ((0 : Int)).toNat = 0 from rfl] at hx430_2); (try rw [show 0 * 3 = 0 from rfl] at hx430_2); (try rw [Addr.add_zero'] at hx430_2); replace p430 := eq_true p430; replace q430 := eq_true q430))
                      go_roundg kj25
                      case measure => have := HK1.out; have := HK2.out; have := HJ25.out; omega
                      case rel => exact ⟨(t426), (y429), (wrap64 (x8_2 - x10_25)), (by first | rfl | (simp; done) | (simp [*]; done) | (simp; exact isEmpty_bne _)), H', ⟨by have := HK1.out; have := HK2.out; have := HJ25.out; omega⟩, ⟨by (with_reducible repeat (first | apply Kd.R_alloc | apply Kd.R_drewN | apply Kd.R_drew)); exact Kd.R_mono HO428.out (fun _ hk => hk.2)⟩, ⟨by (with_reducible repeat (first | apply Kd.Q_alloc | apply Kd.Q_drewN | apply Kd.Q_drew)); exact Kd.Q_mono HO_6.out (fun _ hk => hk.1)⟩, ⟨by repeat (first | (with_reducible first | exact HB.out | apply below_alloc | apply pw_below_drewN | apply below_drew1 | refine below_set ?_ GE408.out) | exact HB.out)⟩⟩
                    ·
                     rw [if_neg c67] at H
                     exact absurd H (by simp)
                   ·
                    rw [if_neg c63] at H
                    exact absurd H (by simp)
                  ·
                   rw [if_neg c62] at H
                   exact absurd H (by simp)
                 ·
                  rw [if_neg c61] at H
                  have c61b0 : (((rd_T70 l1 x7_1).f0) == 1) = false := beq_eq_false_iff_ne.mpr c61
                  have c61b1 : (((rd_T70 l1 x7_1).f0) != 1) = true := bne_iff_ne.mpr c61
                  by_cases c91 : 0 ≤ x10_25
                  ·
                   rw [if_pos c91] at H
                   have c91b0 := eq_true c91
                   have c91b1 : decide (0 ≤ x10_25) = true := decide_eq_true c91
                   clear c91
                   by_cases c92 : x10_25 ≤ (((rd_T70 x6_2 0).f2).size : Int)
                   ·
                    rw [if_pos c92] at H
                    have c92b0 := eq_true c92
                    have c92b1 : decide (x10_25 ≤ (((rd_T70 x6_2 0).f2).size : Int)) = true := decide_eq_true c92
                    clear c92
                    by_cases c93 : 0 < (x6_2.length : Int)
                    ·
                     rw [if_pos c93] at H
                     have c93b0 : decide (0 < (x6_2.length : Int)) = true := decide_eq_true c93
                     have c93b1 : decide (0 < x6_2.length) = true := decide_eq_true (by omega)
                     clear c93
                     obtain ⟨y435, hy435⟩ : ∃ y_ : List (S70), y_ = (x6_2.set (0 : Int).toNat (⟨(rd_T70 x6_2 0).f0, (rd_T70 x6_2 0).f1, ((rd_T70 x6_2 0).f2).extract (x10_25 : Int).toNat ((rd_T70 x6_2 0).f2).size⟩ : S70)) := ⟨_, rfl⟩
                     replace H : (if ((rd_T70 y435 0).f1) = 0 then (if ((rd_T70 y435 0).f2).toList = ([] : List UInt8) then (if 1 ≤ (x6_2.length : Int) then (galleyref13_Compose.l1 kj25 l1 x5_2 (y435.drop (1 : Int).toNat) x7_1 (wrap64 (x8_2 - x10_25))) else (none)) else (galleyref13_Compose.l1 kj25 l1 x5_2 y435 x7_1 (wrap64 (x8_2 - x10_25)))) else (galleyref13_Compose.l1 kj25 l1 x5_2 y435 x7_1 (wrap64 (x8_2 - x10_25)))) = some r := by first | (rw [hy435]; with_reducible exact H) | (have H2_ := (Option.bind_some _ _).symm.trans H; rw [hy435]; with_reducible exact H2_) | (have H2_ := (Option.bind_some _ _).symm.trans H; with_reducible exact H2_) | with_reducible exact H | (rw [hy435]; exact H) | exact H
                     have Ny435 := Aside0.mk hy435
                     have HYL435 := Aside0.mk (show y435.length = x6_2.length from by rw [hy435, List.length_set])
                     clear hy435
                     by_cases c95 : ((rd_T70 y435 0).f1) = 0
                     ·
                      rw [if_pos c95] at H
                      have c95b0 : (((rd_T70 y435 0).f1) == 0) = true := beq_iff_eq.mpr c95
                      have c95b1 : (((rd_T70 y435 0).f1) != 0) = false := bne_eq_false_iff_eq.mpr c95
                      clear c95
                      by_cases c96 : ((rd_T70 y435 0).f2).toList = ([] : List UInt8)
                      ·
                       rw [if_pos c96] at H
                       have c96b0 : (((rd_T70 y435 0).f2).toList == ([] : List UInt8)) = true := beq_iff_eq.mpr c96
                       have c96b1 : (((rd_T70 y435 0).f2).toList != ([] : List UInt8)) = false := bne_eq_false_iff_eq.mpr c96
                       clear c96
                       by_cases c97 : 1 ≤ (x6_2.length : Int)
                       ·
                        rw [if_pos c97] at H
                        have c97b0 := eq_true c97
                        have c97b1 : decide (1 ≤ (x6_2.length : Int)) = true := decide_eq_true c97
                        clear c97
                        obtain ⟨y438, hy438⟩ : ∃ y_ : List (S70), y_ = (y435.drop (1 : Int).toNat) := ⟨_, rfl⟩
                        replace H : (galleyref13_Compose.l1 kj25 l1 x5_2 y438 x7_1 (wrap64 (x8_2 - x10_25))) = some r := by first | (rw [hy438]; with_reducible exact H) | (have H2_ := (Option.bind_some _ _).symm.trans H; rw [hy438]; with_reducible exact H2_) | (have H2_ := (Option.bind_some _ _).symm.trans H; with_reducible exact H2_) | with_reducible exact H | (rw [hy438]; exact H) | exact H
                        have Ny438 := Aside0.mk hy438
                        clear hy438
                        have H' := Aside0.mk H
                        clear H
                        have hcz98_0 : wc.cell? ⟨gb408, 0, none⟩ = some (.int .i64 ((rd_T70 x6_2 0).f0)) := (blk_cell BK408.out 0).trans rfl
                        have hcz98_1 : wc.cell? ⟨gb408, 1, none⟩ = some (.int .i64 ((rd_T70 x6_2 0).f1)) := (blk_cell BK408.out 1).trans rfl
                        have hcz98_2 : wc.cell? ⟨gb408, 2, none⟩ = some (.string ((rd_T70 x6_2 0).f2)) := (blk_cell BK408.out 2).trans rfl
                        have hfz98_0 := blk_frozen BK408.out 0
                        have hfz98_1 := blk_frozen BK408.out 1
                        have hfz98_2 := blk_frozen BK408.out 2
                        have p425 : 0 ≤ (x7_1 : Int) := of_decide_eq_true (by first | (with_reducible assumption) | assumption)
                        have q425 : x7_1 < (l1.length : Int) := of_decide_eq_true (by first | (with_reducible assumption) | assumption)
                        obtain ⟨ad425, e425, hx425_0, hx425_1, hx425_2⟩ := at_T70 HR1.out x7_1 p425 q425
                        obtain rfl : ad401 = ad425 := (by injection e425)
                        replace hx425_0 := (HB.out.cell (World.block_lt_of_cell? w _ hx425_0)).trans hx425_0
                        replace hx425_1 := (HB.out.cell (World.block_lt_of_cell? w _ hx425_1)).trans hx425_1
                        replace hx425_2 := (HB.out.cell (World.block_lt_of_cell? w _ hx425_2)).trans hx425_2
                        replace p425 := eq_true p425
                        replace q425 := eq_true q425
                        have p94 : 0 ≤ (0 : Int) := (by omega)
                        have q94 : (0 : Int) < ((x6_2.length : Int) : Int) := of_decide_eq_true (by first | (with_reducible assumption) | assumption)
                        have qi94 : (0 < x6_2.length) = True := eq_true (by omega)
                        obtain ⟨go94, oo94, co94, eo94, gb94, gl94, cl94, HG94⟩ := Kd.Q_form HO_6.out (by omega)
                        (first | cases eo94 | (injection eo94 with ea_ en_ ec_; (first | subst ea_ | (injection ea_ with ea_; subst ea_)); subst ec_; clear en_))
                        have GB94 := Aside0.mk gb94
                        have GG94 := Aside0.mk HG94
                        clear gb94 gl94 HG94
                        obtain ⟨ce94, hcl94, hM94, hcc94, hfr94⟩ := Kd.Q_elem HO_6.out z70 (0 : Int) p94 q94
                        obtain rfl := k70_openM hM94
                        have hx94_0 : wc.cell? ⟨go94, oo94 + (0 : Int).toNat * 3, none⟩ = some (.int .i64 ((rd_T70 x6_2 0).f0)) := hcc94 0 _ rfl
                        have hx94_1 : wc.cell? ⟨go94, oo94 + (0 : Int).toNat * 3 + 1, none⟩ = some (.int .i64 ((rd_T70 x6_2 0).f1)) := hcc94 1 _ rfl
                        have hx94_2 : wc.cell? ⟨go94, oo94 + (0 : Int).toNat * 3 + 2, none⟩ = some (.string ((rd_T70 x6_2 0).f2)) := hcc94 2 _ rfl
                        have hf94_0 : wc.frozen? ⟨go94, oo94 + (0 : Int).toNat * 3, none⟩ = false := hfr94 0
                        have hf94_1 : wc.frozen? ⟨go94, oo94 + (0 : Int).toNat * 3 + 1, none⟩ = false := hfr94 1
                        have hf94_2 : wc.frozen? ⟨go94, oo94 + (0 : Int).toNat * 3 + 2, none⟩ = false := hfr94 2
                        clear hcl94 hcc94 hfr94 hM94
                        (try rw [show ((0 : Int)).toNat = 0 from rfl] at hx94_0)
                        (try simp only [Nat.reduceMul, Nat.zero_mul, Nat.zero_add, Nat.reduceAdd] at hx94_0)
                        (try rw [show ((0 : Int)).toNat = 0 from rfl] at hf94_0)
                        (try simp only [Nat.reduceMul, Nat.zero_mul, Nat.zero_add, Nat.reduceAdd] at hf94_0)
                        (try rw [show ((0 : Int)).toNat = 0 from rfl] at hx94_1)
                        (try simp only [Nat.reduceMul, Nat.zero_mul, Nat.zero_add, Nat.reduceAdd] at hx94_1)
                        (try rw [show ((0 : Int)).toNat = 0 from rfl] at hf94_1)
                        (try simp only [Nat.reduceMul, Nat.zero_mul, Nat.zero_add, Nat.reduceAdd] at hf94_1)
                        (try rw [show ((0 : Int)).toNat = 0 from rfl] at hx94_2)
                        (try simp only [Nat.reduceMul, Nat.zero_mul, Nat.zero_add, Nat.reduceAdd] at hx94_2)
                        (try rw [show ((0 : Int)).toNat = 0 from rfl] at hf94_2)
                        (try simp only [Nat.reduceMul, Nat.zero_mul, Nat.zero_add, Nat.reduceAdd] at hf94_2)
                        replace p94 := eq_true p94
                        replace q94 := eq_true q94
                        have HX99 := Aside0.mk (show Kd.Q k70 70 wc w.heap.size (fun k_ => some k_ ≠ (u5 : Value).ownBlock ∧ k_ ≠ gb408) (.slice (some ⟨go94, oo94, none⟩) x6_2.length co27) x6_2 from (by (with_reducible repeat (first | apply Kd.Q_alloc | apply Kd.Q_drewN | apply Kd.Q_drew)); exact HO_6.out))
                        obtain ⟨ce99, hcl99, hM99, hcc99, hfr99⟩ := Kd.Q_elem HX99.out z70 (0 : Int) (by omega) (by have h_ : (0 : Int) < ((x6_2.length : Int) : Int) := of_decide_eq_true (by first | (with_reducible assumption) | assumption); first | exact h_ | (have e_ := (Kd.Q_reads' HO_6.out).1; omega) | simpa using h_)
                        obtain rfl := k70_openM hM99
                        have HP99 := Kd.Q_seg HX99.out (0 : Int) (by omega) (by have h_ : (0 : Int) < ((x6_2.length : Int) : Int) := of_decide_eq_true (by first | (with_reducible assumption) | assumption); first | exact h_ | (have e_ := (Kd.Q_reads' HO_6.out).1; omega) | simpa using h_) (seg := [.string (((rd_T70 x6_2 0).f2).extract (x10_25 : Int).toNat ((rd_T70 x6_2 0).f2).size)]) (j := 2) hcl99 hcc99 (show 3 ≤ 3 from by decide) (x' := (⟨(rd_T70 x6_2 0).f0, (rd_T70 x6_2 0).f1, ((rd_T70 x6_2 0).f2).extract (x10_25 : Int).toNat ((rd_T70 x6_2 0).f2).size⟩ : S70)) (k70_mkM _ _ _ (⟨(rd_T70 x6_2 0).f0, (rd_T70 x6_2 0).f1, ((rd_T70 x6_2 0).f2).extract (x10_25 : Int).toNat ((rd_T70 x6_2 0).f2).size⟩ : S70) ) (fun _ hk => hk)
                        have hx99_2 := hcc99 2 _ rfl
                        (try simp only [show (k70).sz = 3 from rfl, Nat.mul_one, Nat.add_zero] at hx99_2)
                        (try rw [show ((0 : Int)).toNat = 0 from rfl] at hx99_2)
                        (try simp only [Nat.reduceMul, Nat.zero_mul, Nat.zero_add, Nat.reduceAdd] at hx99_2)
                        have hf99_2 := hfr99 2
                        (try simp only [show (k70).sz = 3 from rfl, Nat.mul_one, Nat.add_zero] at hf99_2)
                        (try rw [show ((0 : Int)).toNat = 0 from rfl] at hf99_2)
                        (try simp only [Nat.reduceMul, Nat.zero_mul, Nat.zero_add, Nat.reduceAdd] at hf99_2)
                        clear hcl99 hcc99 hfr99 hM99
                        go_wp2_with (first | ((with_reducible refine gate_store (t := 9) (p := 99) rfl ?_); refine store_event (t := 9) (p := 99) (v := ?vo_w100) (w1 := (wc.setCell ⟨go94, oo94 + 2, none⟩ (.string (((rd_T70 x6_2 0).f2).extract (x10_25 : Int).toNat ((rd_T70 x6_2 0).f2).size)))) ?hg ?ho ?hn ?hr ?_; (case ho => rfl); (case hg => rfl); (case hn => rfl); (case hr => first | (go_simp; done) | (go_simp; rfl)); intro w100 hw; have hg : wc.grownBy w100 (some go94) := (by rw [hw]; exact HP99.2); have hp_ : Kd.Q k70 70 w100 w.heap.size (fun k_ => some k_ ≠ (u5 : Value).ownBlock ∧ k_ ≠ gb408) (.slice (some ⟨go94, oo94, none⟩) x6_2.length co27) y435 := (by rw [hw, Ny435.out]; exact HP99.1); clear HP99; have n0_ := Aside0.mk (Kd.R_after (v := (.slice (some ⟨go94, oo94, none⟩) x6_2.length co27)) (v1 := (.slice (some ⟨go94, oo94, none⟩) x6_2.length co27)) (ok := (fun k_ => k_ ≠ gb408)) (by (with_reducible repeat (first | apply Kd.R_alloc | apply Kd.R_drewN | apply Kd.R_drew)); exact Kd.R_mono HO_5.out (fun _ hk => ⟨hk.2, hk.1⟩)) hg (.inl rfl)); have n1_ := Aside0.mk (hp_); have n2_ := Aside0.mk (blk_grown (g := gb408) (o := .cells #[.int .i64 ((rd_T70 x6_2 0).f0), .int .i64 ((rd_T70 x6_2 0).f1), .string ((rd_T70 x6_2 0).f2)] 70 (0, 0)) (by (with_reducible repeat (first | refine blk_drewN ?_ _ | refine blk_drew ?_ | refine blk_alloc ?_ _)); exact BK408.out) hg (Kd.Q_away HO_6.out (fun _ hk => hk.2))); have n3_ := Aside0.mk ((by rw [hw]; exact below_set (HB.out) GB94.out : Below w.heap.size w w100)); clear HO_5; clear HO_6; clear BK408; clear HB; have HO_5 := n0_; have HO_6 := n1_; have BK408 := n2_; have HB := n3_; clear n0_ n1_ n2_ n3_; clear hg hw hp_; have p436 : 0 ≤ (0 : Int) := (by omega); have q436 : 0 < (y435.length : Int) := (by have h_ : (0 : Int) < ((x6_2.length : Int) : Int) := of_decide_eq_true (by first | (with_reducible assumption) | assumption); first | (have e_ := (Kd.Q_reads' HO_6.out).1; omega) | simpa only [Ny435.out, List.length_set] using h_); have ql436 : ((0 : Int) < ((x6_2.length : Int) : Int)) = True := eq_true (of_decide_eq_true (by first | (with_reducible assumption) | assumption)); (try have qn436 : (0 < x6_2.length) = True := eq_true (by have h_ : (0 : Int) < ((x6_2.length : Int) : Int) := of_decide_eq_true (by first | (with_reducible assumption) | assumption); omega)); obtain ⟨ad436, e436, hx436_0, hx436_1, hx436_2⟩ := at_T70 (Kd.Q_reads' HO_6.out).2.2 0 p436 q436; obtain rfl : (⟨go94, oo94, none⟩ : Addr) = ad436 := (by injection e436); (first | simp only [add_plain] at hx436_0 | simp only [add_at] at hx436_0 | simp only [Addr.add, Nat.zero_add] at hx436_0 | skip); (first | simp only [add_plain] at hx436_1 | simp only [add_at] at hx436_1 | simp only [Addr.add, Nat.zero_add] at hx436_1 | skip); (first | simp only [add_plain] at hx436_2 | simp only [add_at] at hx436_2 | simp only [Addr.add, Nat.zero_add] at hx436_2 | skip); have qi436 : (0 < y435.length) = True := eq_true (by omega); (try rw [show ((0 : Int)).toNat = 0 from rfl] at hx436_0); (try rw [show 0 * 3 = 0 from rfl] at hx436_0); (try rw [Addr.add_zero'] at hx436_0); (try rw [show ((0 : Int)).toNat = 0 from rfl] at hx436_1); (try rw [show 0 * 3 = 0 from rfl] at hx436_1); (try rw [Addr.add_zero'] at hx436_1); (try rw [show ((0 : Int)).toNat = 0 from rfl] at hx436_2); (try rw [show 0 * 3 = 0 from rfl] at hx436_2); (try rw [Addr.add_zero'] at hx436_2); replace p436 := eq_true p436; replace q436 := eq_true q436; have p437 : 0 ≤ (0 : Int) := (by omega); have q437 : 0 < (y435.length : Int) := (by have h_ : (0 : Int) < ((x6_2.length : Int) : Int) := of_decide_eq_true (by first | (with_reducible assumption) | assumption); first | (have e_ := (Kd.Q_reads' HO_6.out).1; omega) | simpa only [Ny435.out, List.length_set] using h_); have ql437 : ((0 : Int) < ((x6_2.length : Int) : Int)) = True := eq_true (of_decide_eq_true (by first | (with_reducible assumption) | assumption)); (try have qn437 : (0 < x6_2.length) = True := eq_true (by have h_ : (0 : Int) < ((x6_2.length : Int) : Int) := of_decide_eq_true (by first | (with_reducible assumption) | assumption); omega)); obtain ⟨ad437, e437, hx437_0, hx437_1, hx437_2⟩ := at_T70 (Kd.Q_reads' HO_6.out).2.2 0 p437 q437; obtain rfl : (⟨go94, oo94, none⟩ : Addr) = ad437 := (by injection e437); (first | simp only [add_plain] at hx437_0 | simp only [add_at] at hx437_0 | simp only [Addr.add, Nat.zero_add] at hx437_0 | skip); (first | simp only [add_plain] at hx437_1 | simp only [add_at] at hx437_1 | simp only [Addr.add, Nat.zero_add] at hx437_1 | skip); (first | simp only [add_plain] at hx437_2 | simp only [add_at] at hx437_2 | simp only [Addr.add, Nat.zero_add] at hx437_2 | skip); have qi437 : (0 < y435.length) = True := eq_true (by omega); (try rw [show ((0 : Int)).toNat = 0 from rfl] at hx437_0); (try rw [show 0 * 3 = 0 from rfl] at hx437_0); (try rw [Addr.add_zero'] at hx437_0); (try rw [show ((0 : Int)).toNat = 0 from rfl] at hx437_1); (try rw [show 0 * 3 = 0 from rfl] at hx437_1); (try rw [Addr.add_zero'] at hx437_1); (try rw [show ((0 : Int)).toNat = 0 from rfl] at hx437_2); (try rw [show 0 * 3 = 0 from rfl] at hx437_2); (try rw [Addr.add_zero'] at hx437_2); replace p437 := eq_true p437; replace q437 := eq_true q437; have q101 : (1 : Int) ≤ ((x6_2.length : Int) : Int) := of_decide_eq_true (by first | (with_reducible assumption) | assumption); obtain ⟨i0101, hi0101, _, hsz101, _⟩ := info_parts info70; have hcut101 := cut_from (P := Try.prog) 25 70 .i64 Try.underlying25 hi0101 3 hsz101 (some ⟨go94, oo94, none⟩) x6_2.length co27 1 (by omega) q101; have hr101 := Kd.Q_drop (k := (1 : Int).toNat) HO_6.out (by have := HYL435.out; omega); obtain ⟨A101, hA101⟩ : ∃ A1, A1 = (if co27 = (1 : Int).toNat then (some ⟨go94, oo94, none⟩) else ((some ⟨go94, oo94, none⟩) : Option Addr).map (·.add ((1 : Int).toNat * 3))) := ⟨_, rfl⟩; obtain ⟨c101, hc101⟩ : ∃ c1, c1 = co27 - (1 : Int).toNat := ⟨_, rfl⟩; have hy101 : y438.length = x6_2.length - (1 : Int).toNat := (by rw [Ny438.out, List.length_drop, HYL435.out]); rw [← Ny438.out] at hr101; rw [← hy101, ← hA101, ← hc101] at hcut101; replace hr101 : Kd.Q k70 70 w100 w.heap.size (fun k_ => some k_ ≠ (u5 : Value).ownBlock ∧ k_ ≠ gb408) (.slice A101 y438.length c101) y438 := (by rw [hA101, hc101, hy101]; first | exact hr101 | exact Kd.Q_mono hr101 (fun _ h_ => ⟨h_.2, h_.1⟩)); have HE101 : Aside0 ((Value.slice A101 y438.length c101).ownBlock = (.slice (some ⟨go94, oo94, none⟩) x6_2.length co27 : Value).ownBlock) := ⟨by rw [hA101]; split <;> (cases ((some ⟨go94, oo94, none⟩) : Option Addr) <;> rfl)⟩; clear hy101 hi0101 hsz101 HO_6 hA101 hc101; have HO440 := Aside0.mk hr101; clear hr101; replace q101 := eq_true q101; have n_ := Aside0.mk (Kd.R_mono (ok' := fun k_ => (k_ ≠ gb408 ∧ some k_ ≠ (.slice A101 y438.length c101 : Value).ownBlock)) HO_5.out (fun k_ hk => ⟨hk.1, (by rw [HE101.out]; exact hk.2)⟩)); clear HO_5; have HO_5 := n_; clear n_))
                        go_roundg kj25
                        case measure => have := HK1.out; have := HK2.out; have := HJ25.out; omega
                        case rel => exact ⟨(x5_2), (y438), (wrap64 (x8_2 - x10_25)), (by first | rfl | (simp; done) | (simp [*]; done) | (simp; exact isEmpty_bne _)), H', ⟨by have := HK1.out; have := HK2.out; have := HJ25.out; omega⟩, ⟨by (with_reducible repeat (first | apply Kd.R_alloc | apply Kd.R_drewN | apply Kd.R_drew)); exact Kd.R_mono HO_5.out (fun _ hk => hk.2)⟩, ⟨by (with_reducible repeat (first | apply Kd.Q_alloc | apply Kd.Q_drewN | apply Kd.Q_drew)); exact Kd.Q_mono HO440.out (fun _ hk => hk.1)⟩, ⟨by repeat (first | (with_reducible first | exact HB.out | apply below_alloc | apply pw_below_drewN | apply below_drew1 | refine below_set ?_ GE408.out) | exact HB.out)⟩⟩
                       ·
                        rw [if_neg c97] at H
                        exact absurd H (by simp)
                      ·
                       rw [if_neg c96] at H
                       have c96b0 : (((rd_T70 y435 0).f2).toList == ([] : List UInt8)) = false := beq_eq_false_iff_ne.mpr c96
                       have c96b1 : (((rd_T70 y435 0).f2).toList != ([] : List UInt8)) = true := bne_iff_ne.mpr c96
                       have H' := Aside0.mk H
                       clear H
                       have hcz102_0 : wc.cell? ⟨gb408, 0, none⟩ = some (.int .i64 ((rd_T70 x6_2 0).f0)) := (blk_cell BK408.out 0).trans rfl
                       have hcz102_1 : wc.cell? ⟨gb408, 1, none⟩ = some (.int .i64 ((rd_T70 x6_2 0).f1)) := (blk_cell BK408.out 1).trans rfl
                       have hcz102_2 : wc.cell? ⟨gb408, 2, none⟩ = some (.string ((rd_T70 x6_2 0).f2)) := (blk_cell BK408.out 2).trans rfl
                       have hfz102_0 := blk_frozen BK408.out 0
                       have hfz102_1 := blk_frozen BK408.out 1
                       have hfz102_2 := blk_frozen BK408.out 2
                       have p425 : 0 ≤ (x7_1 : Int) := of_decide_eq_true (by first | (with_reducible assumption) | assumption)
                       have q425 : x7_1 < (l1.length : Int) := of_decide_eq_true (by first | (with_reducible assumption) | assumption)
                       obtain ⟨ad425, e425, hx425_0, hx425_1, hx425_2⟩ := at_T70 HR1.out x7_1 p425 q425
                       obtain rfl : ad401 = ad425 := (by injection e425)
                       replace hx425_0 := (HB.out.cell (World.block_lt_of_cell? w _ hx425_0)).trans hx425_0
                       replace hx425_1 := (HB.out.cell (World.block_lt_of_cell? w _ hx425_1)).trans hx425_1
                       replace hx425_2 := (HB.out.cell (World.block_lt_of_cell? w _ hx425_2)).trans hx425_2
                       replace p425 := eq_true p425
                       replace q425 := eq_true q425
                       have p94 : 0 ≤ (0 : Int) := (by omega)
                       have q94 : (0 : Int) < ((x6_2.length : Int) : Int) := of_decide_eq_true (by first | (with_reducible assumption) | assumption)
                       have qi94 : (0 < x6_2.length) = True := eq_true (by omega)
                       obtain ⟨go94, oo94, co94, eo94, gb94, gl94, cl94, HG94⟩ := Kd.Q_form HO_6.out (by omega)
                       (first | cases eo94 | (injection eo94 with ea_ en_ ec_; (first | subst ea_ | (injection ea_ with ea_; subst ea_)); subst ec_; clear en_))
                       have GB94 := Aside0.mk gb94
                       have GG94 := Aside0.mk HG94
                       clear gb94 gl94 HG94
                       obtain ⟨ce94, hcl94, hM94, hcc94, hfr94⟩ := Kd.Q_elem HO_6.out z70 (0 : Int) p94 q94
                       obtain rfl := k70_openM hM94
                       have hx94_0 : wc.cell? ⟨go94, oo94 + (0 : Int).toNat * 3, none⟩ = some (.int .i64 ((rd_T70 x6_2 0).f0)) := hcc94 0 _ rfl
                       have hx94_1 : wc.cell? ⟨go94, oo94 + (0 : Int).toNat * 3 + 1, none⟩ = some (.int .i64 ((rd_T70 x6_2 0).f1)) := hcc94 1 _ rfl
                       have hx94_2 : wc.cell? ⟨go94, oo94 + (0 : Int).toNat * 3 + 2, none⟩ = some (.string ((rd_T70 x6_2 0).f2)) := hcc94 2 _ rfl
                       have hf94_0 : wc.frozen? ⟨go94, oo94 + (0 : Int).toNat * 3, none⟩ = false := hfr94 0
                       have hf94_1 : wc.frozen? ⟨go94, oo94 + (0 : Int).toNat * 3 + 1, none⟩ = false := hfr94 1
                       have hf94_2 : wc.frozen? ⟨go94, oo94 + (0 : Int).toNat * 3 + 2, none⟩ = false := hfr94 2
                       clear hcl94 hcc94 hfr94 hM94
                       (try rw [show ((0 : Int)).toNat = 0 from rfl] at hx94_0)
                       (try simp only [Nat.reduceMul, Nat.zero_mul, Nat.zero_add, Nat.reduceAdd] at hx94_0)
                       (try rw [show ((0 : Int)).toNat = 0 from rfl] at hf94_0)
                       (try simp only [Nat.reduceMul, Nat.zero_mul, Nat.zero_add, Nat.reduceAdd] at hf94_0)
                       (try rw [show ((0 : Int)).toNat = 0 from rfl] at hx94_1)
                       (try simp only [Nat.reduceMul, Nat.zero_mul, Nat.zero_add, Nat.reduceAdd] at hx94_1)
                       (try rw [show ((0 : Int)).toNat = 0 from rfl] at hf94_1)
                       (try simp only [Nat.reduceMul, Nat.zero_mul, Nat.zero_add, Nat.reduceAdd] at hf94_1)
                       (try rw [show ((0 : Int)).toNat = 0 from rfl] at hx94_2)
                       (try simp only [Nat.reduceMul, Nat.zero_mul, Nat.zero_add, Nat.reduceAdd] at hx94_2)
                       (try rw [show ((0 : Int)).toNat = 0 from rfl] at hf94_2)
                       (try simp only [Nat.reduceMul, Nat.zero_mul, Nat.zero_add, Nat.reduceAdd] at hf94_2)
                       replace p94 := eq_true p94
                       replace q94 := eq_true q94
                       have HX103 := Aside0.mk (show Kd.Q k70 70 wc w.heap.size (fun k_ => some k_ ≠ (u5 : Value).ownBlock ∧ k_ ≠ gb408) (.slice (some ⟨go94, oo94, none⟩) x6_2.length co27) x6_2 from (by (with_reducible repeat (first | apply Kd.Q_alloc | apply Kd.Q_drewN | apply Kd.Q_drew)); exact HO_6.out))
                       obtain ⟨ce103, hcl103, hM103, hcc103, hfr103⟩ := Kd.Q_elem HX103.out z70 (0 : Int) (by omega) (by have h_ : (0 : Int) < ((x6_2.length : Int) : Int) := of_decide_eq_true (by first | (with_reducible assumption) | assumption); first | exact h_ | (have e_ := (Kd.Q_reads' HO_6.out).1; omega) | simpa using h_)
                       obtain rfl := k70_openM hM103
                       have HP103 := Kd.Q_seg HX103.out (0 : Int) (by omega) (by have h_ : (0 : Int) < ((x6_2.length : Int) : Int) := of_decide_eq_true (by first | (with_reducible assumption) | assumption); first | exact h_ | (have e_ := (Kd.Q_reads' HO_6.out).1; omega) | simpa using h_) (seg := [.string (((rd_T70 x6_2 0).f2).extract (x10_25 : Int).toNat ((rd_T70 x6_2 0).f2).size)]) (j := 2) hcl103 hcc103 (show 3 ≤ 3 from by decide) (x' := (⟨(rd_T70 x6_2 0).f0, (rd_T70 x6_2 0).f1, ((rd_T70 x6_2 0).f2).extract (x10_25 : Int).toNat ((rd_T70 x6_2 0).f2).size⟩ : S70)) (k70_mkM _ _ _ (⟨(rd_T70 x6_2 0).f0, (rd_T70 x6_2 0).f1, ((rd_T70 x6_2 0).f2).extract (x10_25 : Int).toNat ((rd_T70 x6_2 0).f2).size⟩ : S70) ) (fun _ hk => hk)
                       have hx103_2 := hcc103 2 _ rfl
                       (try simp only [show (k70).sz = 3 from rfl, Nat.mul_one, Nat.add_zero] at hx103_2)
                       (try rw [show ((0 : Int)).toNat = 0 from rfl] at hx103_2)
                       (try simp only [Nat.reduceMul, Nat.zero_mul, Nat.zero_add, Nat.reduceAdd] at hx103_2)
                       have hf103_2 := hfr103 2
                       (try simp only [show (k70).sz = 3 from rfl, Nat.mul_one, Nat.add_zero] at hf103_2)
                       (try rw [show ((0 : Int)).toNat = 0 from rfl] at hf103_2)
                       (try simp only [Nat.reduceMul, Nat.zero_mul, Nat.zero_add, Nat.reduceAdd] at hf103_2)
                       clear hcl103 hcc103 hfr103 hM103
                       go_wp2_with (first | ((with_reducible refine gate_store (t := 9) (p := 99) rfl ?_); refine store_event (t := 9) (p := 99) (v := ?vo_w104) (w1 := (wc.setCell ⟨go94, oo94 + 2, none⟩ (.string (((rd_T70 x6_2 0).f2).extract (x10_25 : Int).toNat ((rd_T70 x6_2 0).f2).size)))) ?hg ?ho ?hn ?hr ?_; (case ho => rfl); (case hg => rfl); (case hn => rfl); (case hr => first | (go_simp; done) | (go_simp; rfl)); intro w104 hw; have hg : wc.grownBy w104 (some go94) := (by rw [hw]; exact HP103.2); have hp_ : Kd.Q k70 70 w104 w.heap.size (fun k_ => some k_ ≠ (u5 : Value).ownBlock ∧ k_ ≠ gb408) (.slice (some ⟨go94, oo94, none⟩) x6_2.length co27) y435 := (by rw [hw, Ny435.out]; exact HP103.1); clear HP103; have n0_ := Aside0.mk (Kd.R_after (v := (.slice (some ⟨go94, oo94, none⟩) x6_2.length co27)) (v1 := (.slice (some ⟨go94, oo94, none⟩) x6_2.length co27)) (ok := (fun k_ => k_ ≠ gb408)) (by (with_reducible repeat (first | apply Kd.R_alloc | apply Kd.R_drewN | apply Kd.R_drew)); exact Kd.R_mono HO_5.out (fun _ hk => ⟨hk.2, hk.1⟩)) hg (.inl rfl)); have n1_ := Aside0.mk (hp_); have n2_ := Aside0.mk (blk_grown (g := gb408) (o := .cells #[.int .i64 ((rd_T70 x6_2 0).f0), .int .i64 ((rd_T70 x6_2 0).f1), .string ((rd_T70 x6_2 0).f2)] 70 (0, 0)) (by (with_reducible repeat (first | refine blk_drewN ?_ _ | refine blk_drew ?_ | refine blk_alloc ?_ _)); exact BK408.out) hg (Kd.Q_away HO_6.out (fun _ hk => hk.2))); have n3_ := Aside0.mk ((by rw [hw]; exact below_set (HB.out) GB94.out : Below w.heap.size w w104)); clear HO_5; clear HO_6; clear BK408; clear HB; have HO_5 := n0_; have HO_6 := n1_; have BK408 := n2_; have HB := n3_; clear n0_ n1_ n2_ n3_; clear hg hw hp_; have p436 : 0 ≤ (0 : Int) := (by omega); have q436 : 0 < (y435.length : Int) := (by have h_ : (0 : Int) < ((x6_2.length : Int) : Int) := of_decide_eq_true (by first | (with_reducible assumption) | assumption); first | (have e_ := (Kd.Q_reads' HO_6.out).1; omega) | simpa only [Ny435.out, List.length_set] using h_); have ql436 : ((0 : Int) < ((x6_2.length : Int) : Int)) = True := eq_true (of_decide_eq_true (by first | (with_reducible assumption) | assumption)); (try have qn436 : (0 < x6_2.length) = True := eq_true (by have h_ : (0 : Int) < ((x6_2.length : Int) : Int) := of_decide_eq_true (by first | (with_reducible assumption) | assumption); omega)); obtain ⟨ad436, e436, hx436_0, hx436_1, hx436_2⟩ := at_T70 (Kd.Q_reads' HO_6.out).2.2 0 p436 q436; obtain rfl : (⟨go94, oo94, none⟩ : Addr) = ad436 := (by injection e436); (first | simp only [add_plain] at hx436_0 | simp only [add_at] at hx436_0 | simp only [Addr.add, Nat.zero_add] at hx436_0 | skip); (first | simp only [add_plain] at hx436_1 | simp only [add_at] at hx436_1 | simp only [Addr.add, Nat.zero_add] at hx436_1 | skip); (first | simp only [add_plain] at hx436_2 | simp only [add_at] at hx436_2 | simp only [Addr.add, Nat.zero_add] at hx436_2 | skip); have qi436 : (0 < y435.length) = True := eq_true (by omega); (try rw [show ((0 : Int)).toNat = 0 from rfl] at hx436_0); (try rw [show 0 * 3 = 0 from rfl] at hx436_0); (try rw [Addr.add_zero'] at hx436_0); (try rw [show ((0 : Int)).toNat = 0 from rfl] at hx436_1); (try rw [show 0 * 3 = 0 from rfl] at hx436_1); (try rw [Addr.add_zero'] at hx436_1); (try rw [show ((0 : Int)).toNat = 0 from rfl] at hx436_2); (try rw [show 0 * 3 = 0 from rfl] at hx436_2); (try rw [Addr.add_zero'] at hx436_2); replace p436 := eq_true p436; replace q436 := eq_true q436; have p437 : 0 ≤ (0 : Int) := (by omega); have q437 : 0 < (y435.length : Int) := (by have h_ : (0 : Int) < ((x6_2.length : Int) : Int) := of_decide_eq_true (by first | (with_reducible assumption) | assumption); first | (have e_ := (Kd.Q_reads' HO_6.out).1; omega) | simpa only [Ny435.out, List.length_set] using h_); have ql437 : ((0 : Int) < ((x6_2.length : Int) : Int)) = True := eq_true (of_decide_eq_true (by first | (with_reducible assumption) | assumption)); (try have qn437 : (0 < x6_2.length) = True := eq_true (by have h_ : (0 : Int) < ((x6_2.length : Int) : Int) := of_decide_eq_true (by first | (with_reducible assumption) | assumption); omega)); obtain ⟨ad437, e437, hx437_0, hx437_1, hx437_2⟩ := at_T70 (Kd.Q_reads' HO_6.out).2.2 0 p437 q437; obtain rfl : (⟨go94, oo94, none⟩ : Addr) = ad437 := (by injection e437); (first | simp only [add_plain] at hx437_0 | simp only [add_at] at hx437_0 | simp only [Addr.add, Nat.zero_add] at hx437_0 | skip); (first | simp only [add_plain] at hx437_1 | simp only [add_at] at hx437_1 | simp only [Addr.add, Nat.zero_add] at hx437_1 | skip); (first | simp only [add_plain] at hx437_2 | simp only [add_at] at hx437_2 | simp only [Addr.add, Nat.zero_add] at hx437_2 | skip); have qi437 : (0 < y435.length) = True := eq_true (by omega); (try rw [show ((0 : Int)).toNat = 0 from rfl] at hx437_0); (try rw [show 0 * 3 = 0 from rfl] at hx437_0); (try rw [Addr.add_zero'] at hx437_0); (try rw [show ((0 : Int)).toNat = 0 from rfl] at hx437_1); (try rw [show 0 * 3 = 0 from rfl] at hx437_1); (try rw [Addr.add_zero'] at hx437_1); (try rw [show ((0 : Int)).toNat = 0 from rfl] at hx437_2); (try rw [show 0 * 3 = 0 from rfl] at hx437_2); (try rw [Addr.add_zero'] at hx437_2); replace p437 := eq_true p437; replace q437 := eq_true q437))
                       go_roundg kj25
                       case measure => have := HK1.out; have := HK2.out; have := HJ25.out; omega
                       case rel => exact ⟨(x5_2), (y435), (wrap64 (x8_2 - x10_25)), (by first | rfl | (simp; done) | (simp [*]; done) | (simp; exact isEmpty_bne _)), H', ⟨by have := HK1.out; have := HK2.out; have := HJ25.out; omega⟩, ⟨by (with_reducible repeat (first | apply Kd.R_alloc | apply Kd.R_drewN | apply Kd.R_drew)); exact Kd.R_mono HO_5.out (fun _ hk => hk.2)⟩, ⟨by (with_reducible repeat (first | apply Kd.Q_alloc | apply Kd.Q_drewN | apply Kd.Q_drew)); exact Kd.Q_mono HO_6.out (fun _ hk => hk.1)⟩, ⟨by repeat (first | (with_reducible first | exact HB.out | apply below_alloc | apply pw_below_drewN | apply below_drew1 | refine below_set ?_ GE408.out) | exact HB.out)⟩⟩
                     ·
                      rw [if_neg c95] at H
                      have c95b0 : (((rd_T70 y435 0).f1) == 0) = false := beq_eq_false_iff_ne.mpr c95
                      have c95b1 : (((rd_T70 y435 0).f1) != 0) = true := bne_iff_ne.mpr c95
                      have H' := Aside0.mk H
                      clear H
                      have hcz105_0 : wc.cell? ⟨gb408, 0, none⟩ = some (.int .i64 ((rd_T70 x6_2 0).f0)) := (blk_cell BK408.out 0).trans rfl
                      have hcz105_1 : wc.cell? ⟨gb408, 1, none⟩ = some (.int .i64 ((rd_T70 x6_2 0).f1)) := (blk_cell BK408.out 1).trans rfl
                      have hcz105_2 : wc.cell? ⟨gb408, 2, none⟩ = some (.string ((rd_T70 x6_2 0).f2)) := (blk_cell BK408.out 2).trans rfl
                      have hfz105_0 := blk_frozen BK408.out 0
                      have hfz105_1 := blk_frozen BK408.out 1
                      have hfz105_2 := blk_frozen BK408.out 2
                      have p425 : 0 ≤ (x7_1 : Int) := of_decide_eq_true (by first | (with_reducible assumption) | assumption)
                      have q425 : x7_1 < (l1.length : Int) := of_decide_eq_true (by first | (with_reducible assumption) | assumption)
                      obtain ⟨ad425, e425, hx425_0, hx425_1, hx425_2⟩ := at_T70 HR1.out x7_1 p425 q425
                      obtain rfl : ad401 = ad425 := (by injection e425)
                      replace hx425_0 := (HB.out.cell (World.block_lt_of_cell? w _ hx425_0)).trans hx425_0
                      replace hx425_1 := (HB.out.cell (World.block_lt_of_cell? w _ hx425_1)).trans hx425_1
                      replace hx425_2 := (HB.out.cell (World.block_lt_of_cell? w _ hx425_2)).trans hx425_2
                      replace p425 := eq_true p425
                      replace q425 := eq_true q425
                      have p94 : 0 ≤ (0 : Int) := (by omega)
                      have q94 : (0 : Int) < ((x6_2.length : Int) : Int) := of_decide_eq_true (by first | (with_reducible assumption) | assumption)
                      have qi94 : (0 < x6_2.length) = True := eq_true (by omega)
                      obtain ⟨go94, oo94, co94, eo94, gb94, gl94, cl94, HG94⟩ := Kd.Q_form HO_6.out (by omega)
                      (first | cases eo94 | (injection eo94 with ea_ en_ ec_; (first | subst ea_ | (injection ea_ with ea_; subst ea_)); subst ec_; clear en_))
                      have GB94 := Aside0.mk gb94
                      have GG94 := Aside0.mk HG94
                      clear gb94 gl94 HG94
                      obtain ⟨ce94, hcl94, hM94, hcc94, hfr94⟩ := Kd.Q_elem HO_6.out z70 (0 : Int) p94 q94
                      obtain rfl := k70_openM hM94
                      have hx94_0 : wc.cell? ⟨go94, oo94 + (0 : Int).toNat * 3, none⟩ = some (.int .i64 ((rd_T70 x6_2 0).f0)) := hcc94 0 _ rfl
                      have hx94_1 : wc.cell? ⟨go94, oo94 + (0 : Int).toNat * 3 + 1, none⟩ = some (.int .i64 ((rd_T70 x6_2 0).f1)) := hcc94 1 _ rfl
                      have hx94_2 : wc.cell? ⟨go94, oo94 + (0 : Int).toNat * 3 + 2, none⟩ = some (.string ((rd_T70 x6_2 0).f2)) := hcc94 2 _ rfl
                      have hf94_0 : wc.frozen? ⟨go94, oo94 + (0 : Int).toNat * 3, none⟩ = false := hfr94 0
                      have hf94_1 : wc.frozen? ⟨go94, oo94 + (0 : Int).toNat * 3 + 1, none⟩ = false := hfr94 1
                      have hf94_2 : wc.frozen? ⟨go94, oo94 + (0 : Int).toNat * 3 + 2, none⟩ = false := hfr94 2
                      clear hcl94 hcc94 hfr94 hM94
                      (try rw [show ((0 : Int)).toNat = 0 from rfl] at hx94_0)
                      (try simp only [Nat.reduceMul, Nat.zero_mul, Nat.zero_add, Nat.reduceAdd] at hx94_0)
                      (try rw [show ((0 : Int)).toNat = 0 from rfl] at hf94_0)
                      (try simp only [Nat.reduceMul, Nat.zero_mul, Nat.zero_add, Nat.reduceAdd] at hf94_0)
                      (try rw [show ((0 : Int)).toNat = 0 from rfl] at hx94_1)
                      (try simp only [Nat.reduceMul, Nat.zero_mul, Nat.zero_add, Nat.reduceAdd] at hx94_1)
                      (try rw [show ((0 : Int)).toNat = 0 from rfl] at hf94_1)
                      (try simp only [Nat.reduceMul, Nat.zero_mul, Nat.zero_add, Nat.reduceAdd] at hf94_1)
                      (try rw [show ((0 : Int)).toNat = 0 from rfl] at hx94_2)
                      (try simp only [Nat.reduceMul, Nat.zero_mul, Nat.zero_add, Nat.reduceAdd] at hx94_2)
                      (try rw [show ((0 : Int)).toNat = 0 from rfl] at hf94_2)
                      (try simp only [Nat.reduceMul, Nat.zero_mul, Nat.zero_add, Nat.reduceAdd] at hf94_2)
                      replace p94 := eq_true p94
                      replace q94 := eq_true q94
                      have HX106 := Aside0.mk (show Kd.Q k70 70 wc w.heap.size (fun k_ => some k_ ≠ (u5 : Value).ownBlock ∧ k_ ≠ gb408) (.slice (some ⟨go94, oo94, none⟩) x6_2.length co27) x6_2 from (by (with_reducible repeat (first | apply Kd.Q_alloc | apply Kd.Q_drewN | apply Kd.Q_drew)); exact HO_6.out))
                      obtain ⟨ce106, hcl106, hM106, hcc106, hfr106⟩ := Kd.Q_elem HX106.out z70 (0 : Int) (by omega) (by have h_ : (0 : Int) < ((x6_2.length : Int) : Int) := of_decide_eq_true (by first | (with_reducible assumption) | assumption); first | exact h_ | (have e_ := (Kd.Q_reads' HO_6.out).1; omega) | simpa using h_)
                      obtain rfl := k70_openM hM106
                      have HP106 := Kd.Q_seg HX106.out (0 : Int) (by omega) (by have h_ : (0 : Int) < ((x6_2.length : Int) : Int) := of_decide_eq_true (by first | (with_reducible assumption) | assumption); first | exact h_ | (have e_ := (Kd.Q_reads' HO_6.out).1; omega) | simpa using h_) (seg := [.string (((rd_T70 x6_2 0).f2).extract (x10_25 : Int).toNat ((rd_T70 x6_2 0).f2).size)]) (j := 2) hcl106 hcc106 (show 3 ≤ 3 from by decide) (x' := (⟨(rd_T70 x6_2 0).f0, (rd_T70 x6_2 0).f1, ((rd_T70 x6_2 0).f2).extract (x10_25 : Int).toNat ((rd_T70 x6_2 0).f2).size⟩ : S70)) (k70_mkM _ _ _ (⟨(rd_T70 x6_2 0).f0, (rd_T70 x6_2 0).f1, ((rd_T70 x6_2 0).f2).extract (x10_25 : Int).toNat ((rd_T70 x6_2 0).f2).size⟩ : S70) ) (fun _ hk => hk)
                      have hx106_2 := hcc106 2 _ rfl
                      (try simp only [show (k70).sz = 3 from rfl, Nat.mul_one, Nat.add_zero] at hx106_2)
                      (try rw [show ((0 : Int)).toNat = 0 from rfl] at hx106_2)
                      (try simp only [Nat.reduceMul, Nat.zero_mul, Nat.zero_add, Nat.reduceAdd] at hx106_2)
                      have hf106_2 := hfr106 2
                      (try simp only [show (k70).sz = 3 from rfl, Nat.mul_one, Nat.add_zero] at hf106_2)
                      (try rw [show ((0 : Int)).toNat = 0 from rfl] at hf106_2)
                      (try simp only [Nat.reduceMul, Nat.zero_mul, Nat.zero_add, Nat.reduceAdd] at hf106_2)
                      clear hcl106 hcc106 hfr106 hM106
                      go_wp2_with (first | ((with_reducible refine gate_store (t := 9) (p := 99) rfl ?_); refine store_event (t := 9) (p := 99) (v := ?vo_w107) (w1 := (wc.setCell ⟨go94, oo94 + 2, none⟩ (.string (((rd_T70 x6_2 0).f2).extract (x10_25 : Int).toNat ((rd_T70 x6_2 0).f2).size)))) ?hg ?ho ?hn ?hr ?_; (case ho => rfl); (case hg => rfl); (case hn => rfl); (case hr => first | (go_simp; done) | (go_simp; rfl)); intro w107 hw; have hg : wc.grownBy w107 (some go94) := (by rw [hw]; exact HP106.2); have hp_ : Kd.Q k70 70 w107 w.heap.size (fun k_ => some k_ ≠ (u5 : Value).ownBlock ∧ k_ ≠ gb408) (.slice (some ⟨go94, oo94, none⟩) x6_2.length co27) y435 := (by rw [hw, Ny435.out]; exact HP106.1); clear HP106; have n0_ := Aside0.mk (Kd.R_after (v := (.slice (some ⟨go94, oo94, none⟩) x6_2.length co27)) (v1 := (.slice (some ⟨go94, oo94, none⟩) x6_2.length co27)) (ok := (fun k_ => k_ ≠ gb408)) (by (with_reducible repeat (first | apply Kd.R_alloc | apply Kd.R_drewN | apply Kd.R_drew)); exact Kd.R_mono HO_5.out (fun _ hk => ⟨hk.2, hk.1⟩)) hg (.inl rfl)); have n1_ := Aside0.mk (hp_); have n2_ := Aside0.mk (blk_grown (g := gb408) (o := .cells #[.int .i64 ((rd_T70 x6_2 0).f0), .int .i64 ((rd_T70 x6_2 0).f1), .string ((rd_T70 x6_2 0).f2)] 70 (0, 0)) (by (with_reducible repeat (first | refine blk_drewN ?_ _ | refine blk_drew ?_ | refine blk_alloc ?_ _)); exact BK408.out) hg (Kd.Q_away HO_6.out (fun _ hk => hk.2))); have n3_ := Aside0.mk ((by rw [hw]; exact below_set (HB.out) GB94.out : Below w.heap.size w w107)); clear HO_5; clear HO_6; clear BK408; clear HB; have HO_5 := n0_; have HO_6 := n1_; have BK408 := n2_; have HB := n3_; clear n0_ n1_ n2_ n3_; clear hg hw hp_; have p436 : 0 ≤ (0 : Int) := (by omega); have q436 : 0 < (y435.length : Int) := (by have h_ : (0 : Int) < ((x6_2.length : Int) : Int) := of_decide_eq_true (by first | (with_reducible assumption) | assumption); first | (have e_ := (Kd.Q_reads' HO_6.out).1; omega) | simpa only [Ny435.out, List.length_set] using h_); have ql436 : ((0 : Int) < ((x6_2.length : Int) : Int)) = True := eq_true (of_decide_eq_true (by first | (with_reducible assumption) | assumption)); (try have qn436 : (0 < x6_2.length) = True := eq_true (by have h_ : (0 : Int) < ((x6_2.length : Int) : Int) := of_decide_eq_true (by first | (with_reducible assumption) | assumption); omega)); obtain ⟨ad436, e436, hx436_0, hx436_1, hx436_2⟩ := at_T70 (Kd.Q_reads' HO_6.out).2.2 0 p436 q436; obtain rfl : (⟨go94, oo94, none⟩ : Addr) = ad436 := (by injection e436); (first | simp only [add_plain] at hx436_0 | simp only [add_at] at hx436_0 | simp only [Addr.add, Nat.zero_add] at hx436_0 | skip); (first | simp only [add_plain] at hx436_1 | simp only [add_at] at hx436_1 | simp only [Addr.add, Nat.zero_add] at hx436_1 | skip); (first | simp only [add_plain] at hx436_2 | simp only [add_at] at hx436_2 | simp only [Addr.add, Nat.zero_add] at hx436_2 | skip); have qi436 : (0 < y435.length) = True := eq_true (by omega); (try rw [show ((0 : Int)).toNat = 0 from rfl] at hx436_0); (try rw [show 0 * 3 = 0 from rfl] at hx436_0); (try rw [Addr.add_zero'] at hx436_0); (try rw [show ((0 : Int)).toNat = 0 from rfl] at hx436_1); (try rw [show 0 * 3 = 0 from rfl] at hx436_1); (try rw [Addr.add_zero'] at hx436_1); (try rw [show ((0 : Int)).toNat = 0 from rfl] at hx436_2); (try rw [show 0 * 3 = 0 from rfl] at hx436_2); (try rw [Addr.add_zero'] at hx436_2); replace p436 := eq_true p436; replace q436 := eq_true q436))
                      go_roundg kj25
                      case measure => have := HK1.out; have := HK2.out; have := HJ25.out; omega
                      case rel => exact ⟨(x5_2), (y435), (wrap64 (x8_2 - x10_25)), (by first | rfl | (simp; done) | (simp [*]; done) | (simp; exact isEmpty_bne _)), H', ⟨by have := HK1.out; have := HK2.out; have := HJ25.out; omega⟩, ⟨by (with_reducible repeat (first | apply Kd.R_alloc | apply Kd.R_drewN | apply Kd.R_drew)); exact Kd.R_mono HO_5.out (fun _ hk => hk.2)⟩, ⟨by (with_reducible repeat (first | apply Kd.Q_alloc | apply Kd.Q_drewN | apply Kd.Q_drew)); exact Kd.Q_mono HO_6.out (fun _ hk => hk.1)⟩, ⟨by repeat (first | (with_reducible first | exact HB.out | apply below_alloc | apply pw_below_drewN | apply below_drew1 | refine below_set ?_ GE408.out) | exact HB.out)⟩⟩
                    ·
                     rw [if_neg c93] at H
                     exact absurd H (by simp)
                   ·
                    rw [if_neg c92] at H
                    exact absurd H (by simp)
                  ·
                   rw [if_neg c91] at H
                   exact absurd H (by simp)
                ·
                 rw [if_neg c60] at H
                 exact absurd H (by simp)
               ·
                rw [if_neg c59] at H
                exact absurd H (by simp)
          ·
           rw [if_neg c14] at H
           exact absurd H (by simp)
         ·
          rw [if_neg c13] at H
          have c13b0 : decide (0 < x8_2) = false := decide_eq_false c13
          clear c13
          have H' := Aside0.mk H
          clear H
          go_wp2
          go_roundg k2
          case measure => have := HK1.out; have := HK2.out; omega
          case rel => exact ⟨(x5_2), (x6_2), (wrap64 (x7_1 + 1)), (by first | rfl | (simp; done) | (simp [*]; done) | (simp; exact isEmpty_bne _)), H', ⟨by have := HK1.out; have := HK2.out; omega⟩, ⟨by (with_reducible repeat (first | apply Kd.R_alloc | apply Kd.R_drewN | apply Kd.R_drew)); exact HO_5.out⟩, ⟨by (with_reducible repeat (first | apply Kd.Q_alloc | apply Kd.Q_drewN | apply Kd.Q_drew)); exact HO_6.out⟩, ⟨by repeat (first | (with_reducible first | exact HB.out | apply below_alloc | apply pw_below_drewN | apply below_drew1) | exact HB.out)⟩⟩
     ·
      rw [if_neg c8] at H
      exact absurd H (by simp)
    ·
     rw [if_neg c7] at H
     have c7b0 : decide (x7_1 < (l1.length : Int)) = false := decide_eq_false c7
     clear c7
     have H' := Aside0.mk H
     clear H
     go_wp2
     go_loopg [5, 11] k1 (fun kq v5 v11 w' => ∃ (x5_2 : List (S70)) (x11_2 : Int), v11 = .int .i64 x11_2 ∧ Aside0 (galleyref13_Compose.l2 kq x5_2 x6_1 x11_2 = some r) ∧ Aside0 (kq ≤ k1) ∧ Aside0 (Kd.R k70 70 w' w.heap.size (fun k_ => some k_ ≠ (u6 : Value).ownBlock) v5 x5_2) ∧ Aside0 (Kd.Q k70 70 w' w.heap.size (fun k_ => some k_ ≠ (v5 : Value).ownBlock) u6 x6_1) ∧ Aside0 (Below w.heap.size w w'))
     case atStart => exact ⟨(x5_1), (0), (by first | rfl | (simp; done) | (simp [*]; done) | (simp; exact isEmpty_bne _)), H', ⟨Nat.le_refl _⟩, ⟨by (with_reducible repeat (first | apply Kd.R_alloc | apply Kd.R_drewN | apply Kd.R_drew)); exact HO_5.out⟩, ⟨by (with_reducible repeat (first | apply Kd.Q_alloc | apply Kd.Q_drewN | apply Kd.Q_drew)); exact HO_6.out⟩, ⟨by repeat (first | (with_reducible first | exact HB.out | apply below_alloc | apply pw_below_drewN | apply below_drew1) | exact HB.out)⟩⟩
     case round =>
      clear H'
      (try clear c1); (try clear q1); (try clear hx1); (try clear p2); (try clear q2); (try clear c3); (try clear p3); (try clear q3); (try clear hx3); (try clear qi3); (try clear hf3); (try clear c4); (try clear p4); (try clear q4); (try clear hx4); (try clear qi4); (try clear hf4); (try clear c5); (try clear hx5); (try clear hf5); (try clear c6); (try clear p6); (try clear q6); (try clear hx6); (try clear qi6); (try clear hf6); (try clear c7); (try clear c7b0); (try clear q7); (try clear hx7); (try clear hf7); (try clear c8); (try clear hx8); (try clear hf8); (try clear c9); (try clear p9); (try clear q9); (try clear hx9); (try clear qi9); (try clear hf9); (try clear c10); (try clear q10); (try clear hx10); (try clear hf10); (try clear c13); (try clear c13b0); (try clear c14); (try clear q25); (try clear c31); (try clear c31b0); (try clear c31b1); (try clear c32); (try clear c32b0); (try clear c33); (try clear c33b0); (try clear c35); (try clear c35b0); (try clear c35b1); (try clear c36); (try clear p36); (try clear q36); (try clear hx36); (try clear qi36); (try clear hf36); (try clear c37); (try clear c37b0); (try clear c37b1); (try clear c38); (try clear c38b0); (try clear c38b1); (try clear c39); (try clear c39b0); (try clear c39b1); (try clear p40); (try clear q40); (try clear hx40); (try clear p41); (try clear q41); (try clear hx41); (try clear p42); (try clear q42); (try clear hx42); (try clear qi42); (try clear p43); (try clear q43); (try clear hx43); (try clear qi43); (try clear c44); (try clear hx44); (try clear hf44); (try clear c46); (try clear q46); (try clear c51); (try clear hx51); (try clear hf51); (try clear c57); (try clear hx57); (try clear hf57); (try clear c59); (try clear c59b0); (try clear c60); (try clear c60b0); (try clear c61); (try clear c61b0); (try clear c61b1); (try clear c62); (try clear c62b0); (try clear c62b1); (try clear c63); (try clear c63b0); (try clear c63b1); (try clear p64); (try clear c65); (try clear c65b0); (try clear c66); (try clear c66b0); (try clear c67); (try clear c67b0); (try clear c67b1); (try clear c68); (try clear p68); (try clear q68); (try clear hx68); (try clear qi68); (try clear hf68); (try clear c69); (try clear c69b0); (try clear c69b1); (try clear c70); (try clear c70b0); (try clear c70b1); (try clear c71); (try clear c71b0); (try clear c71b1); (try clear c76); (try clear hx76); (try clear hf76); (try clear c78); (try clear q78); (try clear c83); (try clear hx83); (try clear hf83); (try clear c89); (try clear hx89); (try clear hf89); (try clear c91); (try clear c91b0); (try clear c91b1); (try clear c92); (try clear c92b0); (try clear c92b1); (try clear c93); (try clear c93b0); (try clear c93b1); (try clear c94); (try clear p94); (try clear q94); (try clear hx94); (try clear qi94); (try clear hf94); (try clear c95); (try clear c95b0); (try clear c95b1); (try clear c96); (try clear c96b0); (try clear c96b1); (try clear c97); (try clear c97b0); (try clear c97b1); (try clear c99); (try clear hx99); (try clear hf99); (try clear c101); (try clear q101); (try clear c103); (try clear hx103); (try clear hf103); (try clear c106); (try clear hx106); (try clear hf106); (try clear hcz102_0); (try clear hcz102_1); (try clear hcz102_2); (try clear hcz105_0); (try clear hcz105_1); (try clear hcz105_2); (try clear hcz20_0); (try clear hcz20_1); (try clear hcz20_2); (try clear hcz22_0); (try clear hcz22_1); (try clear hcz22_2); (try clear hcz29_0); (try clear hcz29_1); (try clear hcz29_2); (try clear hcz40_0); (try clear hcz40_1); (try clear hcz40_2); (try clear hcz43_0); (try clear hcz43_1); (try clear hcz43_2); (try clear hcz47_0); (try clear hcz47_1); (try clear hcz47_2); (try clear hcz50_0); (try clear hcz50_1); (try clear hcz50_2); (try clear hcz53_0); (try clear hcz53_1); (try clear hcz53_2); (try clear hcz56_0); (try clear hcz56_1); (try clear hcz56_2); (try clear hcz72_0); (try clear hcz72_1); (try clear hcz72_2); (try clear hcz75_0); (try clear hcz75_1); (try clear hcz75_2); (try clear hcz79_0); (try clear hcz79_1); (try clear hcz79_2); (try clear hcz82_0); (try clear hcz82_1); (try clear hcz82_2); (try clear hcz85_0); (try clear hcz85_1); (try clear hcz85_2); (try clear hcz88_0); (try clear hcz88_1); (try clear hcz88_2); (try clear hcz98_0); (try clear hcz98_1); (try clear hcz98_2); (try clear hfz102_0); (try clear hfz102_1); (try clear hfz102_2); (try clear hfz105_0); (try clear hfz105_1); (try clear hfz105_2); (try clear hfz20_0); (try clear hfz20_1); (try clear hfz20_2); (try clear hfz22_0); (try clear hfz22_1); (try clear hfz22_2); (try clear hfz29_0); (try clear hfz29_1); (try clear hfz29_2); (try clear hfz40_0); (try clear hfz40_1); (try clear hfz40_2); (try clear hfz43_0); (try clear hfz43_1); (try clear hfz43_2); (try clear hfz47_0); (try clear hfz47_1); (try clear hfz47_2); (try clear hfz50_0); (try clear hfz50_1); (try clear hfz50_2); (try clear hfz53_0); (try clear hfz53_1); (try clear hfz53_2); (try clear hfz56_0); (try clear hfz56_1); (try clear hfz56_2); (try clear hfz72_0); (try clear hfz72_1); (try clear hfz72_2); (try clear hfz75_0); (try clear hfz75_1); (try clear hfz75_2); (try clear hfz79_0); (try clear hfz79_1); (try clear hfz79_2); (try clear hfz82_0); (try clear hfz82_1); (try clear hfz82_2); (try clear hfz85_0); (try clear hfz85_1); (try clear hfz85_2); (try clear hfz88_0); (try clear hfz88_1); (try clear hfz88_2); (try clear hfz98_0); (try clear hfz98_1); (try clear hfz98_2); (try clear hx103_2); (try clear hx106_2); (try clear hx36_0); (try clear hx36_1); (try clear hx36_2); (try clear hx401_0); (try clear hx401_1); (try clear hx401_2); (try clear hx402_0); (try clear hx402_1); (try clear hx402_2); (try clear hx406_0); (try clear hx406_1); (try clear hx406_2); (try clear hx407_0); (try clear hx407_1); (try clear hx407_2); (try clear hx415_0); (try clear hx415_1); (try clear hx415_2); (try clear hx420_0); (try clear hx420_1); (try clear hx420_2); (try clear hx421_0); (try clear hx421_1); (try clear hx421_2); (try clear hx425_0); (try clear hx425_1); (try clear hx425_2); (try clear hx430_0); (try clear hx430_1); (try clear hx430_2); (try clear hx431_0); (try clear hx431_1); (try clear hx431_2); (try clear hx436_0); (try clear hx436_1); (try clear hx436_2); (try clear hx437_0); (try clear hx437_1); (try clear hx437_2); (try clear hx44_1); (try clear hx51_1); (try clear hx57_1); (try clear hx68_0); (try clear hx68_1); (try clear hx68_2); (try clear hx76_2); (try clear hx83_2); (try clear hx89_2); (try clear hx94_0); (try clear hx94_1); (try clear hx94_2); (try clear hx99_2); (try clear p2); (try clear p36); (try clear p4); (try clear p401); (try clear p402); (try clear p406); (try clear p407); (try clear p415); (try clear p420); (try clear p421); (try clear p425); (try clear p430); (try clear p431); (try clear p436); (try clear p437); (try clear p6); (try clear p68); (try clear p94); (try clear q101); (try clear q25); (try clear q36); (try clear q4); (try clear q401); (try clear q402); (try clear q406); (try clear q407); (try clear q415); (try clear q420); (try clear q421); (try clear q425); (try clear q430); (try clear q431); (try clear q436); (try clear q437); (try clear q46); (try clear q68); (try clear q78); (try clear q94)
      obtain ⟨x5_2, x11_2, rfl, HA, HK2, HO_5, HO_6, HB⟩ := hrel
      cases gk with
      | zero => exact absurd HA.out (by simp [galleyref13_Compose.l2])
      | succ k2 =>
       have H := HA.out
       clear HA
       simp only [galleyref13_Compose.l2] at H
       by_cases c108 : x11_2 < (x6_1.length : Int)
       ·
        rw [if_pos c108] at H
        have c108b0 : decide (x11_2 < (x6_1.length : Int)) = true := decide_eq_true c108
        clear c108
        by_cases c109 : 0 ≤ x11_2
        ·
         rw [if_pos c109] at H
         have c109b0 : decide (0 ≤ x11_2) = true := decide_eq_true c109
         clear c109
         replace H := Option.bind_eq_some_iff.mp H
         obtain ⟨t444, A1100, H⟩ := H
         replace H : (galleyref13_Compose.l2 k2 t444 x6_1 (wrap64 (x11_2 + 1))) = some r := H
         have A110 := Aside0.mk A1100
         clear A1100
         have H' := Aside0.mk H
         clear H
         obtain ⟨Ao111, co111, eo111, _⟩ := Kd.Q_slice HO_6.out
         subst eo111
         try go_wp2
         have n0_ := Aside0.mk (Kd.R_drew HO_5.out)
         have n1_ := Aside0.mk (Kd.Q_drew HO_6.out)
         have n2_ := Aside0.mk (below_drew1 HB.out)
         clear HO_5
         clear HO_6
         clear HB
         have HO_5 := n0_
         have HO_6 := n1_
         have HB := n2_
         clear n0_ n1_ n2_
         have p441 : 0 ≤ (x11_2 : Int) := of_decide_eq_true (by first | (with_reducible assumption) | assumption)
         have q441 : x11_2 < (x6_1.length : Int) := of_decide_eq_true (by first | (with_reducible assumption) | assumption)
         obtain ⟨ad441, e441, hx441_0, hx441_1, hx441_2⟩ := at_T70 (Kd.Q_reads' HO_6.out).2.2 x11_2 p441 q441
         cases e441
         replace p441 := eq_true p441
         replace q441 := eq_true q441
         have p442 : 0 ≤ (x11_2 : Int) := of_decide_eq_true (by first | (with_reducible assumption) | assumption)
         have q442 : x11_2 < (x6_1.length : Int) := of_decide_eq_true (by first | (with_reducible assumption) | assumption)
         obtain ⟨ad442, e442, hx442_0, hx442_1, hx442_2⟩ := at_T70 (Kd.Q_reads' HO_6.out).2.2 x11_2 p442 q442
         obtain rfl : ad441 = ad442 := (by injection e442)
         replace p442 := eq_true p442
         replace q442 := eq_true q442
         have p443 : 0 ≤ (x11_2 : Int) := of_decide_eq_true (by first | (with_reducible assumption) | assumption)
         have q443 : x11_2 < (x6_1.length : Int) := of_decide_eq_true (by first | (with_reducible assumption) | assumption)
         obtain ⟨ad443, e443, hx443_0, hx443_1, hx443_2⟩ := at_T70 (Kd.Q_reads' HO_6.out).2.2 x11_2 p443 q443
         obtain rfl : ad441 = ad443 := (by injection e443)
         replace p443 := eq_true p443
         replace q443 := eq_true q443
         obtain ⟨Ao113, co113, eo113⟩ := Kd.R_slice HO_5.out
         (first | subst eo113 | (injection eo113 with f1_ f2_ f3_; have f4_ := f1_.symm; have f5_ := f3_.symm; clear f1_ f2_ f3_; subst f4_; subst f5_))
         refine start_ (n := 18) (S := fun w' => w'.cell? (ad441.add ((x11_2).toNat * 3)) = some (.int .i64 ((rd_T70 x6_1 x11_2).f0)) ∧ w'.cell? ⟨(ad441.add ((x11_2).toNat * 3)).block, (ad441.add ((x11_2).toNat * 3)).off + 1, none⟩ = some (.int .i64 ((rd_T70 x6_1 x11_2).f1)) ∧ w'.cell? ⟨(ad441.add ((x11_2).toNat * 3)).block, (ad441.add ((x11_2).toNat * 3)).off + 2, none⟩ = some (.string ((rd_T70 x6_1 x11_2).f2)) ∧ w'.cell? (ad441.add ((x11_2).toNat * 3)) = some (.int .i64 ((rd_T70 x6_1 x11_2).f0)) ∧ w'.cell? ⟨(ad441.add ((x11_2).toNat * 3)).block, (ad441.add ((x11_2).toNat * 3)).off + 1, none⟩ = some (.int .i64 ((rd_T70 x6_1 x11_2).f1)) ∧ w'.cell? ⟨(ad441.add ((x11_2).toNat * 3)).block, (ad441.add ((x11_2).toNat * 3)).off + 2, none⟩ = some (.string ((rd_T70 x6_1 x11_2).f2)) ∧ w'.cell? (ad441.add ((x11_2).toNat * 3)) = some (.int .i64 ((rd_T70 x6_1 x11_2).f0)) ∧ w'.cell? ⟨(ad441.add ((x11_2).toNat * 3)).block, (ad441.add ((x11_2).toNat * 3)).off + 1, none⟩ = some (.int .i64 ((rd_T70 x6_1 x11_2).f1)) ∧ w'.cell? ⟨(ad441.add ((x11_2).toNat * 3)).block, (ad441.add ((x11_2).toNat * 3)).off + 2, none⟩ = some (.string ((rd_T70 x6_1 x11_2).f2))) (ds := []) #[false, false, false, false, false, false, false, false, false, false, false, false, false, false, false, false, false, false] (by kernel_rfl) rfl rfl ⟨hx441_0, hx441_1, hx441_2, hx442_0, hx442_1, hx442_2, hx443_0, hx443_1, hx443_2⟩ (fun hHeld => ?_); refine with_tabW galleyref13_Compose.tab29 galleyref13_Compose.bits29 (fun HT_ HW_ => ?_)
         generalize wr.drew = w112 at HO_5 HO_6 HB hx441_0 hx441_1 hx441_2 hx442_0 hx442_1 hx442_2 hx443_0 hx443_1 hx443_2 hHeld ⊢
         refine pure_ (i := 0) (N := some 123) (v := ?_) (a' := ?_) #[true, false, false, false, false, false, false, false, false, false, false, false, false, false, false, false, false, false] rfl rfl (any_of HT_.out (by kernel_rfl)) (fun _ _ _ h => h) (Or.inl ⟨by rfl, ?_⟩) ?_ ?_
         rotate_left
         ·
          intro w'
          go_simp
          with_reducible rfl
         rotate_left
         ·
          simp only [Act.put, List.setIfInBounds_toArray, List.set_cons_zero, List.set_cons_succ, i64_w, i32_w]
          rfl
         refine pure_ (i := 1) (N := some 124) (v := ?_) (a' := ?_) #[true, true, false, false, false, false, false, false, false, false, false, false, false, false, false, false, false, false] rfl rfl (any_of HT_.out (by kernel_rfl)) (fun _ _ _ h => h) (Or.inl ⟨by rfl, ?_⟩) ?_ ?_
         rotate_left
         ·
          intro w'
          go_simp
          with_reducible rfl
         rotate_left
         ·
          simp only [Act.put, List.setIfInBounds_toArray, List.set_cons_zero, List.set_cons_succ, i64_w, i32_w]
          rfl
         refine pure_ (i := 2) (N := some 125) (v := ?_) (a' := ?_) #[true, true, true, false, false, false, false, false, false, false, false, false, false, false, false, false, false, false] rfl rfl (any_of HT_.out (by kernel_rfl)) (fun _ _ _ h => h) (Or.inl ⟨by rfl, ?_⟩) ?_ ?_
         rotate_left
         ·
          intro w'
          go_simp
          with_reducible rfl
         rotate_left
         ·
          simp only [Act.put, List.setIfInBounds_toArray, List.set_cons_zero, List.set_cons_succ, i64_w, i32_w]
          rfl
         refine pure_ (i := 3) (N := some 126) (v := ?_) (a' := ?_) #[true, true, true, true, false, false, false, false, false, false, false, false, false, false, false, false, false, false] rfl rfl (any_of HT_.out (by kernel_rfl)) (fun _ _ _ h => h) (Or.inl ⟨by rfl, ?_⟩) ?_ ?_
         rotate_left
         ·
          intro w'
          go_simp
          with_reducible rfl
         rotate_left
         ·
          simp only [Act.put, List.setIfInBounds_toArray, List.set_cons_zero, List.set_cons_succ, i64_w, i32_w]
          rfl
         refine pure_ (i := 4) (N := some 127) (v := ?_) (a' := ?_) #[true, true, true, true, true, false, false, false, false, false, false, false, false, false, false, false, false, false] rfl rfl (any_of HT_.out (by kernel_rfl)) (fun _ _ _ h => h) (Or.inl ⟨by rfl, ?_⟩) ?_ ?_
         rotate_left
         ·
          intro w'
          go_simp
          with_reducible rfl
         rotate_left
         ·
          simp only [Act.put, List.setIfInBounds_toArray, List.set_cons_zero, List.set_cons_succ, i64_w, i32_w]
          rfl
         refine pure_ (i := 6) (N := some 129) (v := ?_) (a' := ?_) #[true, true, true, true, true, false, true, false, false, false, false, false, false, false, false, false, false, false] rfl rfl (any_of HT_.out (by kernel_rfl)) (fun _ _ _ h => h) (Or.inl ⟨by rfl, ?_⟩) ?_ ?_
         rotate_left
         ·
          intro w'
          go_simp
          with_reducible rfl
         rotate_left
         ·
          simp only [Act.put, List.setIfInBounds_toArray, List.set_cons_zero, List.set_cons_succ, i64_w, i32_w]
          rfl
         refine pure_ (i := 7) (N := some 130) (v := ?_) (a' := ?_) #[true, true, true, true, true, false, true, true, false, false, false, false, false, false, false, false, false, false] rfl rfl (any_of HT_.out (by kernel_rfl)) (fun _ _ _ h => h) (Or.inl ⟨by rfl, ?_⟩) ?_ ?_
         rotate_left
         ·
          intro w'
          go_simp
          with_reducible rfl
         rotate_left
         ·
          simp only [Act.put, List.setIfInBounds_toArray, List.set_cons_zero, List.set_cons_succ, i64_w, i32_w]
          rfl
         refine pure_ (i := 8) (N := some 131) (v := ?_) (a' := ?_) #[true, true, true, true, true, false, true, true, true, false, false, false, false, false, false, false, false, false] rfl rfl (any_of HT_.out (by kernel_rfl)) (fun _ _ _ h => h) (Or.inl ⟨by rfl, ?_⟩) ?_ ?_
         rotate_left
         ·
          intro w'
          go_simp
          with_reducible rfl
         rotate_left
         ·
          simp only [Act.put, List.setIfInBounds_toArray, List.set_cons_zero, List.set_cons_succ, i64_w, i32_w]
          rfl
         refine pure_ (i := 9) (N := some 132) (v := ?_) (a' := ?_) #[true, true, true, true, true, false, true, true, true, true, false, false, false, false, false, false, false, false] rfl rfl (any_of HT_.out (by kernel_rfl)) (fun _ _ _ h => h) (Or.inl ⟨by rfl, ?_⟩) ?_ ?_
         rotate_left
         ·
          intro w'
          go_simp
          with_reducible rfl
         rotate_left
         ·
          simp only [Act.put, List.setIfInBounds_toArray, List.set_cons_zero, List.set_cons_succ, i64_w, i32_w]
          rfl
         refine pure_ (i := 11) (N := some 134) (v := ?_) (a' := ?_) #[true, true, true, true, true, false, true, true, true, true, false, true, false, false, false, false, false, false] rfl rfl (any_of HT_.out (by kernel_rfl)) (fun _ _ _ h => h) (Or.inl ⟨by rfl, ?_⟩) ?_ ?_
         rotate_left
         ·
          intro w'
          go_simp
          with_reducible rfl
         rotate_left
         ·
          simp only [Act.put, List.setIfInBounds_toArray, List.set_cons_zero, List.set_cons_succ, i64_w, i32_w]
          rfl
         refine pure_ (i := 12) (N := some 135) (v := ?_) (a' := ?_) #[true, true, true, true, true, false, true, true, true, true, false, true, true, false, false, false, false, false] rfl rfl (any_of HT_.out (by kernel_rfl)) (fun _ _ _ h => h) (Or.inl ⟨by rfl, ?_⟩) ?_ ?_
         rotate_left
         ·
          intro w'
          go_simp
          with_reducible rfl
         rotate_left
         ·
          simp only [Act.put, List.setIfInBounds_toArray, List.set_cons_zero, List.set_cons_succ, i64_w, i32_w]
          rfl
         refine pure_ (i := 13) (N := some 136) (v := ?_) (a' := ?_) #[true, true, true, true, true, false, true, true, true, true, false, true, true, true, false, false, false, false] rfl rfl (any_of HT_.out (by kernel_rfl)) (fun _ _ _ h => h) (Or.inl ⟨by rfl, ?_⟩) ?_ ?_
         rotate_left
         ·
          intro w'
          go_simp
          with_reducible rfl
         rotate_left
         ·
          simp only [Act.put, List.setIfInBounds_toArray, List.set_cons_zero, List.set_cons_succ, i64_w, i32_w]
          rfl
         refine pure_ (i := 14) (N := some 137) (v := ?_) (a' := ?_) #[true, true, true, true, true, false, true, true, true, true, false, true, true, true, true, false, false, false] rfl rfl (any_of HT_.out (by kernel_rfl)) (fun _ _ _ h => h) (Or.inl ⟨by rfl, ?_⟩) ?_ ?_
         rotate_left
         ·
          intro w'
          go_simp
          with_reducible rfl
         rotate_left
         ·
          simp only [Act.put, List.setIfInBounds_toArray, List.set_cons_zero, List.set_cons_succ, i64_w, i32_w]
          rfl
         refine take_ (i := 5) (N := some 128) (v := ?_) (a' := ?_) #[true, true, true, true, true, true, true, true, true, true, false, true, true, true, true, false, false, false] rfl rfl (take_ofW HT_.out HW_.out (by kernel_rfl)) (fun _ _ _ h => h) (Or.inl ⟨by rfl, ?_⟩) hHeld ?_ ?_
         rotate_left
         ·
          rintro w' ⟨s0, s1, s2, s3, s4, s5, s6, s7, s8⟩
          go_simp
          with_reducible rfl
         rotate_left
         ·
          simp only [Act.put, List.setIfInBounds_toArray, List.set_cons_zero, List.set_cons_succ, i64_w, i32_w]
          rfl
         refine take_ (i := 10) (N := some 133) (v := ?_) (a' := ?_) #[true, true, true, true, true, true, true, true, true, true, true, true, true, true, true, false, false, false] rfl rfl (take_ofW HT_.out HW_.out (by kernel_rfl)) (fun _ _ _ h => h) (Or.inl ⟨by rfl, ?_⟩) hHeld ?_ ?_
         rotate_left
         ·
          rintro w' ⟨s0, s1, s2, s3, s4, s5, s6, s7, s8⟩
          go_simp
          with_reducible rfl
         rotate_left
         ·
          simp only [Act.put, List.setIfInBounds_toArray, List.set_cons_zero, List.set_cons_succ, i64_w, i32_w]
          rfl
         refine take_ (i := 15) (N := some 138) (v := ?_) (a' := ?_) #[true, true, true, true, true, true, true, true, true, true, true, true, true, true, true, true, false, false] rfl rfl (take_ofW HT_.out HW_.out (by kernel_rfl)) (fun _ _ _ h => h) (Or.inl ⟨by rfl, ?_⟩) hHeld ?_ ?_
         rotate_left
         ·
          rintro w' ⟨s0, s1, s2, s3, s4, s5, s6, s7, s8⟩
          go_simp
          with_reducible rfl
         rotate_left
         ·
          simp only [Act.put, List.setIfInBounds_toArray, List.set_cons_zero, List.set_cons_succ, i64_w, i32_w]
          rfl
         refine one_ (i := 16) (N := some 139) #[true, true, true, true, true, true, true, true, true, true, true, true, true, true, true, true, true, false] rfl rfl (one_of HT_.out (by kernel_rfl)) (by decide) (fun K hK => ?_)
         refine goes_ Try.func78 (by kernel_rfl) rfl #[.slice Ao113 x5_2.length co113, .int .i64 ((rd_T70 x6_1 x11_2).f0), .int .i64 ((rd_T70 x6_1 x11_2).f1), .string ((rd_T70 x6_1 x11_2).f2)] (by rfl) rfl rfl (by (try simp only [List.map_toArray, List.map_cons, List.map_nil]); first | done | rfl | (simp only [List.length_drop, List.length_take]; rfl)) ?_
         with_reducible refine (galleyref13_add.calls k2 (fun k_ => some k_ = (.slice Ao113 x5_2.length co113 : Value).ownBlock) (.slice Ao113 x5_2.length co113) x5_2 ((rd_T70 x6_1 x11_2).f0) ((rd_T70 x6_1 x11_2).f1) ((rd_T70 x6_1 x11_2).f2) t444 w _ ?side1 ?side2 A110.out).mono ?_
         (case side1 => repeat (first | (with_reducible first | exact HB.out | apply below_alloc | apply pw_below_drewN | apply below_drew1) | exact HB.out))
         (case side2 => exact Kd.R_tight rfl HO_5.out)
         rintro e w114 ⟨v445, rfl, ho0, hb, hkp⟩
         have HS0_ := cell_kept (hHeld.1) hkp (by first | (rw [add_block]; exact (fun hs_ => (((HO_6.out).1 _ rfl)) hs_)) | (show ¬ _; simp only [add_block]; exact (fun hs_ => (((HO_6.out).1 _ rfl)) hs_)) | exact (fun hs_ => (((HO_6.out).1 _ rfl)) hs_))
         have HS1_ := cell_kept (hHeld.2.1) hkp (by first | (rw [add_block]; exact (fun hs_ => (((HO_6.out).1 _ rfl)) hs_)) | (show ¬ _; simp only [add_block]; exact (fun hs_ => (((HO_6.out).1 _ rfl)) hs_)) | exact (fun hs_ => (((HO_6.out).1 _ rfl)) hs_))
         have HS2_ := cell_kept (hHeld.2.2.1) hkp (by first | (rw [add_block]; exact (fun hs_ => (((HO_6.out).1 _ rfl)) hs_)) | (show ¬ _; simp only [add_block]; exact (fun hs_ => (((HO_6.out).1 _ rfl)) hs_)) | exact (fun hs_ => (((HO_6.out).1 _ rfl)) hs_))
         have HS3_ := cell_kept (hHeld.2.2.2.1) hkp (by first | (rw [add_block]; exact (fun hs_ => (((HO_6.out).1 _ rfl)) hs_)) | (show ¬ _; simp only [add_block]; exact (fun hs_ => (((HO_6.out).1 _ rfl)) hs_)) | exact (fun hs_ => (((HO_6.out).1 _ rfl)) hs_))
         have HS4_ := cell_kept (hHeld.2.2.2.2.1) hkp (by first | (rw [add_block]; exact (fun hs_ => (((HO_6.out).1 _ rfl)) hs_)) | (show ¬ _; simp only [add_block]; exact (fun hs_ => (((HO_6.out).1 _ rfl)) hs_)) | exact (fun hs_ => (((HO_6.out).1 _ rfl)) hs_))
         have HS5_ := cell_kept (hHeld.2.2.2.2.2.1) hkp (by first | (rw [add_block]; exact (fun hs_ => (((HO_6.out).1 _ rfl)) hs_)) | (show ¬ _; simp only [add_block]; exact (fun hs_ => (((HO_6.out).1 _ rfl)) hs_)) | exact (fun hs_ => (((HO_6.out).1 _ rfl)) hs_))
         have HS6_ := cell_kept (hHeld.2.2.2.2.2.2.1) hkp (by first | (rw [add_block]; exact (fun hs_ => (((HO_6.out).1 _ rfl)) hs_)) | (show ¬ _; simp only [add_block]; exact (fun hs_ => (((HO_6.out).1 _ rfl)) hs_)) | exact (fun hs_ => (((HO_6.out).1 _ rfl)) hs_))
         have HS7_ := cell_kept (hHeld.2.2.2.2.2.2.2.1) hkp (by first | (rw [add_block]; exact (fun hs_ => (((HO_6.out).1 _ rfl)) hs_)) | (show ¬ _; simp only [add_block]; exact (fun hs_ => (((HO_6.out).1 _ rfl)) hs_)) | exact (fun hs_ => (((HO_6.out).1 _ rfl)) hs_))
         have HS8_ := cell_kept (hHeld.2.2.2.2.2.2.2.2) hkp (by first | (rw [add_block]; exact (fun hs_ => (((HO_6.out).1 _ rfl)) hs_)) | (show ¬ _; simp only [add_block]; exact (fun hs_ => (((HO_6.out).1 _ rfl)) hs_)) | exact (fun hs_ => (((HO_6.out).1 _ rfl)) hs_))
         refine ⟨_, rfl, ?_⟩
         have n0_ := Aside0.mk (Kd.Q_mono (ok' := fun k_ => some k_ ≠ (v445 : Value).ownBlock) (Kd.Q_keptB (HO_6.out) hkp (fun k_ hk_ hs_ => (hk_) hs_)) (fun k_ hk_ => fun e_ => Or.elim (ho0.1 k_ e_.symm) (fun hs_ => hk_.2.1 hs_) (fun hn_ => Nat.not_le.2 hk_.2.2 hn_)))
         have n1_ := Aside0.mk (Kd.R_mono (ok' := fun k_ => some k_ ≠ (.slice (some ad441) x6_1.length co111 : Value).ownBlock) ho0 (fun k_ hk_ => Or.elim hk_ (fun hs_ => fun e_ => (((HO_6.out).1 k_ e_.symm)) hs_) (fun hn_ => (Kd.fresh' (Kd.Q_lt (by (with_reducible repeat (first | apply Kd.Q_alloc | apply Kd.Q_drewN | apply Kd.Q_drew)); exact HO_6.out)) k_ hn_))))
         have n2_ := Aside0.mk (hb)
         clear HO_6
         clear HB
         clear HO_5
         have HO_6 := n0_
         have HO446 := n1_
         have HB := n2_
         clear n0_ n1_ n2_
         (try clear hb)
         (try clear hkp)
         (try clear ho0)
         refine hK.out _ _ ⟨HS0_, HS1_, HS2_, HS3_, HS4_, HS5_, HS6_, HS7_, HS8_⟩ (fun hHeld => ?_)
         clear hK K
         refine norm_ (a' := ?_) ?_ ?_
         rotate_left
         ·
          show Act.put _ (some 139) _ = _
          simp only [Act.put, List.setIfInBounds_toArray, List.set_cons_zero, List.set_cons_succ, i64_w, i32_w]
          rfl
         refine pure_ (i := 17) (N := some 5) (v := ?_) (a' := ?_) #[true, true, true, true, true, true, true, true, true, true, true, true, true, true, true, true, true, true] rfl rfl (any_of HT_.out (by kernel_rfl)) (fun _ _ _ h => h) (Or.inl ⟨by rfl, ?_⟩) ?_ ?_
         rotate_left
         ·
          intro w'
          go_simp
          with_reducible rfl
         rotate_left
         ·
          simp only [Act.put, List.setIfInBounds_toArray, List.set_cons_zero, List.set_cons_succ, i64_w, i32_w]
          rfl
         refine done_ (done_of HT_.out (by kernel_rfl)) ?_
         try go_wp2
         go_roundg k2
         case measure => have := HK1.out; have := HK2.out; omega
         case rel => exact ⟨(t444), (wrap64 (x11_2 + 1)), (by first | rfl | (simp; done) | (simp [*]; done) | (simp; exact isEmpty_bne _)), H', ⟨by have := HK1.out; have := HK2.out; omega⟩, ⟨by (with_reducible repeat (first | apply Kd.R_alloc | apply Kd.R_drewN | apply Kd.R_drew)); exact HO446.out⟩, ⟨by (with_reducible repeat (first | apply Kd.Q_alloc | apply Kd.Q_drewN | apply Kd.Q_drew)); exact HO_6.out⟩, ⟨by repeat (first | (with_reducible first | exact HB.out | apply below_alloc | apply pw_below_drewN | apply below_drew1) | exact HB.out)⟩⟩
        ·
         rw [if_neg c109] at H
         exact absurd H (by simp)
       ·
        rw [if_neg c108] at H
        have c108b0 : decide (x11_2 < (x6_1.length : Int)) = false := decide_eq_false c108
        clear c108
        obtain rfl := Option.some.inj H
        obtain ⟨Ao115, co115, eo115, _⟩ := Kd.Q_slice HO_6.out
        subst eo115
        go_wp2
        go_ret
        exact ⟨_, by first | rfl | (simp [errW_none, errW_some] <;> rfl) | (simp [*, errW_none, errW_some] <;> rfl), by (with_reducible repeat (first | apply Kd.R_alloc | apply Kd.R_drewN | apply Kd.R_drew)); exact Kd.R_mono HO_5.out (fun _ hk => trivial), by repeat (first | (with_reducible first | exact HB.out | apply below_alloc | apply pw_below_drewN | apply below_drew1) | exact HB.out)⟩
 ·
  rw [if_neg c3] at H
  exact absurd H (by simp)

end Go.Proofs.Ytidihnnkcmeaeaa.A
