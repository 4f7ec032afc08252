-- Written by a program over the translation (the kit's print, turned so that some functions are taken by contracts of this claim's own).
import Derived.Test.YtidihnnkcmeaeaaA0
import Derived.Test.YtidihnnkcmeaeaaB
import Derived.Test.YtidihnnkcmeaeaaA16
namespace Go.Proofs.Ytidihnnkcmeaeaa.A
open Go.RowKit Go.Proofs.YtidihnnkcmeaeaaW.PrintWords Go.Proofs.YtidihnnkcmeaeaaW.PrintLast Go.Proofs.YtidihnnkcmeaeaaW.PrintMore
attribute [local go_sem] max2_int min2_int max_two min_two max_three min_three max_four min_four   -- for this text's walks alone
set_option linter.unusedVariables false
set_option linter.unusedSimpArgs false

theorem wrap64_zero' : wrap64 0 = 0 := by unfold wrap64; omega
/-! ### galleylaw13_fit: function 48 -/
def galleylaw13_fit.l0 : Nat → List (S70) → Int → List (S70) → Int → Option ((List (S70)))
 | 0, _, _, _, _ => none
 | k + 1, x0, x1, x5, x6 => if x6 < (x0.length : Int) then (if 0 ≤ x6 then (if ((rd_T70 x0 x6).f0) = 2 then (if x5.length < 4398046511104 then (galleylaw13_fit.l0 k x0 x1 (x5 ++ [(⟨(rd_T70 x0 x6).f0, (rd_T70 x0 x6).f1, (rd_T70 x0 x6).f2⟩ : S70)]) (wrap64 (x6 + 1))) else (none)) else (if ((rd_T70 x0 x6).f1) > x1 then (if x1 > 0 then (if x5.length < 4398046511104 then (galleylaw13_fit.l0 k x0 (wrap64 (x1 - x1)) (x5 ++ [(⟨(rd_T70 x0 x6).f0, x1, (rd_T70 x0 x6).f2⟩ : S70)]) (wrap64 (x6 + 1))) else (none)) else (galleylaw13_fit.l0 k x0 x1 x5 (wrap64 (x6 + 1)))) else (if ((rd_T70 x0 x6).f1) > 0 then (if x5.length < 4398046511104 then (galleylaw13_fit.l0 k x0 (wrap64 (x1 - ((rd_T70 x0 x6).f1))) (x5 ++ [(⟨(rd_T70 x0 x6).f0, (rd_T70 x0 x6).f1, (rd_T70 x0 x6).f2⟩ : S70)]) (wrap64 (x6 + 1))) else (none)) else (galleylaw13_fit.l0 k x0 x1 x5 (wrap64 (x6 + 1)))))) else (none)) else (if x5.length < 4398046511104 then ((galleyref13_Canon.f k (x5 ++ [(⟨1, x1, (⟨#[]⟩ : ByteArray)⟩ : S70)])).bind fun bt608 => (if bt608.2 = 0 then (some bt608.1) else ((galleyref13_Canon.f k (([(⟨1, x1, (⟨#[]⟩ : ByteArray)⟩ : S70)] : List (S70)))).bind fun bt615 => (some bt615.1)))) else (none))
def galleylaw13_fit.f (k : Nat) (l0 : List (S70)) (a1 : Int) : Option ((List (S70))) := galleylaw13_fit.l0 k l0 a1 ([] : List (S70)) 0
set_option maxHeartbeats 8000000 in
set_option maxRecDepth 100000 in
theorem galleylaw13_fit.calls (k : Nat) (A0 : Option Addr) (c0 : Nat) (l0 : List (S70)) (a1 : Int) (r : List (S70)) (w : World) (hr0 : Kd.C k70 w A0 l0.length l0) (hc0 : l0.length ≤ c0) (h : galleylaw13_fit.f k l0 a1 = some r) :
  Calls Try.prog 48 #[.slice A0 l0.length c0, .int .i64 a1] w fun e w' => ∃ v0_ : Value, e = .returned (v0_) ∧ Kd.R k70 70 w' w.heap.size (fun _ => True) v0_ r ∧ Below w.heap.size w w' := by
 have hu70 := Try.underlying70
 have HR0 := Aside0.mk hr0
 have HC0 := Aside0.mk hc0
 clear hr0 hc0
 have HB := Aside0.mk (Below.refl w.heap.size w)
 have H : (galleylaw13_fit.l0 k l0 a1 ([] : List (S70)) 0) = some r := h
 clear h
 have H' := Aside0.mk H
 clear H
 go_enter Try.func48, Try.ntmps48
 go_wp2
 go_loopg [1, 5, 6] k (fun kq v1 v5 v6 w' => ∃ (x1_1 : Int) (x5_1 : List (S70)) (x6_1 : Int), v1 = .int .i64 x1_1 ∧ v6 = .int .i64 x6_1 ∧ Aside0 (galleylaw13_fit.l0 kq l0 x1_1 x5_1 x6_1 = some r) ∧ Aside0 (kq ≤ k) ∧ Aside0 (Kd.R k70 70 w' w.heap.size (fun _ => True) v5 x5_1) ∧ Aside0 (Below w.heap.size w w'))
 case atStart => exact ⟨(a1), (([] : List (S70))), (0), (by first | rfl | (simp; done) | (simp [*]; done) | (simp; exact isEmpty_bne _)), (by first | rfl | (simp; done) | (simp [*]; done) | (simp; exact isEmpty_bne _)), H', ⟨Nat.le_refl _⟩, ⟨by first | exact Kd.R_nil _ _ _ _ _ | exact Kd.N_nil _ _ _ _ _ | exact Kd.V_nil _ _ _ _ _ | exact Kd.Q_nil _ _ _ _ _ | exact Kd.S_nil _ _ _ _ _⟩, ⟨by repeat (first | (with_reducible first | exact HB.out | apply below_alloc | apply pw_below_drewN | apply below_drew1) | exact HB.out)⟩⟩
 case round =>
  clear H'
  (try clear p2)
  obtain ⟨x1_1, x5_1, x6_1, rfl, rfl, HA, HK1, HO_5, HB⟩ := hrel
  cases gk with
  | zero => exact absurd HA.out (by simp [galleylaw13_fit.l0])
  | succ k1 =>
   have H := HA.out
   clear HA
   simp only [galleylaw13_fit.l0] at H
   by_cases c3 : x6_1 < (l0.length : Int)
   ·
    rw [if_pos c3] at H
    have c3b0 : decide (x6_1 < (l0.length : Int)) = true := decide_eq_true c3
    clear c3
    by_cases c4 : 0 ≤ x6_1
    ·
     rw [if_pos c4] at H
     have c4b0 : decide (0 ≤ x6_1) = true := decide_eq_true c4
     clear c4
     by_cases c5 : ((rd_T70 l0 x6_1).f0) = 2
     ·
      rw [if_pos c5] at H
      have c5b0 : (((rd_T70 l0 x6_1).f0) == 2) = true := beq_iff_eq.mpr c5
      have c5b1 : (((rd_T70 l0 x6_1).f0) != 2) = false := bne_eq_false_iff_eq.mpr c5
      clear c5
      by_cases c6 : x5_1.length < 4398046511104
      ·
       rw [if_pos c6] at H
       have LMc6 := Aside0.mk c6
       clear c6
       obtain ⟨y596, hy596⟩ : ∃ y_ : List (S70), y_ = (x5_1 ++ [(⟨(rd_T70 l0 x6_1).f0, (rd_T70 l0 x6_1).f1, (rd_T70 l0 x6_1).f2⟩ : S70)]) := ⟨_, rfl⟩
       replace H : (galleylaw13_fit.l0 k1 l0 x1_1 y596 (wrap64 (x6_1 + 1))) = some r := by first | (rw [hy596]; with_reducible exact H) | (have H2_ := (Option.bind_some _ _).symm.trans H; rw [hy596]; with_reducible exact H2_) | (have H2_ := (Option.bind_some _ _).symm.trans H; with_reducible exact H2_) | with_reducible exact H | (rw [hy596]; exact H) | exact H
       have Ny596 := Aside0.mk hy596
       clear hy596
       have H' := Aside0.mk H
       clear H
       have p594 : 0 ≤ (x6_1 : Int) := of_decide_eq_true (by first | (with_reducible assumption) | assumption)
       have q594 : x6_1 < (l0.length : Int) := of_decide_eq_true (by first | (with_reducible assumption) | assumption)
       obtain ⟨ad594, e594, hx594_0, hx594_1, hx594_2⟩ := at_T70 HR0.out x6_1 p594 q594
       cases e594
       replace hx594_0 := (HB.out.cell (World.block_lt_of_cell? w _ hx594_0)).trans hx594_0
       replace hx594_1 := (HB.out.cell (World.block_lt_of_cell? w _ hx594_1)).trans hx594_1
       replace hx594_2 := (HB.out.cell (World.block_lt_of_cell? w _ hx594_2)).trans hx594_2
       replace p594 := eq_true p594
       replace q594 := eq_true q594
       go_wp2_with (first | ((with_reducible refine gate_dst (N := 7) rfl ?_); refine box_event ?hg (N := 7) ?hd (cs := #[.int .i64 0, .int .i64 0, .string (⟨#[]⟩ : ByteArray)]) (t := 70) ?hr ?_; (case hd => rfl); (case hg => rfl); (case hr => first | (go_simp; done) | (go_simp; rfl)); intro gb595 hg w7 hbox hb; have n0_ := Aside0.mk (Kd.R_below (Kd.R_elderB (by (with_reducible repeat (first | apply Kd.R_alloc | apply Kd.R_drewN | apply Kd.R_drew)); exact HO_5.out) gb595 (Nat.le_of_eq hg.symm)) hb); have n1_ := Aside0.mk (below_step (by repeat (first | (with_reducible first | exact HB.out | apply below_alloc | apply pw_below_drewN | apply below_drew1) | exact HB.out)) hb); have n2_ := Aside0.mk (hbox); have n3_ := Aside0.mk ((by rw [hg]; exact (below_size (by repeat (first | (with_reducible first | exact HB.out | apply below_alloc | apply pw_below_drewN | apply below_drew1) | exact HB.out))) : w.heap.size ≤ gb595)); have n4_ := Aside0.mk ((by rw [hg]; exact (below_size (by repeat (first | (with_reducible first | exact HB.out | apply below_alloc | apply pw_below_drewN | apply below_drew1) | exact HB.out))) : w.heap.size ≤ gb595)); clear HO_5; clear HB; have HO_5 := n0_; have HB := n1_; have BK595 := n2_; have GW595 := n3_; have GE595 := n4_; clear n0_ n1_ n2_ n3_ n4_; clear hb hbox hg; have hcz8_0 : w7.cell? ⟨gb595, 0, none⟩ = some (.int .i64 0) := (blk_cell BK595.out 0).trans rfl; have hcz8_1 : w7.cell? ⟨gb595, 1, none⟩ = some (.int .i64 0) := (blk_cell BK595.out 1).trans rfl; have hcz8_2 : w7.cell? ⟨gb595, 2, none⟩ = some (.string (⟨#[]⟩ : ByteArray)) := (blk_cell BK595.out 2).trans rfl; have hfz8_0 := blk_frozen BK595.out 0; have hfz8_1 := blk_frozen BK595.out 1; have hfz8_2 := blk_frozen BK595.out 2) | ((with_reducible refine gate_builtin (b := .append) (xs := #[.tmp 23, .tmp 25]) rfl ?_); at_builtin; refine Kd.R_append k70 (w0 := w) w.heap.size rfl (.tmp 23) (.tmp 25) 25 70 (.agg #[(.int .i64 0), (.int .i64 0), (.string ⟨#[]⟩)]) 32 rfl Try.underlying25 info70 rfl (by decide) (by omega) u5 x5_1 (⟨(rd_T70 l0 x6_1).f0, (rd_T70 l0 x6_1).f1, (rd_T70 l0 x6_1).f2⟩ : S70) [.int .i64 ((rd_T70 l0 x6_1).f0), .int .i64 ((rd_T70 l0 x6_1).f1), .string ((rd_T70 l0 x6_1).f2)] (fun k_ => k_ ≠ gb595) (fun _ => False) rfl (by first | (go_simp; done) | (go_simp; rfl)) ?aP (fun _ hk => hk.elim) ?aF ?aO ?aB ?aS ?aL ?_; (case aP => exact k70_mkM _ _ _ (⟨(rd_T70 l0 x6_1).f0, (rd_T70 l0 x6_1).f1, (rd_T70 l0 x6_1).f2⟩ : S70)); (case aB => exact (by repeat (first | (with_reducible first | exact HB.out | apply below_alloc | apply pw_below_drewN | apply below_drew1 | refine below_set ?_ GE595.out) | exact HB.out))); (case aF => exact (fun k_ hk => Kd.freshB (g := gb595) (o := .cells #[.int .i64 ((rd_T70 l0 x6_1).f0), .int .i64 ((rd_T70 l0 x6_1).f1), .string ((rd_T70 l0 x6_1).f2)] 70 (0, 0)) (by (with_reducible repeat (first | refine blk_drewN ?_ _ | refine blk_drew ?_ | refine blk_alloc ?_ _)); refine blk_put (cs := #[.int .i64 ((rd_T70 l0 x6_1).f0), .int .i64 ((rd_T70 l0 x6_1).f1), .string (⟨#[]⟩ : ByteArray)]) ?_ 2 _ rfl; (with_reducible repeat (first | refine blk_drewN ?_ _ | refine blk_drew ?_ | refine blk_alloc ?_ _)); refine blk_put (cs := #[.int .i64 ((rd_T70 l0 x6_1).f0), .int .i64 0, .string (⟨#[]⟩ : ByteArray)]) ?_ 1 _ rfl; (with_reducible repeat (first | refine blk_drewN ?_ _ | refine blk_drew ?_ | refine blk_alloc ?_ _)); refine blk_put (cs := #[.int .i64 0, .int .i64 0, .string (⟨#[]⟩ : ByteArray)]) ?_ 0 _ rfl; (with_reducible repeat (first | refine blk_drewN ?_ _ | refine blk_drew ?_ | refine blk_alloc ?_ _)); exact BK595.out) k_ hk)); (case aO => exact (by (with_reducible repeat (first | apply Kd.R_alloc | apply Kd.R_drewN | apply Kd.R_drew)); exact Kd.R_mono (Kd.R_far (p := ⟨gb595, 2, none⟩) (Kd.R_far (p := ⟨gb595, 1, none⟩) (Kd.R_far (p := ⟨gb595, 0, none⟩) (Kd.R_mono HO_5.out (fun k_ hk => (⟨hk, hk.2⟩ : _ ∧ k_ ≠ gb595))) (fun _ hk => hk.2) (.int .i64 ((rd_T70 l0 x6_1).f0))) (fun _ hk => hk.2) (.int .i64 ((rd_T70 l0 x6_1).f1))) (fun _ hk => hk.2) (.string ((rd_T70 l0 x6_1).f2))) (fun _ hk => hk.1.2))); (case aS => exact (below_size (by repeat (first | (with_reducible first | exact HB.out | apply below_alloc | apply pw_below_drewN | apply below_drew1 | refine below_set ?_ GE595.out) | exact HB.out)))); (case aL => have := LMc6.out; omega); intro v597 w9 ho hb hg hat; rw [← Ny596.out] at ho; have n0_ := Aside0.mk (blk_grown (g := gb595) (o := .cells #[.int .i64 ((rd_T70 l0 x6_1).f0), .int .i64 ((rd_T70 l0 x6_1).f1), .string ((rd_T70 l0 x6_1).f2)] 70 (0, 0)) (by (with_reducible repeat (first | refine blk_drewN ?_ _ | refine blk_drew ?_ | refine blk_alloc ?_ _)); refine blk_put (cs := #[.int .i64 ((rd_T70 l0 x6_1).f0), .int .i64 ((rd_T70 l0 x6_1).f1), .string (⟨#[]⟩ : ByteArray)]) ?_ 2 _ rfl; (with_reducible repeat (first | refine blk_drewN ?_ _ | refine blk_drew ?_ | refine blk_alloc ?_ _)); refine blk_put (cs := #[.int .i64 ((rd_T70 l0 x6_1).f0), .int .i64 0, .string (⟨#[]⟩ : ByteArray)]) ?_ 1 _ rfl; (with_reducible repeat (first | refine blk_drewN ?_ _ | refine blk_drew ?_ | refine blk_alloc ?_ _)); refine blk_put (cs := #[.int .i64 0, .int .i64 0, .string (⟨#[]⟩ : ByteArray)]) ?_ 0 _ rfl; (with_reducible repeat (first | refine blk_drewN ?_ _ | refine blk_drew ?_ | refine blk_alloc ?_ _)); exact BK595.out) hg (Kd.R_away HO_5.out (fun _ hk => hk.2))); have n1_ := Aside0.mk (hb); have n2_ := Aside0.mk (ho); clear BK595; clear HB; clear HO_5; have BK595 := n0_; have HB := n1_; have HO598 := n2_; clear n0_ n1_ n2_; clear ho hb hg hat))
       go_roundg k1
       case measure => have := HK1.out; omega
       case rel => exact ⟨(x1_1), (y596), (wrap64 (x6_1 + 1)), (by first | rfl | (simp; done) | (simp [*]; done) | (simp; exact isEmpty_bne _)), (by first | rfl | (simp; done) | (simp [*]; done) | (simp; exact isEmpty_bne _)), H', ⟨by have := HK1.out; omega⟩, ⟨by (with_reducible repeat (first | apply Kd.R_alloc | apply Kd.R_drewN | apply Kd.R_drew)); exact Kd.R_mono HO598.out (fun _ hk => trivial)⟩, ⟨by repeat (first | (with_reducible first | exact HB.out | apply below_alloc | apply pw_below_drewN | apply below_drew1 | refine below_set ?_ GE595.out) | exact HB.out)⟩⟩
      ·
       rw [if_neg c6] at H
       exact absurd H (by simp)
     ·
      rw [if_neg c5] at H
      have c5b0 : (((rd_T70 l0 x6_1).f0) == 2) = false := beq_eq_false_iff_ne.mpr c5
      have c5b1 : (((rd_T70 l0 x6_1).f0) != 2) = true := bne_iff_ne.mpr c5
      by_cases c10 : ((rd_T70 l0 x6_1).f1) > x1_1
      ·
       rw [if_pos c10] at H
       have c10b0 : decide (x1_1 < ((rd_T70 l0 x6_1).f1)) = true := decide_eq_true c10
       clear c10
       by_cases c11 : x1_1 > 0
       ·
        rw [if_pos c11] at H
        have c11b0 : decide (0 < x1_1) = true := decide_eq_true c11
        clear c11
        by_cases c12 : x5_1.length < 4398046511104
        ·
         rw [if_pos c12] at H
         have LMc12 := Aside0.mk c12
         clear c12
         obtain ⟨y599, hy599⟩ : ∃ y_ : List (S70), y_ = (x5_1 ++ [(⟨(rd_T70 l0 x6_1).f0, x1_1, (rd_T70 l0 x6_1).f2⟩ : S70)]) := ⟨_, rfl⟩
         replace H : (galleylaw13_fit.l0 k1 l0 (wrap64 (x1_1 - x1_1)) y599 (wrap64 (x6_1 + 1))) = some r := by first | (rw [hy599]; with_reducible exact H) | (have H2_ := (Option.bind_some _ _).symm.trans H; rw [hy599]; with_reducible exact H2_) | (have H2_ := (Option.bind_some _ _).symm.trans H; with_reducible exact H2_) | with_reducible exact H | (rw [hy599]; exact H) | exact H
         have Ny599 := Aside0.mk hy599
         clear hy599
         have H' := Aside0.mk H
         clear H
         have p594 : 0 ≤ (x6_1 : Int) := of_decide_eq_true (by first | (with_reducible assumption) | assumption)
         have q594 : x6_1 < (l0.length : Int) := of_decide_eq_true (by first | (with_reducible assumption) | assumption)
         obtain ⟨ad594, e594, hx594_0, hx594_1, hx594_2⟩ := at_T70 HR0.out x6_1 p594 q594
         cases e594
         replace hx594_0 := (HB.out.cell (World.block_lt_of_cell? w _ hx594_0)).trans hx594_0
         replace hx594_1 := (HB.out.cell (World.block_lt_of_cell? w _ hx594_1)).trans hx594_1
         replace hx594_2 := (HB.out.cell (World.block_lt_of_cell? w _ hx594_2)).trans hx594_2
         replace p594 := eq_true p594
         replace q594 := eq_true q594
         go_wp2_with (first | ((with_reducible refine gate_dst (N := 7) rfl ?_); refine box_event ?hg (N := 7) ?hd (cs := #[.int .i64 0, .int .i64 0, .string (⟨#[]⟩ : ByteArray)]) (t := 70) ?hr ?_; (case hd => rfl); (case hg => rfl); (case hr => first | (go_simp; done) | (go_simp; rfl)); intro gb595 hg w13 hbox hb; have n0_ := Aside0.mk (Kd.R_below (Kd.R_elderB (by (with_reducible repeat (first | apply Kd.R_alloc | apply Kd.R_drewN | apply Kd.R_drew)); exact HO_5.out) gb595 (Nat.le_of_eq hg.symm)) hb); have n1_ := Aside0.mk (below_step (by repeat (first | (with_reducible first | exact HB.out | apply below_alloc | apply pw_below_drewN | apply below_drew1) | exact HB.out)) hb); have n2_ := Aside0.mk (hbox); have n3_ := Aside0.mk ((by rw [hg]; exact (below_size (by repeat (first | (with_reducible first | exact HB.out | apply below_alloc | apply pw_below_drewN | apply below_drew1) | exact HB.out))) : w.heap.size ≤ gb595)); have n4_ := Aside0.mk ((by rw [hg]; exact (below_size (by repeat (first | (with_reducible first | exact HB.out | apply below_alloc | apply pw_below_drewN | apply below_drew1) | exact HB.out))) : w.heap.size ≤ gb595)); clear HO_5; clear HB; have HO_5 := n0_; have HB := n1_; have BK595 := n2_; have GW595 := n3_; have GE595 := n4_; clear n0_ n1_ n2_ n3_ n4_; clear hb hbox hg; have hcz14_0 : w13.cell? ⟨gb595, 0, none⟩ = some (.int .i64 0) := (blk_cell BK595.out 0).trans rfl; have hcz14_1 : w13.cell? ⟨gb595, 1, none⟩ = some (.int .i64 0) := (blk_cell BK595.out 1).trans rfl; have hcz14_2 : w13.cell? ⟨gb595, 2, none⟩ = some (.string (⟨#[]⟩ : ByteArray)) := (blk_cell BK595.out 2).trans rfl; have hfz14_0 := blk_frozen BK595.out 0; have hfz14_1 := blk_frozen BK595.out 1; have hfz14_2 := blk_frozen BK595.out 2; have hczz : ((((w13.setCell ⟨gb595, 0, none⟩ (.int .i64 ((rd_T70 l0 x6_1).f0))).setCell ⟨gb595, 1, none⟩ (.int .i64 ((rd_T70 l0 x6_1).f1))).setCell ⟨gb595, 2, none⟩ (.string ((rd_T70 l0 x6_1).f2))).setCell ⟨gb595, 1, none⟩ (.int .i64 x1_1)).cell? ⟨gb595, 1, none⟩ = some (.int .i64 x1_1) := World.cell?_setCell_same _ _ _ ((World.cell?_setCell_other _ _ _ _ (by simp)).trans (World.cell?_setCell_same _ _ _ ((World.cell?_setCell_other _ _ _ _ (by simp)).trans hcz14_1)))) | ((with_reducible refine gate_builtin (b := .append) (xs := #[.tmp 40, .tmp 42]) rfl ?_); at_builtin; refine Kd.R_append k70 (w0 := w) w.heap.size rfl (.tmp 40) (.tmp 42) 25 70 (.agg #[(.int .i64 0), (.int .i64 0), (.string ⟨#[]⟩)]) 32 rfl Try.underlying25 info70 rfl (by decide) (by omega) u5 x5_1 (⟨(rd_T70 l0 x6_1).f0, x1_1, (rd_T70 l0 x6_1).f2⟩ : S70) [.int .i64 ((rd_T70 l0 x6_1).f0), .int .i64 x1_1, .string ((rd_T70 l0 x6_1).f2)] (fun k_ => k_ ≠ gb595) (fun _ => False) rfl (by first | (go_simp; done) | (go_simp; rfl)) ?aP (fun _ hk => hk.elim) ?aF ?aO ?aB ?aS ?aL ?_; (case aP => exact k70_mkM _ _ _ (⟨(rd_T70 l0 x6_1).f0, x1_1, (rd_T70 l0 x6_1).f2⟩ : S70)); (case aB => exact (by repeat (first | (with_reducible first | exact HB.out | apply below_alloc | apply pw_below_drewN | apply below_drew1 | refine below_set ?_ GE595.out) | exact HB.out))); (case aF => exact (fun k_ hk => Kd.freshB (g := gb595) (o := .cells #[.int .i64 ((rd_T70 l0 x6_1).f0), .int .i64 x1_1, .string ((rd_T70 l0 x6_1).f2)] 70 (0, 0)) (by (with_reducible repeat (first | refine blk_drewN ?_ _ | refine blk_drew ?_ | refine blk_alloc ?_ _)); refine blk_put (cs := #[.int .i64 ((rd_T70 l0 x6_1).f0), .int .i64 ((rd_T70 l0 x6_1).f1), .string ((rd_T70 l0 x6_1).f2)]) ?_ 1 _ rfl; (with_reducible repeat (first | refine blk_drewN ?_ _ | refine blk_drew ?_ | refine blk_alloc ?_ _)); refine blk_put (cs := #[.int .i64 ((rd_T70 l0 x6_1).f0), .int .i64 ((rd_T70 l0 x6_1).f1), .string (⟨#[]⟩ : ByteArray)]) ?_ 2 _ rfl; (with_reducible repeat (first | refine blk_drewN ?_ _ | refine blk_drew ?_ | refine blk_alloc ?_ _)); refine blk_put (cs := #[.int .i64 ((rd_T70 l0 x6_1).f0), .int .i64 0, .string (⟨#[]⟩ : ByteArray)]) ?_ 1 _ rfl; (with_reducible repeat (first | refine blk_drewN ?_ _ | refine blk_drew ?_ | refine blk_alloc ?_ _)); refine blk_put (cs := #[.int .i64 0, .int .i64 0, .string (⟨#[]⟩ : ByteArray)]) ?_ 0 _ rfl; (with_reducible repeat (first | refine blk_drewN ?_ _ | refine blk_drew ?_ | refine blk_alloc ?_ _)); exact BK595.out) k_ hk)); (case aO => exact (by (with_reducible repeat (first | apply Kd.R_alloc | apply Kd.R_drewN | apply Kd.R_drew)); exact Kd.R_mono (Kd.R_far (p := ⟨gb595, 1, none⟩) (Kd.R_far (p := ⟨gb595, 2, none⟩) (Kd.R_far (p := ⟨gb595, 1, none⟩) (Kd.R_far (p := ⟨gb595, 0, none⟩) (Kd.R_mono HO_5.out (fun k_ hk => (⟨hk, hk.2⟩ : _ ∧ k_ ≠ gb595))) (fun _ hk => hk.2) (.int .i64 ((rd_T70 l0 x6_1).f0))) (fun _ hk => hk.2) (.int .i64 ((rd_T70 l0 x6_1).f1))) (fun _ hk => hk.2) (.string ((rd_T70 l0 x6_1).f2))) (fun _ hk => hk.2) (.int .i64 x1_1)) (fun _ hk => hk.1.2))); (case aS => exact (below_size (by repeat (first | (with_reducible first | exact HB.out | apply below_alloc | apply pw_below_drewN | apply below_drew1 | refine below_set ?_ GE595.out) | exact HB.out)))); (case aL => have := LMc12.out; omega); intro v600 w15 ho hb hg hat; rw [← Ny599.out] at ho; have n0_ := Aside0.mk (blk_grown (g := gb595) (o := .cells #[.int .i64 ((rd_T70 l0 x6_1).f0), .int .i64 x1_1, .string ((rd_T70 l0 x6_1).f2)] 70 (0, 0)) (by (with_reducible repeat (first | refine blk_drewN ?_ _ | refine blk_drew ?_ | refine blk_alloc ?_ _)); refine blk_put (cs := #[.int .i64 ((rd_T70 l0 x6_1).f0), .int .i64 ((rd_T70 l0 x6_1).f1), .string ((rd_T70 l0 x6_1).f2)]) ?_ 1 _ rfl; (with_reducible repeat (first | refine blk_drewN ?_ _ | refine blk_drew ?_ | refine blk_alloc ?_ _)); refine blk_put (cs := #[.int .i64 ((rd_T70 l0 x6_1).f0), .int .i64 ((rd_T70 l0 x6_1).f1), .string (⟨#[]⟩ : ByteArray)]) ?_ 2 _ rfl; (with_reducible repeat (first | refine blk_drewN ?_ _ | refine blk_drew ?_ | refine blk_alloc ?_ _)); refine blk_put (cs := #[.int .i64 ((rd_T70 l0 x6_1).f0), .int .i64 0, .string (⟨#[]⟩ : ByteArray)]) ?_ 1 _ rfl; (with_reducible repeat (first | refine blk_drewN ?_ _ | refine blk_drew ?_ | refine blk_alloc ?_ _)); refine blk_put (cs := #[.int .i64 0, .int .i64 0, .string (⟨#[]⟩ : ByteArray)]) ?_ 0 _ rfl; (with_reducible repeat (first | refine blk_drewN ?_ _ | refine blk_drew ?_ | refine blk_alloc ?_ _)); exact BK595.out) hg (Kd.R_away HO_5.out (fun _ hk => hk.2))); have n1_ := Aside0.mk (hb); have n2_ := Aside0.mk (ho); clear BK595; clear HB; clear HO_5; have BK595 := n0_; have HB := n1_; have HO601 := n2_; clear n0_ n1_ n2_; clear ho hb hg hat))
         go_roundg k1
         case measure => have := HK1.out; omega
         case rel => exact ⟨(wrap64 (x1_1 - x1_1)), (y599), (wrap64 (x6_1 + 1)), (by first | rfl | (simp; done) | (simp; exact (Go.Proofs.Ytidihnnkcmeaeaa.A.wrap64_zero').symm) | (rw [Int.sub_self]; rfl) | (simp [*]; done) | (simp; exact isEmpty_bne _)), (by first | rfl | (simp; done) | (simp [*]; done) | (simp; exact isEmpty_bne _)), H', ⟨by have := HK1.out; omega⟩, ⟨by (with_reducible repeat (first | apply Kd.R_alloc | apply Kd.R_drewN | apply Kd.R_drew)); exact Kd.R_mono HO601.out (fun _ hk => trivial)⟩, ⟨by repeat (first | (with_reducible first | exact HB.out | apply below_alloc | apply pw_below_drewN | apply below_drew1 | refine below_set ?_ GE595.out) | exact HB.out)⟩⟩
        ·
         rw [if_neg c12] at H
         exact absurd H (by simp)
       ·
        rw [if_neg c11] at H
        have c11b0 : decide (0 < x1_1) = false := decide_eq_false c11
        clear c11
        have H' := Aside0.mk H
        clear H
        have p594 : 0 ≤ (x6_1 : Int) := of_decide_eq_true (by first | (with_reducible assumption) | assumption)
        have q594 : x6_1 < (l0.length : Int) := of_decide_eq_true (by first | (with_reducible assumption) | assumption)
        obtain ⟨ad594, e594, hx594_0, hx594_1, hx594_2⟩ := at_T70 HR0.out x6_1 p594 q594
        cases e594
        replace hx594_0 := (HB.out.cell (World.block_lt_of_cell? w _ hx594_0)).trans hx594_0
        replace hx594_1 := (HB.out.cell (World.block_lt_of_cell? w _ hx594_1)).trans hx594_1
        replace hx594_2 := (HB.out.cell (World.block_lt_of_cell? w _ hx594_2)).trans hx594_2
        replace p594 := eq_true p594
        replace q594 := eq_true q594
        go_wp2_with (first | ((with_reducible refine gate_dst (N := 7) rfl ?_); refine box_event ?hg (N := 7) ?hd (cs := #[.int .i64 0, .int .i64 0, .string (⟨#[]⟩ : ByteArray)]) (t := 70) ?hr ?_; (case hd => rfl); (case hg => rfl); (case hr => first | (go_simp; done) | (go_simp; rfl)); intro gb595 hg w16 hbox hb; have n0_ := Aside0.mk (Kd.R_below (Kd.R_elderB (by (with_reducible repeat (first | apply Kd.R_alloc | apply Kd.R_drewN | apply Kd.R_drew)); exact HO_5.out) gb595 (Nat.le_of_eq hg.symm)) hb); have n1_ := Aside0.mk (below_step (by repeat (first | (with_reducible first | exact HB.out | apply below_alloc | apply pw_below_drewN | apply below_drew1) | exact HB.out)) hb); have n2_ := Aside0.mk (hbox); have n3_ := Aside0.mk ((by rw [hg]; exact (below_size (by repeat (first | (with_reducible first | exact HB.out | apply below_alloc | apply pw_below_drewN | apply below_drew1) | exact HB.out))) : w.heap.size ≤ gb595)); have n4_ := Aside0.mk ((by rw [hg]; exact (below_size (by repeat (first | (with_reducible first | exact HB.out | apply below_alloc | apply pw_below_drewN | apply below_drew1) | exact HB.out))) : w.heap.size ≤ gb595)); clear HO_5; clear HB; have HO_5 := n0_; have HB := n1_; have BK595 := n2_; have GW595 := n3_; have GE595 := n4_; clear n0_ n1_ n2_ n3_ n4_; clear hb hbox hg; have hcz17_0 : w16.cell? ⟨gb595, 0, none⟩ = some (.int .i64 0) := (blk_cell BK595.out 0).trans rfl; have hcz17_1 : w16.cell? ⟨gb595, 1, none⟩ = some (.int .i64 0) := (blk_cell BK595.out 1).trans rfl; have hcz17_2 : w16.cell? ⟨gb595, 2, none⟩ = some (.string (⟨#[]⟩ : ByteArray)) := (blk_cell BK595.out 2).trans rfl; have hfz17_0 := blk_frozen BK595.out 0; have hfz17_1 := blk_frozen BK595.out 1; have hfz17_2 := blk_frozen BK595.out 2; have hczz : ((((w16.setCell ⟨gb595, 0, none⟩ (.int .i64 ((rd_T70 l0 x6_1).f0))).setCell ⟨gb595, 1, none⟩ (.int .i64 ((rd_T70 l0 x6_1).f1))).setCell ⟨gb595, 2, none⟩ (.string ((rd_T70 l0 x6_1).f2))).setCell ⟨gb595, 1, none⟩ (.int .i64 x1_1)).cell? ⟨gb595, 1, none⟩ = some (.int .i64 x1_1) := World.cell?_setCell_same _ _ _ ((World.cell?_setCell_other _ _ _ _ (by simp)).trans (World.cell?_setCell_same _ _ _ ((World.cell?_setCell_other _ _ _ _ (by simp)).trans hcz17_1)))))
        go_roundg k1
        case measure => have := HK1.out; omega
        case rel => exact ⟨(x1_1), (x5_1), (wrap64 (x6_1 + 1)), (by first | rfl | (simp; done) | (simp [*]; done) | (simp; exact isEmpty_bne _)), (by first | rfl | (simp; done) | (simp [*]; done) | (simp; exact isEmpty_bne _)), H', ⟨by have := HK1.out; omega⟩, ⟨by (with_reducible repeat (first | apply Kd.R_alloc | apply Kd.R_drewN | apply Kd.R_drew)); exact Kd.R_mono (Kd.R_far (p := ⟨gb595, 1, none⟩) (Kd.R_far (p := ⟨gb595, 2, none⟩) (Kd.R_far (p := ⟨gb595, 1, none⟩) (Kd.R_far (p := ⟨gb595, 0, none⟩) (Kd.R_mono HO_5.out (fun k_ hk => (⟨hk, hk.2⟩ : _ ∧ k_ ≠ gb595))) (fun _ hk => hk.2) (.int .i64 ((rd_T70 l0 x6_1).f0))) (fun _ hk => hk.2) (.int .i64 ((rd_T70 l0 x6_1).f1))) (fun _ hk => hk.2) (.string ((rd_T70 l0 x6_1).f2))) (fun _ hk => hk.2) (.int .i64 x1_1)) (fun _ hk => trivial)⟩, ⟨by repeat (first | (with_reducible first | exact HB.out | apply below_alloc | apply pw_below_drewN | apply below_drew1 | refine below_set ?_ GE595.out) | exact HB.out)⟩⟩
      ·
       rw [if_neg c10] at H
       have c10b0 : decide (x1_1 < ((rd_T70 l0 x6_1).f1)) = false := decide_eq_false c10
       clear c10
       by_cases c18 : ((rd_T70 l0 x6_1).f1) > 0
       ·
        rw [if_pos c18] at H
        have c18b0 : decide (0 < ((rd_T70 l0 x6_1).f1)) = true := decide_eq_true c18
        clear c18
        by_cases c19 : x5_1.length < 4398046511104
        ·
         rw [if_pos c19] at H
         have LMc19 := Aside0.mk c19
         clear c19
         obtain ⟨y602, hy602⟩ : ∃ y_ : List (S70), y_ = (x5_1 ++ [(⟨(rd_T70 l0 x6_1).f0, (rd_T70 l0 x6_1).f1, (rd_T70 l0 x6_1).f2⟩ : S70)]) := ⟨_, rfl⟩
         replace H : (galleylaw13_fit.l0 k1 l0 (wrap64 (x1_1 - ((rd_T70 l0 x6_1).f1))) y602 (wrap64 (x6_1 + 1))) = some r := by first | (rw [hy602]; with_reducible exact H) | (have H2_ := (Option.bind_some _ _).symm.trans H; rw [hy602]; with_reducible exact H2_) | (have H2_ := (Option.bind_some _ _).symm.trans H; with_reducible exact H2_) | with_reducible exact H | (rw [hy602]; exact H) | exact H
         have Ny602 := Aside0.mk hy602
         clear hy602
         have H' := Aside0.mk H
         clear H
         have p594 : 0 ≤ (x6_1 : Int) := of_decide_eq_true (by first | (with_reducible assumption) | assumption)
         have q594 : x6_1 < (l0.length : Int) := of_decide_eq_true (by first | (with_reducible assumption) | assumption)
         obtain ⟨ad594, e594, hx594_0, hx594_1, hx594_2⟩ := at_T70 HR0.out x6_1 p594 q594
         cases e594
         replace hx594_0 := (HB.out.cell (World.block_lt_of_cell? w _ hx594_0)).trans hx594_0
         replace hx594_1 := (HB.out.cell (World.block_lt_of_cell? w _ hx594_1)).trans hx594_1
         replace hx594_2 := (HB.out.cell (World.block_lt_of_cell? w _ hx594_2)).trans hx594_2
         replace p594 := eq_true p594
         replace q594 := eq_true q594
         go_wp2_with (first | ((with_reducible refine gate_dst (N := 7) rfl ?_); refine box_event ?hg (N := 7) ?hd (cs := #[.int .i64 0, .int .i64 0, .string (⟨#[]⟩ : ByteArray)]) (t := 70) ?hr ?_; (case hd => rfl); (case hg => rfl); (case hr => first | (go_simp; done) | (go_simp; rfl)); intro gb595 hg w20 hbox hb; have n0_ := Aside0.mk (Kd.R_below (Kd.R_elderB (by (with_reducible repeat (first | apply Kd.R_alloc | apply Kd.R_drewN | apply Kd.R_drew)); exact HO_5.out) gb595 (Nat.le_of_eq hg.symm)) hb); have n1_ := Aside0.mk (below_step (by repeat (first | (with_reducible first | exact HB.out | apply below_alloc | apply pw_below_drewN | apply below_drew1) | exact HB.out)) hb); have n2_ := Aside0.mk (hbox); have n3_ := Aside0.mk ((by rw [hg]; exact (below_size (by repeat (first | (with_reducible first | exact HB.out | apply below_alloc | apply pw_below_drewN | apply below_drew1) | exact HB.out))) : w.heap.size ≤ gb595)); have n4_ := Aside0.mk ((by rw [hg]; exact (below_size (by repeat (first | (with_reducible first | exact HB.out | apply below_alloc | apply pw_below_drewN | apply below_drew1) | exact HB.out))) : w.heap.size ≤ gb595)); clear HO_5; clear HB; have HO_5 := n0_; have HB := n1_; have BK595 := n2_; have GW595 := n3_; have GE595 := n4_; clear n0_ n1_ n2_ n3_ n4_; clear hb hbox hg; have hcz21_0 : w20.cell? ⟨gb595, 0, none⟩ = some (.int .i64 0) := (blk_cell BK595.out 0).trans rfl; have hcz21_1 : w20.cell? ⟨gb595, 1, none⟩ = some (.int .i64 0) := (blk_cell BK595.out 1).trans rfl; have hcz21_2 : w20.cell? ⟨gb595, 2, none⟩ = some (.string (⟨#[]⟩ : ByteArray)) := (blk_cell BK595.out 2).trans rfl; have hfz21_0 := blk_frozen BK595.out 0; have hfz21_1 := blk_frozen BK595.out 1; have hfz21_2 := blk_frozen BK595.out 2) | ((with_reducible refine gate_builtin (b := .append) (xs := #[.tmp 40, .tmp 42]) rfl ?_); at_builtin; refine Kd.R_append k70 (w0 := w) w.heap.size rfl (.tmp 40) (.tmp 42) 25 70 (.agg #[(.int .i64 0), (.int .i64 0), (.string ⟨#[]⟩)]) 32 rfl Try.underlying25 info70 rfl (by decide) (by omega) u5 x5_1 (⟨(rd_T70 l0 x6_1).f0, (rd_T70 l0 x6_1).f1, (rd_T70 l0 x6_1).f2⟩ : S70) [.int .i64 ((rd_T70 l0 x6_1).f0), .int .i64 ((rd_T70 l0 x6_1).f1), .string ((rd_T70 l0 x6_1).f2)] (fun k_ => k_ ≠ gb595) (fun _ => False) rfl (by first | (go_simp; done) | (go_simp; rfl)) ?aP (fun _ hk => hk.elim) ?aF ?aO ?aB ?aS ?aL ?_; (case aP => exact k70_mkM _ _ _ (⟨(rd_T70 l0 x6_1).f0, (rd_T70 l0 x6_1).f1, (rd_T70 l0 x6_1).f2⟩ : S70)); (case aB => exact (by repeat (first | (with_reducible first | exact HB.out | apply below_alloc | apply pw_below_drewN | apply below_drew1 | refine below_set ?_ GE595.out) | exact HB.out))); (case aF => exact (fun k_ hk => Kd.freshB (g := gb595) (o := .cells #[.int .i64 ((rd_T70 l0 x6_1).f0), .int .i64 ((rd_T70 l0 x6_1).f1), .string ((rd_T70 l0 x6_1).f2)] 70 (0, 0)) (by (with_reducible repeat (first | refine blk_drewN ?_ _ | refine blk_drew ?_ | refine blk_alloc ?_ _)); refine blk_put (cs := #[.int .i64 ((rd_T70 l0 x6_1).f0), .int .i64 ((rd_T70 l0 x6_1).f1), .string (⟨#[]⟩ : ByteArray)]) ?_ 2 _ rfl; (with_reducible repeat (first | refine blk_drewN ?_ _ | refine blk_drew ?_ | refine blk_alloc ?_ _)); refine blk_put (cs := #[.int .i64 ((rd_T70 l0 x6_1).f0), .int .i64 0, .string (⟨#[]⟩ : ByteArray)]) ?_ 1 _ rfl; (with_reducible repeat (first | refine blk_drewN ?_ _ | refine blk_drew ?_ | refine blk_alloc ?_ _)); refine blk_put (cs := #[.int .i64 0, .int .i64 0, .string (⟨#[]⟩ : ByteArray)]) ?_ 0 _ rfl; (with_reducible repeat (first | refine blk_drewN ?_ _ | refine blk_drew ?_ | refine blk_alloc ?_ _)); exact BK595.out) k_ hk)); (case aO => exact (by (with_reducible repeat (first | apply Kd.R_alloc | apply Kd.R_drewN | apply Kd.R_drew)); exact Kd.R_mono (Kd.R_far (p := ⟨gb595, 2, none⟩) (Kd.R_far (p := ⟨gb595, 1, none⟩) (Kd.R_far (p := ⟨gb595, 0, none⟩) (Kd.R_mono HO_5.out (fun k_ hk => (⟨hk, hk.2⟩ : _ ∧ k_ ≠ gb595))) (fun _ hk => hk.2) (.int .i64 ((rd_T70 l0 x6_1).f0))) (fun _ hk => hk.2) (.int .i64 ((rd_T70 l0 x6_1).f1))) (fun _ hk => hk.2) (.string ((rd_T70 l0 x6_1).f2))) (fun _ hk => hk.1.2))); (case aS => exact (below_size (by repeat (first | (with_reducible first | exact HB.out | apply below_alloc | apply pw_below_drewN | apply below_drew1 | refine below_set ?_ GE595.out) | exact HB.out)))); (case aL => have := LMc19.out; omega); intro v603 w22 ho hb hg hat; rw [← Ny602.out] at ho; have n0_ := Aside0.mk (blk_grown (g := gb595) (o := .cells #[.int .i64 ((rd_T70 l0 x6_1).f0), .int .i64 ((rd_T70 l0 x6_1).f1), .string ((rd_T70 l0 x6_1).f2)] 70 (0, 0)) (by (with_reducible repeat (first | refine blk_drewN ?_ _ | refine blk_drew ?_ | refine blk_alloc ?_ _)); refine blk_put (cs := #[.int .i64 ((rd_T70 l0 x6_1).f0), .int .i64 ((rd_T70 l0 x6_1).f1), .string (⟨#[]⟩ : ByteArray)]) ?_ 2 _ rfl; (with_reducible repeat (first | refine blk_drewN ?_ _ | refine blk_drew ?_ | refine blk_alloc ?_ _)); refine blk_put (cs := #[.int .i64 ((rd_T70 l0 x6_1).f0), .int .i64 0, .string (⟨#[]⟩ : ByteArray)]) ?_ 1 _ rfl; (with_reducible repeat (first | refine blk_drewN ?_ _ | refine blk_drew ?_ | refine blk_alloc ?_ _)); refine blk_put (cs := #[.int .i64 0, .int .i64 0, .string (⟨#[]⟩ : ByteArray)]) ?_ 0 _ rfl; (with_reducible repeat (first | refine blk_drewN ?_ _ | refine blk_drew ?_ | refine blk_alloc ?_ _)); exact BK595.out) hg (Kd.R_away HO_5.out (fun _ hk => hk.2))); have n1_ := Aside0.mk (hb); have n2_ := Aside0.mk (ho); clear BK595; clear HB; clear HO_5; have BK595 := n0_; have HB := n1_; have HO604 := n2_; clear n0_ n1_ n2_; clear ho hb hg hat))
         go_roundg k1
         case measure => have := HK1.out; omega
         case rel => exact ⟨(wrap64 (x1_1 - ((rd_T70 l0 x6_1).f1))), (y602), (wrap64 (x6_1 + 1)), (by first | rfl | (simp; done) | (simp [*]; done) | (simp; exact isEmpty_bne _)), (by first | rfl | (simp; done) | (simp [*]; done) | (simp; exact isEmpty_bne _)), H', ⟨by have := HK1.out; omega⟩, ⟨by (with_reducible repeat (first | apply Kd.R_alloc | apply Kd.R_drewN | apply Kd.R_drew)); exact Kd.R_mono HO604.out (fun _ hk => trivial)⟩, ⟨by repeat (first | (with_reducible first | exact HB.out | apply below_alloc | apply pw_below_drewN | apply below_drew1 | refine below_set ?_ GE595.out) | exact HB.out)⟩⟩
        ·
         rw [if_neg c19] at H
         exact absurd H (by simp)
       ·
        rw [if_neg c18] at H
        have c18b0 : decide (0 < ((rd_T70 l0 x6_1).f1)) = false := decide_eq_false c18
        clear c18
        have H' := Aside0.mk H
        clear H
        have p594 : 0 ≤ (x6_1 : Int) := of_decide_eq_true (by first | (with_reducible assumption) | assumption)
        have q594 : x6_1 < (l0.length : Int) := of_decide_eq_true (by first | (with_reducible assumption) | assumption)
        obtain ⟨ad594, e594, hx594_0, hx594_1, hx594_2⟩ := at_T70 HR0.out x6_1 p594 q594
        cases e594
        replace hx594_0 := (HB.out.cell (World.block_lt_of_cell? w _ hx594_0)).trans hx594_0
        replace hx594_1 := (HB.out.cell (World.block_lt_of_cell? w _ hx594_1)).trans hx594_1
        replace hx594_2 := (HB.out.cell (World.block_lt_of_cell? w _ hx594_2)).trans hx594_2
        replace p594 := eq_true p594
        replace q594 := eq_true q594
        go_wp2_with (first | ((with_reducible refine gate_dst (N := 7) rfl ?_); refine box_event ?hg (N := 7) ?hd (cs := #[.int .i64 0, .int .i64 0, .string (⟨#[]⟩ : ByteArray)]) (t := 70) ?hr ?_; (case hd => rfl); (case hg => rfl); (case hr => first | (go_simp; done) | (go_simp; rfl)); intro gb595 hg w23 hbox hb; have n0_ := Aside0.mk (Kd.R_below (Kd.R_elderB (by (with_reducible repeat (first | apply Kd.R_alloc | apply Kd.R_drewN | apply Kd.R_drew)); exact HO_5.out) gb595 (Nat.le_of_eq hg.symm)) hb); have n1_ := Aside0.mk (below_step (by repeat (first | (with_reducible first | exact HB.out | apply below_alloc | apply pw_below_drewN | apply below_drew1) | exact HB.out)) hb); have n2_ := Aside0.mk (hbox); have n3_ := Aside0.mk ((by rw [hg]; exact (below_size (by repeat (first | (with_reducible first | exact HB.out | apply below_alloc | apply pw_below_drewN | apply below_drew1) | exact HB.out))) : w.heap.size ≤ gb595)); have n4_ := Aside0.mk ((by rw [hg]; exact (below_size (by repeat (first | (with_reducible first | exact HB.out | apply below_alloc | apply pw_below_drewN | apply below_drew1) | exact HB.out))) : w.heap.size ≤ gb595)); clear HO_5; clear HB; have HO_5 := n0_; have HB := n1_; have BK595 := n2_; have GW595 := n3_; have GE595 := n4_; clear n0_ n1_ n2_ n3_ n4_; clear hb hbox hg; have hcz24_0 : w23.cell? ⟨gb595, 0, none⟩ = some (.int .i64 0) := (blk_cell BK595.out 0).trans rfl; have hcz24_1 : w23.cell? ⟨gb595, 1, none⟩ = some (.int .i64 0) := (blk_cell BK595.out 1).trans rfl; have hcz24_2 : w23.cell? ⟨gb595, 2, none⟩ = some (.string (⟨#[]⟩ : ByteArray)) := (blk_cell BK595.out 2).trans rfl; have hfz24_0 := blk_frozen BK595.out 0; have hfz24_1 := blk_frozen BK595.out 1; have hfz24_2 := blk_frozen BK595.out 2))
        go_roundg k1
        case measure => have := HK1.out; omega
        case rel => exact ⟨(x1_1), (x5_1), (wrap64 (x6_1 + 1)), (by first | rfl | (simp; done) | (simp [*]; done) | (simp; exact isEmpty_bne _)), (by first | rfl | (simp; done) | (simp [*]; done) | (simp; exact isEmpty_bne _)), H', ⟨by have := HK1.out; omega⟩, ⟨by (with_reducible repeat (first | apply Kd.R_alloc | apply Kd.R_drewN | apply Kd.R_drew)); exact Kd.R_mono (Kd.R_far (p := ⟨gb595, 2, none⟩) (Kd.R_far (p := ⟨gb595, 1, none⟩) (Kd.R_far (p := ⟨gb595, 0, none⟩) (Kd.R_mono HO_5.out (fun k_ hk => (⟨hk, hk.2⟩ : _ ∧ k_ ≠ gb595))) (fun _ hk => hk.2) (.int .i64 ((rd_T70 l0 x6_1).f0))) (fun _ hk => hk.2) (.int .i64 ((rd_T70 l0 x6_1).f1))) (fun _ hk => hk.2) (.string ((rd_T70 l0 x6_1).f2))) (fun _ hk => trivial)⟩, ⟨by repeat (first | (with_reducible first | exact HB.out | apply below_alloc | apply pw_below_drewN | apply below_drew1 | refine below_set ?_ GE595.out) | exact HB.out)⟩⟩
    ·
     rw [if_neg c4] at H
     exact absurd H (by simp)
   ·
    rw [if_neg c3] at H
    have c3b0 : decide (x6_1 < (l0.length : Int)) = false := decide_eq_false c3
    clear c3
    by_cases c25 : x5_1.length < 4398046511104
    ·
     rw [if_pos c25] at H
     have LMc25 := Aside0.mk c25
     clear c25
     obtain ⟨y605, hy605⟩ : ∃ y_ : List (S70), y_ = (x5_1 ++ [(⟨1, x1_1, (⟨#[]⟩ : ByteArray)⟩ : S70)]) := ⟨_, rfl⟩
     replace H : ((galleyref13_Canon.f k1 y605).bind fun bt608 => (if bt608.2 = 0 then (some bt608.1) else ((galleyref13_Canon.f k1 (([(⟨1, x1_1, (⟨#[]⟩ : ByteArray)⟩ : S70)] : List (S70)))).bind fun bt615 => (some bt615.1)))) = some r := by first | (rw [hy605]; with_reducible exact H) | (have H2_ := (Option.bind_some _ _).symm.trans H; rw [hy605]; with_reducible exact H2_) | (have H2_ := (Option.bind_some _ _).symm.trans H; with_reducible exact H2_) | with_reducible exact H | (rw [hy605]; exact H) | exact H
     have Ny605 := Aside0.mk hy605
     clear hy605
     replace H := Option.bind_eq_some_iff.mp H
     obtain ⟨⟨t608, t609⟩, A260, H⟩ := H
     replace H : (if t609 = 0 then (some t608) else ((galleyref13_Canon.f k1 (([(⟨1, x1_1, (⟨#[]⟩ : ByteArray)⟩ : S70)] : List (S70)))).bind fun bt615 => (some bt615.1))) = some r := H
     have A26 := Aside0.mk A260
     clear A260
     by_cases c27 : t609 = 0
     ·
      rw [if_pos c27] at H
      have c27b0 : (t609 == 0) = true := beq_iff_eq.mpr c27
      have c27b1 : (t609 != 0) = false := bne_eq_false_iff_eq.mpr c27
      clear c27
      obtain rfl := Option.some.inj H
      go_wp2_with (first | ((with_reducible refine gate_builtin (b := .append) (xs := #[.tmp 44, .tmp 47]) rfl ?_); at_builtin; refine Kd.R_append k70 (w0 := w) w.heap.size rfl (.tmp 44) (.tmp 47) 25 70 (.agg #[(.int .i64 0), (.int .i64 0), (.string ⟨#[]⟩)]) 32 rfl Try.underlying25 info70 rfl (by decide) (by omega) u5 x5_1 (⟨1, x1_1, (⟨#[]⟩ : ByteArray)⟩ : S70) [.int .i64 1, .int .i64 x1_1, .string (⟨#[]⟩ : ByteArray)] (fun _ => True) (fun _ => False) rfl rfl ?aP (fun _ hk => hk.elim) ?aF ?aO ?aB ?aS ?aL ?_; (case aP => exact k70_mkM _ _ _ (⟨1, x1_1, (⟨#[]⟩ : ByteArray)⟩ : S70)); (case aB => exact (by repeat (first | (with_reducible first | exact HB.out | apply below_alloc | apply pw_below_drewN | apply below_drew1) | exact HB.out))); (case aF => exact (fun _ _ => trivial)); (case aO => exact (by (with_reducible repeat (first | apply Kd.R_alloc | apply Kd.R_drewN | apply Kd.R_drew)); exact HO_5.out)); (case aS => exact (below_size (by repeat (first | (with_reducible first | exact HB.out | apply below_alloc | apply pw_below_drewN | apply below_drew1) | exact HB.out)))); (case aL => have := LMc25.out; omega); intro v606 w28 ho hb hg hat; rw [← Ny605.out] at ho; have n0_ := Aside0.mk (hb); have n1_ := Aside0.mk (ho); clear HB; clear HO_5; have HB := n0_; have HO607 := n1_; clear n0_ n1_; clear ho hb hg hat; obtain ⟨Ao29, co29, eo29⟩ := Kd.R_slice HO607.out; subst eo29) | ((with_reducible refine gate_callee (f := 37) rfl ?_); refine goesL_ (some 51) rfl rfl Try.func37 (by kernel_rfl) rfl #[.slice Ao29 y605.length co29] rfl (by (try simp only [List.map_toArray, List.map_cons, List.map_nil]); first | done | rfl | (simp only [List.length_drop, List.length_take]; rfl)) ?_; (with_reducible refine (galleyref13_Canon.calls k1 _ _ y605 t608 t609 _ ?side1 ?side2 A26.out).mono ?_); (case side1 => repeat (first | exact (Kd.R_reads' HO607.out).2.2 | (with_reducible refine Kd.C_alloc ?_ _) | (with_reducible refine Kd.C_drewN ?_ _) | (with_reducible refine Kd.C_drew ?_))); (case side2 => exact (Kd.R_reads' HO607.out).2.1); rintro e w30 ⟨v610, rfl, ho0, hb⟩; refine ⟨_, rfl, ?_⟩; have n0_ := Aside0.mk (Kd.R_elder' (by (with_reducible repeat (first | apply Kd.R_alloc | apply Kd.R_drewN | apply Kd.R_drew)); exact HO607.out) (Kd.R_base ho0) hb); have n1_ := Aside0.mk (Kd.R_lower (Kd.R_new' ho0 (Kd.R_lt (by (with_reducible repeat (first | apply Kd.R_alloc | apply Kd.R_drewN | apply Kd.R_drew)); exact HO607.out))) (below_size (by repeat (first | (with_reducible first | exact HB.out | apply below_alloc | apply pw_below_drewN | apply below_drew1) | exact HB.out)))); have n2_ := Aside0.mk (below_step (by repeat (first | (with_reducible first | exact HB.out | apply below_alloc | apply pw_below_drewN | apply below_drew1) | exact HB.out)) hb); clear HO607; clear HB; have HO607 := n0_; have HO611 := n1_; have HB := n2_; clear n0_ n1_ n2_; (try clear hb); (try clear hb2); (try clear hk); (try clear hi); (try clear ho0)))
      go_ret
      exact ⟨_, by first | rfl | (simp [errW_none, errW_some] <;> rfl) | (simp [*, errW_none, errW_some] <;> rfl), by (with_reducible repeat (first | apply Kd.R_alloc | apply Kd.R_drewN | apply Kd.R_drew)); exact Kd.R_mono HO611.out (fun _ hk => trivial), by repeat (first | (with_reducible first | exact HB.out | apply below_alloc | apply pw_below_drewN | apply below_drew1) | exact HB.out)⟩
     ·
      rw [if_neg c27] at H
      have c27b0 : (t609 == 0) = false := beq_eq_false_iff_ne.mpr c27
      have c27b1 : (t609 != 0) = true := bne_iff_ne.mpr c27
      obtain ⟨y612, hy612⟩ : ∃ y_ : List (S70), y_ = (([(⟨1, x1_1, (⟨#[]⟩ : ByteArray)⟩ : S70)] : List (S70))) := ⟨_, rfl⟩
      replace H : ((galleyref13_Canon.f k1 y612).bind fun bt615 => (some bt615.1)) = some r := by first | (rw [hy612]; with_reducible exact H) | (have H2_ := (Option.bind_some _ _).symm.trans H; rw [hy612]; with_reducible exact H2_) | (have H2_ := (Option.bind_some _ _).symm.trans H; with_reducible exact H2_) | with_reducible exact H | (rw [hy612]; exact H) | exact H
      have Ny612 := Aside0.mk hy612
      clear hy612
      replace H := Option.bind_eq_some_iff.mp H
      obtain ⟨⟨t615, t616⟩, A310, H⟩ := H
      replace H : (some t615) = some r := H
      have A31 := Aside0.mk A310
      clear A310
      obtain rfl := Option.some.inj H
      go_wp2_with (first | ((with_reducible refine gate_builtin (b := .append) (xs := #[.tmp 44, .tmp 47]) rfl ?_); at_builtin; refine Kd.R_append k70 (w0 := w) w.heap.size rfl (.tmp 44) (.tmp 47) 25 70 (.agg #[(.int .i64 0), (.int .i64 0), (.string ⟨#[]⟩)]) 32 rfl Try.underlying25 info70 rfl (by decide) (by omega) u5 x5_1 (⟨1, x1_1, (⟨#[]⟩ : ByteArray)⟩ : S70) [.int .i64 1, .int .i64 x1_1, .string (⟨#[]⟩ : ByteArray)] (fun _ => True) (fun _ => False) rfl rfl ?aP (fun _ hk => hk.elim) ?aF ?aO ?aB ?aS ?aL ?_; (case aP => exact k70_mkM _ _ _ (⟨1, x1_1, (⟨#[]⟩ : ByteArray)⟩ : S70)); (case aB => exact (by repeat (first | (with_reducible first | exact HB.out | apply below_alloc | apply pw_below_drewN | apply below_drew1) | exact HB.out))); (case aF => exact (fun _ _ => trivial)); (case aO => exact (by (with_reducible repeat (first | apply Kd.R_alloc | apply Kd.R_drewN | apply Kd.R_drew)); exact HO_5.out)); (case aS => exact (below_size (by repeat (first | (with_reducible first | exact HB.out | apply below_alloc | apply pw_below_drewN | apply below_drew1) | exact HB.out)))); (case aL => have := LMc25.out; omega); intro v606 w32 ho hb hg hat; rw [← Ny605.out] at ho; have n0_ := Aside0.mk (hb); have n1_ := Aside0.mk (ho); clear HB; clear HO_5; have HB := n0_; have HO607 := n1_; clear n0_ n1_; clear ho hb hg hat; obtain ⟨Ao33, co33, eo33⟩ := Kd.R_slice HO607.out; subst eo33) | ((with_reducible refine gate_callee (f := 37) rfl ?_); refine goesL_ (some 51) rfl rfl Try.func37 (by kernel_rfl) rfl #[.slice Ao33 y605.length co33] rfl (by (try simp only [List.map_toArray, List.map_cons, List.map_nil]); first | done | rfl | (simp only [List.length_drop, List.length_take]; rfl)) ?_; (with_reducible refine (galleyref13_Canon.calls k1 _ _ y605 t608 t609 _ ?side1 ?side2 A26.out).mono ?_); (case side1 => repeat (first | exact (Kd.R_reads' HO607.out).2.2 | (with_reducible refine Kd.C_alloc ?_ _) | (with_reducible refine Kd.C_drewN ?_ _) | (with_reducible refine Kd.C_drew ?_))); (case side2 => exact (Kd.R_reads' HO607.out).2.1); rintro e w34 ⟨v610, rfl, ho0, hb⟩; refine ⟨_, rfl, ?_⟩; have n0_ := Aside0.mk (Kd.R_elder' (by (with_reducible repeat (first | apply Kd.R_alloc | apply Kd.R_drewN | apply Kd.R_drew)); exact HO607.out) (Kd.R_base ho0) hb); have n1_ := Aside0.mk (Kd.R_lower (Kd.R_new' ho0 (Kd.R_lt (by (with_reducible repeat (first | apply Kd.R_alloc | apply Kd.R_drewN | apply Kd.R_drew)); exact HO607.out))) (below_size (by repeat (first | (with_reducible first | exact HB.out | apply below_alloc | apply pw_below_drewN | apply below_drew1) | exact HB.out)))); have n2_ := Aside0.mk (below_step (by repeat (first | (with_reducible first | exact HB.out | apply below_alloc | apply pw_below_drewN | apply below_drew1) | exact HB.out)) hb); clear HO607; clear HB; have HO607 := n0_; have HO611 := n1_; have HB := n2_; clear n0_ n1_ n2_; (try clear hb); (try clear hb2); (try clear hk); (try clear hi); (try clear ho0)) | ((with_reducible refine gate_dst (N := 59) rfl ?_); refine Kd.R_lit k70 _ 70 ?hg (N := 59) ?hd (xs := ([(⟨1, x1_1, (⟨#[]⟩ : ByteArray)⟩ : S70)] : List (S70))) (inner := [.int .i64 1, .int .i64 x1_1, .string (⟨#[]⟩ : ByteArray)]) (ok := fun _ => True) (okp := fun _ => True) ?hr ?hp (fun _ hk => hk) trivial (Below.refl _ _) (Nat.le_refl _) (by simp) ?_; (case hd => rfl); (case hg => rfl); (case hr => first | (go_simp; done) | (go_simp; rfl)); (case hp => exact (Reps.c3 (show Kd.M k70 _ _ _ (⟨1, x1_1, (⟨#[]⟩ : ByteArray)⟩ : S70) [.int .i64 1, .int .i64 x1_1, .string (⟨#[]⟩ : ByteArray)] from (k70_mkM _ _ _ (⟨1, x1_1, (⟨#[]⟩ : ByteArray)⟩ : S70) )) (Reps.none _ _))); intro v613 w35 ho36 hb hg_ hnew_; clear hg_ hnew_; (first | rw [← Ny612.out] at ho36 | (simp only [Int.reduceToNat] at ho36; rw [← Ny612.out] at ho36)); have n0_ := Aside0.mk (Kd.R_elder' (by (with_reducible repeat (first | apply Kd.R_alloc | apply Kd.R_drewN | apply Kd.R_drew)); exact HO607.out) (Kd.R_base ho36) hb); have n1_ := Aside0.mk (Kd.R_elder' (by (with_reducible repeat (first | apply Kd.R_alloc | apply Kd.R_drewN | apply Kd.R_drew)); exact HO611.out) (Kd.R_base ho36) hb); have n2_ := Aside0.mk (Kd.R_lower (Kd.R_new' (Kd.R_new' ho36 (Kd.R_lt (by (with_reducible repeat (first | apply Kd.R_alloc | apply Kd.R_drewN | apply Kd.R_drew)); exact HO607.out))) (Kd.R_lt (by (with_reducible repeat (first | apply Kd.R_alloc | apply Kd.R_drewN | apply Kd.R_drew)); exact HO611.out))) (below_size (by repeat (first | (with_reducible first | exact HB.out | apply below_alloc | apply pw_below_drewN | apply below_drew1) | exact HB.out)))); have n3_ := Aside0.mk (below_step (by repeat (first | (with_reducible first | exact HB.out | apply below_alloc | apply pw_below_drewN | apply below_drew1) | exact HB.out)) hb); clear HO607; clear HO611; clear HB; have HO607 := n0_; have HO611 := n1_; have HO614 := n2_; have HB := n3_; clear n0_ n1_ n2_ n3_; clear hb ho36; obtain ⟨Ao37, co37, eo37⟩ := Kd.R_slice HO614.out; subst eo37) | ((with_reducible refine gate_callee (f := 37) rfl ?_); refine goesL_ (some 60) rfl rfl Try.func37 (by kernel_rfl) rfl #[.slice Ao37 y612.length co37] rfl (by (try simp only [List.map_toArray, List.map_cons, List.map_nil]); first | done | rfl | (simp only [List.length_drop, List.length_take]; rfl)) ?_; (with_reducible refine (galleyref13_Canon.calls k1 _ _ y612 t615 t616 _ ?side1 ?side2 A31.out).mono ?_); (case side1 => repeat (first | exact (Kd.R_reads' HO614.out).2.2 | (with_reducible refine Kd.C_alloc ?_ _) | (with_reducible refine Kd.C_drewN ?_ _) | (with_reducible refine Kd.C_drew ?_))); (case side2 => exact (Kd.R_reads' HO614.out).2.1); rintro e w38 ⟨v617, rfl, ho0, hb⟩; refine ⟨_, rfl, ?_⟩; have n0_ := Aside0.mk (Kd.R_elder' (by (with_reducible repeat (first | apply Kd.R_alloc | apply Kd.R_drewN | apply Kd.R_drew)); exact HO607.out) (Kd.R_base ho0) hb); have n1_ := Aside0.mk (Kd.R_elder' (by (with_reducible repeat (first | apply Kd.R_alloc | apply Kd.R_drewN | apply Kd.R_drew)); exact HO611.out) (Kd.R_base ho0) hb); have n2_ := Aside0.mk (Kd.R_elder' (by (with_reducible repeat (first | apply Kd.R_alloc | apply Kd.R_drewN | apply Kd.R_drew)); exact HO614.out) (Kd.R_base ho0) hb); have n3_ := Aside0.mk (Kd.R_lower (Kd.R_new' (Kd.R_new' (Kd.R_new' ho0 (Kd.R_lt (by (with_reducible repeat (first | apply Kd.R_alloc | apply Kd.R_drewN | apply Kd.R_drew)); exact HO607.out))) (Kd.R_lt (by (with_reducible repeat (first | apply Kd.R_alloc | apply Kd.R_drewN | apply Kd.R_drew)); exact HO611.out))) (Kd.R_lt (by (with_reducible repeat (first | apply Kd.R_alloc | apply Kd.R_drewN | apply Kd.R_drew)); exact HO614.out))) (below_size (by repeat (first | (with_reducible first | exact HB.out | apply below_alloc | apply pw_below_drewN | apply below_drew1) | exact HB.out)))); have n4_ := Aside0.mk (below_step (by repeat (first | (with_reducible first | exact HB.out | apply below_alloc | apply pw_below_drewN | apply below_drew1) | exact HB.out)) hb); clear HO607; clear HO611; clear HO614; clear HB; have HO607 := n0_; have HO611 := n1_; have HO614 := n2_; have HO618 := n3_; have HB := n4_; clear n0_ n1_ n2_ n3_ n4_; (try clear hb); (try clear hb2); (try clear hk); (try clear hi); (try clear ho0)))
      go_ret
      exact ⟨_, by first | rfl | (simp [errW_none, errW_some] <;> rfl) | (simp [*, errW_none, errW_some] <;> rfl), by (with_reducible repeat (first | apply Kd.R_alloc | apply Kd.R_drewN | apply Kd.R_drew)); exact Kd.R_mono HO618.out (fun _ hk => trivial), by repeat (first | (with_reducible first | exact HB.out | apply below_alloc | apply pw_below_drewN | apply below_drew1) | exact HB.out)⟩
    ·
     rw [if_neg c25] at H
     exact absurd H (by simp)

-- NOT PRINTED: function 9 (galleylaw13_DeltaDoes)

end Go.Proofs.Ytidihnnkcmeaeaa.A
