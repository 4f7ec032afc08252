-- Written by a program over the translation (the kit's print, turned so that some functions are taken by contracts of this claim's own).
import Derived.Test.YtidihnnkcmeaeaaA0
import Derived.Test.YtidihnnkcmeaeaaB
namespace Go.Proofs.Ytidihnnkcmeaeaa.A
open Go.RowKit Go.Proofs.YtidihnnkcmeaeaaW.PrintWords Go.Proofs.YtidihnnkcmeaeaaW.PrintLast Go.Proofs.YtidihnnkcmeaeaaW.PrintMore
attribute [local go_sem] max2_int min2_int max_two min_two max_three min_three max_four min_four   -- for this text's walks alone
set_option linter.unusedVariables false
set_option linter.unusedSimpArgs false

/-! ### galleylaw13_short: function 47 -/
mutual
def galleylaw13_short.l0 : Nat → List (List (S70)) → Int → Int → Option (Bool)
 | 0, _, _, _ => none
 | k + 1, x1, x13, x14 => if x14 < x13 then (if 0 ≤ x14 then (if x14 < (x1.length : Int) then (if ((rd_L6 x1 x14).length : Int) > 200 then (some false) else (galleylaw13_short.l1 k x1 0 x13 x14 (rd_L6 x1 x14) ((rd_L6 x1 x14).length : Int) 0)) else (none)) else (none)) else (some true)
def galleylaw13_short.l1 : Nat → List (List (S70)) → Int → Int → Int → List (S70) → Int → Int → Option (Bool)
 | 0, _, _, _, _, _, _, _ => none
 | k + 1, x1, x6, x13, x14, x26, x27, x28 => if x28 < x27 then (if 0 ≤ x28 then (if x28 < (x26.length : Int) then (if ((rd_T70 x26 x28).f0) < 1 then (some false) else (if ((rd_T70 x26 x28).f0) > 3 then (some false) else (galleylaw13_short.l1 k x1 (wrap64 (x6 + (((rd_T70 x26 x28).f2).size : Int))) x13 x14 x26 x27 (wrap64 (x28 + 1))))) else (none)) else (none)) else (if x6 > 5000 then (some false) else (galleylaw13_short.l0 k x1 x13 (wrap64 (x14 + 1))))
end
def galleylaw13_short.f (k : Nat) (l0 : List Int) (l1 : List (List (S70))) : Option (Bool) := if (l0.length : Int) > 5000 then (some false) else (galleylaw13_short.l0 k l1 (l1.length : Int) 0)
set_option maxHeartbeats 8000000 in
set_option maxRecDepth 100000 in
theorem galleylaw13_short.calls (k : Nat) (A0 : Option Addr) (c0 : Nat) (l0 : List Int) (A1 : Option Addr) (c1 : Nat) (l1 : List (List (S70))) (r : Bool) (w : World) (hr0 : Kd.C (Kd.int .u8) w A0 l0.length l0) (hc0 : l0.length ≤ c0) (hr1 : Kd.C (Kd.slice 70 k70) w A1 l1.length l1) (hc1 : l1.length ≤ c1) (h : galleylaw13_short.f k l0 l1 = some r) :
  Calls Try.prog 47 #[.slice A0 l0.length c0, .slice A1 l1.length c1] w fun e w' => e = .returned (.bool r) ∧ Below w.heap.size w w' := by
 have hu70 := Try.underlying70
 have HR0 := Aside0.mk hr0
 have HC0 := Aside0.mk hc0
 clear hr0 hc0
 have HR1 := Aside0.mk hr1
 have HC1 := Aside0.mk hc1
 clear hr1 hc1
 have HB := Aside0.mk (Below.refl w.heap.size w)
 have H : (if (l0.length : Int) > 5000 then (some false) else (galleylaw13_short.l0 k l1 (l1.length : Int) 0)) = some r := h
 clear h
 by_cases c3 : (l0.length : Int) > 5000
 ·
  rw [if_pos c3] at H
  have c3b0 : decide (5000 < (l0.length : Int)) = true := decide_eq_true c3
  have c3b1 : decide (5000 < l0.length) = true := decide_eq_true (by omega)
  clear c3
  obtain rfl := Option.some.inj H
  go_enter Try.func47, Try.ntmps47
  go_wp2
  go_ret
  exact ⟨by first | rfl | (simp [errW_none, errW_some] <;> rfl) | (simp [*, errW_none, errW_some] <;> rfl), by repeat (first | (with_reducible first | exact HB.out | apply below_alloc | apply pw_below_drewN | apply below_drew1) | exact HB.out)⟩
 ·
  rw [if_neg c3] at H
  have c3b0 : decide (5000 < (l0.length : Int)) = false := decide_eq_false c3
  have c3b1 : decide (5000 < l0.length) = false := decide_eq_false (by omega)
  clear c3
  have H' := Aside0.mk H
  clear H
  go_enter Try.func47, Try.ntmps47
  go_wp2
  go_loopg [14] k (fun kq v14 w' => ∃ (x14_1 : Int), v14 = .int .i64 x14_1 ∧ Aside0 (galleylaw13_short.l0 kq l1 (l1.length : Int) x14_1 = some r) ∧ Aside0 (kq ≤ k) ∧ Aside0 (Below w.heap.size w w'))
  case atStart => exact ⟨(0), (by first | rfl | (simp; done) | (simp [*]; done) | (simp; exact isEmpty_bne _)), H', ⟨Nat.le_refl _⟩, ⟨by repeat (first | (with_reducible first | exact HB.out | apply below_alloc | apply pw_below_drewN | apply below_drew1) | exact HB.out)⟩⟩
  case round =>
   clear H'
   (try clear c1); (try clear p2); (try clear c3); (try clear c3b0); (try clear c3b1)
   obtain ⟨x14_1, rfl, HA, HK1, HB⟩ := hrel
   cases gk with
   | zero => exact absurd HA.out (by simp [galleylaw13_short.l0])
   | succ k1 =>
    have H := HA.out
    clear HA
    simp only [galleylaw13_short.l0] at H
    by_cases c4 : x14_1 < (l1.length : Int)
    ·
     rw [if_pos c4] at H
     have c4b0 : decide (x14_1 < (l1.length : Int)) = true := decide_eq_true c4
     clear c4
     by_cases c5 : 0 ≤ x14_1
     ·
      rw [if_pos c5] at H
      have c5b0 : decide (0 ≤ x14_1) = true := decide_eq_true c5
      clear c5
      by_cases c6 : x14_1 < (l1.length : Int)
      ·
       rw [if_pos c6] at H
       have c6b0 : decide (x14_1 < (l1.length : Int)) = true := decide_eq_true c6
       clear c6
       by_cases c7 : ((rd_L6 l1 x14_1).length : Int) > 200
       ·
        rw [if_pos c7] at H
        have c7b0 : decide (200 < ((rd_L6 l1 x14_1).length : Int)) = true := decide_eq_true c7
        have c7b1 : decide (200 < (rd_L6 l1 x14_1).length) = true := decide_eq_true (by omega)
        clear c7
        obtain rfl := Option.some.inj H
        have p590 : 0 ≤ (x14_1 : Int) := of_decide_eq_true (by first | (with_reducible assumption) | assumption)
        have q590 : x14_1 < (l1.length : Int) := of_decide_eq_true (by first | (with_reducible assumption) | assumption)
        obtain ⟨ad590, A590_0, c590_0, e590, hx590_0, hl590_0, hi590_0⟩ := at_L6 HR1.out x14_1 p590 q590
        cases e590
        replace hx590_0 := (HB.out.cell (World.block_lt_of_cell? w _ hx590_0)).trans hx590_0
        have HR590_0 := Aside0.mk hi590_0
        have HC590_0 := Aside0.mk hl590_0
        clear hi590_0 hl590_0
        replace p590 := eq_true p590
        replace q590 := eq_true q590
        go_wp2
        go_ret
        exact ⟨by first | rfl | (simp [errW_none, errW_some] <;> rfl) | (simp [*, errW_none, errW_some] <;> rfl), by repeat (first | (with_reducible first | exact HB.out | apply below_alloc | apply pw_below_drewN | apply below_drew1) | exact HB.out)⟩
       ·
        rw [if_neg c7] at H
        have c7b0 : decide (200 < ((rd_L6 l1 x14_1).length : Int)) = false := decide_eq_false c7
        have c7b1 : decide (200 < (rd_L6 l1 x14_1).length) = false := decide_eq_false (by omega)
        clear c7
        have H' := Aside0.mk H
        clear H
        have p590 : 0 ≤ (x14_1 : Int) := of_decide_eq_true (by first | (with_reducible assumption) | assumption)
        have q590 : x14_1 < (l1.length : Int) := of_decide_eq_true (by first | (with_reducible assumption) | assumption)
        obtain ⟨ad590, A590_0, c590_0, e590, hx590_0, hl590_0, hi590_0⟩ := at_L6 HR1.out x14_1 p590 q590
        cases e590
        replace hx590_0 := (HB.out.cell (World.block_lt_of_cell? w _ hx590_0)).trans hx590_0
        have HR590_0 := Aside0.mk hi590_0
        have HC590_0 := Aside0.mk hl590_0
        clear hi590_0 hl590_0
        replace p590 := eq_true p590
        replace q590 := eq_true q590
        have p591 : 0 ≤ (x14_1 : Int) := of_decide_eq_true (by first | (with_reducible assumption) | assumption)
        have q591 : x14_1 < (l1.length : Int) := of_decide_eq_true (by first | (with_reducible assumption) | assumption)
        obtain ⟨ad591, A591_0, c591_0, e591, hx591_0, hl591_0, hi591_0⟩ := at_L6 HR1.out x14_1 p591 q591
        obtain rfl : ad590 = ad591 := (by injection e591)
        replace hx591_0 := (HB.out.cell (World.block_lt_of_cell? w _ hx591_0)).trans hx591_0
        have HR591_0 := Aside0.mk hi591_0
        have HC591_0 := Aside0.mk hl591_0
        clear hi591_0 hl591_0
        replace p591 := eq_true p591
        replace q591 := eq_true q591
        have ea_ := Option.some.inj (hx590_0.symm.trans hx591_0)
        injection ea_ with ea_ en_ ec_
        subst ea_
        subst ec_
        clear en_
        go_wp2
        go_loopg [6, 28] k1 (fun kq v6 v28 w' => ∃ (x6_2 : Int) (x28_2 : Int), v6 = .int .i64 x6_2 ∧ v28 = .int .i64 x28_2 ∧ Aside0 (galleylaw13_short.l1 kq l1 x6_2 (l1.length : Int) x14_1 (rd_L6 l1 x14_1) ((rd_L6 l1 x14_1).length : Int) x28_2 = some r) ∧ Aside0 (kq ≤ k1) ∧ Aside0 (Below w.heap.size w w'))
        case atStart => exact ⟨(0), (0), (by first | rfl | (simp; done) | (simp [*]; done) | (simp; exact isEmpty_bne _)), (by first | rfl | (simp; done) | (simp [*]; done) | (simp; exact isEmpty_bne _)), H', ⟨Nat.le_refl _⟩, ⟨by repeat (first | (with_reducible first | exact HB.out | apply below_alloc | apply pw_below_drewN | apply below_drew1) | exact HB.out)⟩⟩
        case round =>
         clear H'
         (try clear c1); (try clear p2); (try clear c3); (try clear c3b0); (try clear c3b1); (try clear c4); (try clear c4b0); (try clear c5); (try clear c5b0); (try clear p5); (try clear q5); (try clear hx5); (try clear c6); (try clear c6b0); (try clear c7); (try clear c7b0); (try clear c7b1); (try clear hx590_0); (try clear hx591_0); (try clear p2); (try clear p590); (try clear p591); (try clear q590); (try clear q591)
         obtain ⟨x6_2, x28_2, rfl, rfl, HA, HK2, HB⟩ := hrel
         cases gk with
         | zero => exact absurd HA.out (by simp [galleylaw13_short.l1])
         | succ k2 =>
          have H := HA.out
          clear HA
          simp only [galleylaw13_short.l1] at H
          by_cases c8 : x28_2 < ((rd_L6 l1 x14_1).length : Int)
          ·
           rw [if_pos c8] at H
           have c8b0 : decide (x28_2 < ((rd_L6 l1 x14_1).length : Int)) = true := decide_eq_true c8
           clear c8
           by_cases c9 : 0 ≤ x28_2
           ·
            rw [if_pos c9] at H
            have c9b0 : decide (0 ≤ x28_2) = true := decide_eq_true c9
            clear c9
            by_cases c10 : x28_2 < ((rd_L6 l1 x14_1).length : Int)
            ·
             rw [if_pos c10] at H
             have c10b0 : decide (x28_2 < ((rd_L6 l1 x14_1).length : Int)) = true := decide_eq_true c10
             clear c10
             by_cases c11 : ((rd_T70 (rd_L6 l1 x14_1) x28_2).f0) < 1
             ·
              rw [if_pos c11] at H
              have c11b0 : decide (((rd_T70 (rd_L6 l1 x14_1) x28_2).f0) < 1) = true := decide_eq_true c11
              clear c11
              obtain rfl := Option.some.inj H
              have p592 : 0 ≤ (x28_2 : Int) := of_decide_eq_true (by first | (with_reducible assumption) | assumption)
              have q592 : x28_2 < ((rd_L6 l1 x14_1).length : Int) := of_decide_eq_true (by first | (with_reducible assumption) | assumption)
              obtain ⟨ad592, e592, hx592_0, hx592_1, hx592_2⟩ := at_T70 HR591_0.out x28_2 p592 q592
              cases e592
              replace hx592_0 := (HB.out.cell (World.block_lt_of_cell? w _ hx592_0)).trans hx592_0
              replace hx592_1 := (HB.out.cell (World.block_lt_of_cell? w _ hx592_1)).trans hx592_1
              replace hx592_2 := (HB.out.cell (World.block_lt_of_cell? w _ hx592_2)).trans hx592_2
              replace p592 := eq_true p592
              replace q592 := eq_true q592
              go_wp2_with (first | ((with_reducible refine gate_dst (N := 8) rfl ?_); refine box_event ?hg (N := 8) ?hd (cs := #[.int .i64 0, .int .i64 0, .string (⟨#[]⟩ : ByteArray)]) (t := 70) ?hr ?_; (case hd => rfl); (case hg => rfl); (case hr => first | (go_simp; done) | (go_simp; rfl)); intro gb593 hg w12 hbox hb; have n0_ := Aside0.mk (below_step (by repeat (first | (with_reducible first | exact HB.out | apply below_alloc | apply pw_below_drewN | apply below_drew1) | exact HB.out)) hb); have n1_ := Aside0.mk (hbox); have n2_ := Aside0.mk ((by rw [hg]; exact (below_size (by repeat (first | (with_reducible first | exact HB.out | apply below_alloc | apply pw_below_drewN | apply below_drew1) | exact HB.out))) : w.heap.size ≤ gb593)); have n3_ := Aside0.mk ((by rw [hg]; exact (below_size (by repeat (first | (with_reducible first | exact HB.out | apply below_alloc | apply pw_below_drewN | apply below_drew1) | exact HB.out))) : w.heap.size ≤ gb593)); clear HB; have HB := n0_; have BK593 := n1_; have GW593 := n2_; have GE593 := n3_; clear n0_ n1_ n2_ n3_; clear hb hbox hg; have hcz13_0 : w12.cell? ⟨gb593, 0, none⟩ = some (.int .i64 0) := (blk_cell BK593.out 0).trans rfl; have hcz13_1 : w12.cell? ⟨gb593, 1, none⟩ = some (.int .i64 0) := (blk_cell BK593.out 1).trans rfl; have hcz13_2 : w12.cell? ⟨gb593, 2, none⟩ = some (.string (⟨#[]⟩ : ByteArray)) := (blk_cell BK593.out 2).trans rfl; have hfz13_0 := blk_frozen BK593.out 0; have hfz13_1 := blk_frozen BK593.out 1; have hfz13_2 := blk_frozen BK593.out 2))
              go_ret
              exact ⟨by first | rfl | (simp [errW_none, errW_some] <;> rfl) | (simp [*, errW_none, errW_some] <;> rfl), by repeat (first | (with_reducible first | exact HB.out | apply below_alloc | apply pw_below_drewN | apply below_drew1 | refine below_set ?_ GE593.out) | exact HB.out)⟩
             ·
              rw [if_neg c11] at H
              have c11b0 : decide (((rd_T70 (rd_L6 l1 x14_1) x28_2).f0) < 1) = false := decide_eq_false c11
              clear c11
              by_cases c14 : ((rd_T70 (rd_L6 l1 x14_1) x28_2).f0) > 3
              ·
               rw [if_pos c14] at H
               have c14b0 : decide (3 < ((rd_T70 (rd_L6 l1 x14_1) x28_2).f0)) = true := decide_eq_true c14
               clear c14
               obtain rfl := Option.some.inj H
               have p592 : 0 ≤ (x28_2 : Int) := of_decide_eq_true (by first | (with_reducible assumption) | assumption)
               have q592 : x28_2 < ((rd_L6 l1 x14_1).length : Int) := of_decide_eq_true (by first | (with_reducible assumption) | assumption)
               obtain ⟨ad592, e592, hx592_0, hx592_1, hx592_2⟩ := at_T70 HR591_0.out x28_2 p592 q592
               cases e592
               replace hx592_0 := (HB.out.cell (World.block_lt_of_cell? w _ hx592_0)).trans hx592_0
               replace hx592_1 := (HB.out.cell (World.block_lt_of_cell? w _ hx592_1)).trans hx592_1
               replace hx592_2 := (HB.out.cell (World.block_lt_of_cell? w _ hx592_2)).trans hx592_2
               replace p592 := eq_true p592
               replace q592 := eq_true q592
               go_wp2_with (first | ((with_reducible refine gate_dst (N := 8) rfl ?_); refine box_event ?hg (N := 8) ?hd (cs := #[.int .i64 0, .int .i64 0, .string (⟨#[]⟩ : ByteArray)]) (t := 70) ?hr ?_; (case hd => rfl); (case hg => rfl); (case hr => first | (go_simp; done) | (go_simp; rfl)); intro gb593 hg w15 hbox hb; have n0_ := Aside0.mk (below_step (by repeat (first | (with_reducible first | exact HB.out | apply below_alloc | apply pw_below_drewN | apply below_drew1) | exact HB.out)) hb); have n1_ := Aside0.mk (hbox); have n2_ := Aside0.mk ((by rw [hg]; exact (below_size (by repeat (first | (with_reducible first | exact HB.out | apply below_alloc | apply pw_below_drewN | apply below_drew1) | exact HB.out))) : w.heap.size ≤ gb593)); have n3_ := Aside0.mk ((by rw [hg]; exact (below_size (by repeat (first | (with_reducible first | exact HB.out | apply below_alloc | apply pw_below_drewN | apply below_drew1) | exact HB.out))) : w.heap.size ≤ gb593)); clear HB; have HB := n0_; have BK593 := n1_; have GW593 := n2_; have GE593 := n3_; clear n0_ n1_ n2_ n3_; clear hb hbox hg; have hcz16_0 : w15.cell? ⟨gb593, 0, none⟩ = some (.int .i64 0) := (blk_cell BK593.out 0).trans rfl; have hcz16_1 : w15.cell? ⟨gb593, 1, none⟩ = some (.int .i64 0) := (blk_cell BK593.out 1).trans rfl; have hcz16_2 : w15.cell? ⟨gb593, 2, none⟩ = some (.string (⟨#[]⟩ : ByteArray)) := (blk_cell BK593.out 2).trans rfl; have hfz16_0 := blk_frozen BK593.out 0; have hfz16_1 := blk_frozen BK593.out 1; have hfz16_2 := blk_frozen BK593.out 2))
               go_ret
               exact ⟨by first | rfl | (simp [errW_none, errW_some] <;> rfl) | (simp [*, errW_none, errW_some] <;> rfl), by repeat (first | (with_reducible first | exact HB.out | apply below_alloc | apply pw_below_drewN | apply below_drew1 | refine below_set ?_ GE593.out) | exact HB.out)⟩
              ·
               rw [if_neg c14] at H
               have c14b0 : decide (3 < ((rd_T70 (rd_L6 l1 x14_1) x28_2).f0)) = false := decide_eq_false c14
               clear c14
               have H' := Aside0.mk H
               clear H
               have p592 : 0 ≤ (x28_2 : Int) := of_decide_eq_true (by first | (with_reducible assumption) | assumption)
               have q592 : x28_2 < ((rd_L6 l1 x14_1).length : Int) := of_decide_eq_true (by first | (with_reducible assumption) | assumption)
               obtain ⟨ad592, e592, hx592_0, hx592_1, hx592_2⟩ := at_T70 HR591_0.out x28_2 p592 q592
               cases e592
               replace hx592_0 := (HB.out.cell (World.block_lt_of_cell? w _ hx592_0)).trans hx592_0
               replace hx592_1 := (HB.out.cell (World.block_lt_of_cell? w _ hx592_1)).trans hx592_1
               replace hx592_2 := (HB.out.cell (World.block_lt_of_cell? w _ hx592_2)).trans hx592_2
               replace p592 := eq_true p592
               replace q592 := eq_true q592
               go_wp2_with (first | ((with_reducible refine gate_dst (N := 8) rfl ?_); refine box_event ?hg (N := 8) ?hd (cs := #[.int .i64 0, .int .i64 0, .string (⟨#[]⟩ : ByteArray)]) (t := 70) ?hr ?_; (case hd => rfl); (case hg => rfl); (case hr => first | (go_simp; done) | (go_simp; rfl)); intro gb593 hg w17 hbox hb; have n0_ := Aside0.mk (below_step (by repeat (first | (with_reducible first | exact HB.out | apply below_alloc | apply pw_below_drewN | apply below_drew1) | exact HB.out)) hb); have n1_ := Aside0.mk (hbox); have n2_ := Aside0.mk ((by rw [hg]; exact (below_size (by repeat (first | (with_reducible first | exact HB.out | apply below_alloc | apply pw_below_drewN | apply below_drew1) | exact HB.out))) : w.heap.size ≤ gb593)); have n3_ := Aside0.mk ((by rw [hg]; exact (below_size (by repeat (first | (with_reducible first | exact HB.out | apply below_alloc | apply pw_below_drewN | apply below_drew1) | exact HB.out))) : w.heap.size ≤ gb593)); clear HB; have HB := n0_; have BK593 := n1_; have GW593 := n2_; have GE593 := n3_; clear n0_ n1_ n2_ n3_; clear hb hbox hg; have hcz18_0 : w17.cell? ⟨gb593, 0, none⟩ = some (.int .i64 0) := (blk_cell BK593.out 0).trans rfl; have hcz18_1 : w17.cell? ⟨gb593, 1, none⟩ = some (.int .i64 0) := (blk_cell BK593.out 1).trans rfl; have hcz18_2 : w17.cell? ⟨gb593, 2, none⟩ = some (.string (⟨#[]⟩ : ByteArray)) := (blk_cell BK593.out 2).trans rfl; have hfz18_0 := blk_frozen BK593.out 0; have hfz18_1 := blk_frozen BK593.out 1; have hfz18_2 := blk_frozen BK593.out 2))
               go_roundg k2
               case measure => have := HK1.out; have := HK2.out; omega
               case rel => exact ⟨(wrap64 (x6_2 + (((rd_T70 (rd_L6 l1 x14_1) x28_2).f2).size : Int))), (wrap64 (x28_2 + 1)), (by first | rfl | (simp; done) | (simp [*]; done) | (simp; exact isEmpty_bne _)), (by first | rfl | (simp; done) | (simp [*]; done) | (simp; exact isEmpty_bne _)), H', ⟨by have := HK1.out; have := HK2.out; omega⟩, ⟨by repeat (first | (with_reducible first | exact HB.out | apply below_alloc | apply pw_below_drewN | apply below_drew1 | refine below_set ?_ GE593.out) | exact HB.out)⟩⟩
            ·
             rw [if_neg c10] at H
             exact absurd H (by simp)
           ·
            rw [if_neg c9] at H
            exact absurd H (by simp)
          ·
           rw [if_neg c8] at H
           have c8b0 : decide (x28_2 < ((rd_L6 l1 x14_1).length : Int)) = false := decide_eq_false c8
           clear c8
           by_cases c19 : x6_2 > 5000
           ·
            rw [if_pos c19] at H
            have c19b0 : decide (5000 < x6_2) = true := decide_eq_true c19
            clear c19
            obtain rfl := Option.some.inj H
            go_wp2
            go_ret
            exact ⟨by first | rfl | (simp [errW_none, errW_some] <;> rfl) | (simp [*, errW_none, errW_some] <;> rfl), by repeat (first | (with_reducible first | exact HB.out | apply below_alloc | apply pw_below_drewN | apply below_drew1) | exact HB.out)⟩
           ·
            rw [if_neg c19] at H
            have c19b0 : decide (5000 < x6_2) = false := decide_eq_false c19
            clear c19
            have H' := Aside0.mk H
            clear H
            go_wp2
            go_roundg k2
            case measure => have := HK1.out; have := HK2.out; omega
            case rel => exact ⟨(wrap64 (x14_1 + 1)), (by first | rfl | (simp; done) | (simp [*]; done) | (simp; exact isEmpty_bne _)), H', ⟨by have := HK1.out; have := HK2.out; omega⟩, ⟨by repeat (first | (with_reducible first | exact HB.out | apply below_alloc | apply pw_below_drewN | apply below_drew1) | exact HB.out)⟩⟩
      ·
       rw [if_neg c6] at H
       exact absurd H (by simp)
     ·
      rw [if_neg c5] at H
      exact absurd H (by simp)
    ·
     rw [if_neg c4] at H
     have c4b0 : decide (x14_1 < (l1.length : Int)) = false := decide_eq_false c4
     clear c4
     obtain rfl := Option.some.inj H
     go_wp2
     go_ret
     exact ⟨by first | rfl | (simp [errW_none, errW_some] <;> rfl) | (simp [*, errW_none, errW_some] <;> rfl), by repeat (first | (with_reducible first | exact HB.out | apply below_alloc | apply pw_below_drewN | apply below_drew1) | exact HB.out)⟩

end Go.Proofs.Ytidihnnkcmeaeaa.A
