/- Part of a claim: theorems about the program's functions, written by a program over the translation. No condition. -/
import Derived.Test.YtidihnnkcmeaeaaA0
import Derived.Test.YtidihnnkcmeaeaaMG1
import Derived.Test.YtidihnnkcmeaeaaA5
namespace Go.Proofs.Ytidihnnkcmeaeaa.A
open Go.RowKit Go.Proofs.YtidihnnkcmeaeaaW.PrintWords Go.Proofs.YtidihnnkcmeaeaaW.PrintLast Go.Proofs.YtidihnnkcmeaeaaW.PrintMore
attribute [local go_sem] max2_int min2_int max_two min_two max_three min_three max_four min_four
set_option linter.unusedVariables false
set_option linter.unusedSimpArgs false
mutual
def galleyref14_Valid.l0 : Nat → List (S70) → Int → Int → Option (Bool)
 | 0, _, _, _ => none
 | k + 1, x0, x3, x4 => if x4 < (x0.length : Int) then (if 0 ≤ x4 then (if ((rd_T70 x0 x4).f0) = 1 then (galleyref14_Valid.j1 k x0 x3 x4 ((rd_T70 x0 x4).f0) (((rd_T70 x0 x4).f0) == 1) ((rd_T70 x0 x4).f0) ((rd_T70 x0 x4).f1) ((rd_T70 x0 x4).f2)) else (galleyref14_Valid.j1 k x0 x3 x4 ((rd_T70 x0 x4).f0) (((rd_T70 x0 x4).f0) == 3) ((rd_T70 x0 x4).f0) ((rd_T70 x0 x4).f1) ((rd_T70 x0 x4).f2))) else (none)) else ((galleyref14_lens.f k x0).bind fun bt150 => (if bt150.1 ≤ 268435456 then (some (decide (bt150.2 ≤ 268435456))) else (some false)))
def galleyref14_Valid.j1 : Nat → List (S70) → Int → Int → Int → Bool → Int → Int → ByteArray → Option (Bool)
 | 0, _, _, _, _, _, _, _, _ => none
 | k + 1, x0, x3, x4, x19, x20, x154000, x154001, x154002 => if x20 = true then (if x154001 < 1 then (galleyref14_Valid.j2 k x0 x3 x4 true x154000 x154001 x154002) else (if x154001 > 268435456 then (galleyref14_Valid.j2 k x0 x3 x4 true x154000 x154001 x154002) else (galleyref14_Valid.j2 k x0 x3 x4 (x154002.toList != ([] : List UInt8)) x154000 x154001 x154002))) else (if x19 = 2 then (if x154001 = 0 then (galleyref14_Valid.j3 k x0 x3 x4 (x154002.toList == ([] : List UInt8)) x154000 x154001 x154002) else (galleyref14_Valid.j3 k x0 x3 x4 true x154000 x154001 x154002)) else (some false))
def galleyref14_Valid.j2 : Nat → List (S70) → Int → Int → Bool → Int → Int → ByteArray → Option (Bool)
 | 0, _, _, _, _, _, _, _ => none
 | k + 1, x0, x3, x4, x35, x154000, x154001, x154002 => if x35 = true then (some false) else (if (wrap64 (x3 + x154001)) > 268435456 then (some false) else (if x4 > 0 then (if 0 ≤ (wrap64 (x4 - 1)) then (if (wrap64 (x4 - 1)) < (x0.length : Int) then (if ((rd_T70 x0 (wrap64 (x4 - 1))).f0) = x154000 then (some false) else (if ((rd_T70 x0 (wrap64 (x4 - 1))).f0) = 3 then (if x154000 = 2 then (some false) else (galleyref14_Valid.l0 k x0 (wrap64 (x3 + x154001)) (wrap64 (x4 + 1)))) else (galleyref14_Valid.l0 k x0 (wrap64 (x3 + x154001)) (wrap64 (x4 + 1))))) else (none)) else (none)) else (galleyref14_Valid.l0 k x0 (wrap64 (x3 + x154001)) (wrap64 (x4 + 1)))))
def galleyref14_Valid.j3 : Nat → List (S70) → Int → Int → Bool → Int → Int → ByteArray → Option (Bool)
 | 0, _, _, _, _, _, _, _ => none
 | k + 1, x0, x3, x4, x49, x154000, x154001, x154002 => if x49 = true then (some false) else (if x3 > 268435456 then (some false) else (if x4 > 0 then (if 0 ≤ (wrap64 (x4 - 1)) then (if (wrap64 (x4 - 1)) < (x0.length : Int) then (if ((rd_T70 x0 (wrap64 (x4 - 1))).f0) = x154000 then (some false) else (if ((rd_T70 x0 (wrap64 (x4 - 1))).f0) = 3 then (if x154000 = 2 then (some false) else (galleyref14_Valid.l0 k x0 x3 (wrap64 (x4 + 1)))) else (galleyref14_Valid.l0 k x0 x3 (wrap64 (x4 + 1))))) else (none)) else (none)) else (galleyref14_Valid.l0 k x0 x3 (wrap64 (x4 + 1)))))
end
def galleyref14_Valid.f (k : Nat) (l0 : List (S70)) : Option (Bool) := galleyref14_Valid.l0 k l0 0 0
set_option maxHeartbeats 8000000 in
set_option maxRecDepth 100000 in
theorem galleyref14_Valid.calls (k : Nat) (A0 : Option Addr) (c0 : Nat) (l0 : List (S70)) (r : Bool) (w : World) (hr0 : Kd.C k70 w A0 l0.length l0) (hc0 : l0.length ≤ c0) (h : galleyref14_Valid.f k l0 = some r) :
  Calls Try.prog 88 #[.slice A0 l0.length c0] w fun e w' => e = .returned (.bool r) ∧ Below w.heap.size w w' := by
 have hu70 := Try.underlying70
 have HR0 := Aside0.mk hr0
 have HC0 := Aside0.mk hc0
 clear hr0 hc0
 have HB := Aside0.mk (Below.refl w.heap.size w)
 have H : (galleyref14_Valid.l0 k l0 0 0) = some r := h
 clear h
 have H' := Aside0.mk H
 clear H
 go_enter Try.func88, Try.ntmps88
 go_wp2
 repeat (go_quiet (fail); try go_wp2)
 go_loopg [3, 4] k (fun kq v3 v4 w' => ∃ (x3_1 : Int) (x4_1 : Int), v3 = .int .i64 x3_1 ∧ v4 = .int .i64 x4_1 ∧ Aside0 (galleyref14_Valid.l0 kq l0 x3_1 x4_1 = some r) ∧ Aside0 (kq ≤ k) ∧ Aside0 (Below w.heap.size w w'))
 case atStart => exact ⟨(0), (0), (by first | rfl | (simp; done) | (simp [*]; done) | (simp; exact isEmpty_bne _)), (by first | rfl | (simp; done) | (simp [*]; done) | (simp; exact isEmpty_bne _)), H', ⟨Nat.le_refl _⟩, ⟨by repeat (first | (with_reducible first | exact HB.out | apply below_alloc | apply pw_below_drewN | apply below_drew1) | exact HB.out)⟩⟩
 case round =>
  clear H'
  obtain ⟨x3_1, x4_1, rfl, rfl, HA, HK1, HB⟩ := hrel
  cases gk with
  | zero => exact absurd HA.out (by simp [galleyref14_Valid.l0])
  | succ k1 =>
   have H := HA.out
   clear HA
   simp only [galleyref14_Valid.l0] at H
   by_cases c2 : x4_1 < (l0.length : Int)
   ·
    rw [if_pos c2] at H
    have c2b0 : decide (x4_1 < (l0.length : Int)) = true := decide_eq_true c2
    clear c2
    by_cases c3 : 0 ≤ x4_1
    ·
     rw [if_pos c3] at H
     have c3b0 : decide (0 ≤ x4_1) = true := decide_eq_true c3
     clear c3
     have HC4 := Aside0.mk H
     clear H
     have p152 : 0 ≤ (x4_1 : Int) := of_decide_eq_true (by first | (with_reducible assumption) | assumption)
     have q152 : x4_1 < (l0.length : Int) := of_decide_eq_true (by first | (with_reducible assumption) | assumption)
     obtain ⟨ad152, e152, hx152_0, hx152_1, hx152_2⟩ := at_T70 HR0.out x4_1 p152 q152
     cases e152
     replace hx152_0 := (HB.out.cell (World.block_lt_of_cell? w _ hx152_0)).trans hx152_0
     replace hx152_1 := (HB.out.cell (World.block_lt_of_cell? w _ hx152_1)).trans hx152_1
     replace hx152_2 := (HB.out.cell (World.block_lt_of_cell? w _ hx152_2)).trans hx152_2
     replace p152 := eq_true p152
     replace q152 := eq_true q152
     go_upto_if 20 with (first | ((with_reducible refine gate_dst (N := 5) rfl ?_); refine box_event ?hg (N := 5) ?hd (cs := #[.int .i64 0, .int .i64 0, .string (⟨#[]⟩ : ByteArray)]) (t := 70) ?hr ?_; (case hd => rfl); (case hg => rfl); (case hr => first | (go_simp; done) | (go_simp; rfl)); intro gb153 hg w5 hbox hb; have n0_ := Aside0.mk (below_step (by repeat (first | (with_reducible first | exact HB.out | apply below_alloc | apply pw_below_drewN | apply below_drew1) | exact HB.out)) hb); have n1_ := Aside0.mk (hbox); have n2_ := Aside0.mk ((by rw [hg]; exact (below_size (by repeat (first | (with_reducible first | exact HB.out | apply below_alloc | apply pw_below_drewN | apply below_drew1) | exact HB.out))) : w.heap.size ≤ gb153)); have n3_ := Aside0.mk ((by rw [hg]; exact (below_size (by repeat (first | (with_reducible first | exact HB.out | apply below_alloc | apply pw_below_drewN | apply below_drew1) | exact HB.out))) : w.heap.size ≤ gb153)); clear HB; have HB := n0_; have BK153 := n1_; have GW153 := n2_; have GE153 := n3_; clear n0_ n1_ n2_ n3_; clear hb hbox hg; have hcz6_0 : w5.cell? ⟨gb153, 0, none⟩ = some (.int .i64 0) := (blk_cell BK153.out 0).trans rfl; have hcz6_1 : w5.cell? ⟨gb153, 1, none⟩ = some (.int .i64 0) := (blk_cell BK153.out 1).trans rfl; have hcz6_2 : w5.cell? ⟨gb153, 2, none⟩ = some (.string (⟨#[]⟩ : ByteArray)) := (blk_cell BK153.out 2).trans rfl; have hfz6_0 := blk_frozen BK153.out 0; have hfz6_1 := blk_frozen BK153.out 1; have hfz6_2 := blk_frozen BK153.out 2))
     repeat (go_quiet (first | ((with_reducible refine gate_dst (N := 5) rfl ?_); refine box_event ?hg (N := 5) ?hd (cs := #[.int .i64 0, .int .i64 0, .string (⟨#[]⟩ : ByteArray)]) (t := 70) ?hr ?_; (case hd => rfl); (case hg => rfl); (case hr => first | (go_simp; done) | (go_simp; rfl)); intro gb153 hg w5 hbox hb; have n0_ := Aside0.mk (below_step (by repeat (first | (with_reducible first | exact HB.out | apply below_alloc | apply pw_below_drewN | apply below_drew1) | exact HB.out)) hb); have n1_ := Aside0.mk (hbox); have n2_ := Aside0.mk ((by rw [hg]; exact (below_size (by repeat (first | (with_reducible first | exact HB.out | apply below_alloc | apply pw_below_drewN | apply below_drew1) | exact HB.out))) : w.heap.size ≤ gb153)); have n3_ := Aside0.mk ((by rw [hg]; exact (below_size (by repeat (first | (with_reducible first | exact HB.out | apply below_alloc | apply pw_below_drewN | apply below_drew1) | exact HB.out))) : w.heap.size ≤ gb153)); clear HB; have HB := n0_; have BK153 := n1_; have GW153 := n2_; have GE153 := n3_; clear n0_ n1_ n2_ n3_; clear hb hbox hg; have hcz6_0 : w5.cell? ⟨gb153, 0, none⟩ = some (.int .i64 0) := (blk_cell BK153.out 0).trans rfl; have hcz6_1 : w5.cell? ⟨gb153, 1, none⟩ = some (.int .i64 0) := (blk_cell BK153.out 1).trans rfl; have hcz6_2 : w5.cell? ⟨gb153, 2, none⟩ = some (.string (⟨#[]⟩ : ByteArray)) := (blk_cell BK153.out 2).trans rfl; have hfz6_0 := blk_frozen BK153.out 0; have hfz6_1 := blk_frozen BK153.out 1; have hfz6_2 := blk_frozen BK153.out 2)); go_upto_if 20 with (first | ((with_reducible refine gate_dst (N := 5) rfl ?_); refine box_event ?hg (N := 5) ?hd (cs := #[.int .i64 0, .int .i64 0, .string (⟨#[]⟩ : ByteArray)]) (t := 70) ?hr ?_; (case hd => rfl); (case hg => rfl); (case hr => first | (go_simp; done) | (go_simp; rfl)); intro gb153 hg w5 hbox hb; have n0_ := Aside0.mk (below_step (by repeat (first | (with_reducible first | exact HB.out | apply below_alloc | apply pw_below_drewN | apply below_drew1) | exact HB.out)) hb); have n1_ := Aside0.mk (hbox); have n2_ := Aside0.mk ((by rw [hg]; exact (below_size (by repeat (first | (with_reducible first | exact HB.out | apply below_alloc | apply pw_below_drewN | apply below_drew1) | exact HB.out))) : w.heap.size ≤ gb153)); have n3_ := Aside0.mk ((by rw [hg]; exact (below_size (by repeat (first | (with_reducible first | exact HB.out | apply below_alloc | apply pw_below_drewN | apply below_drew1) | exact HB.out))) : w.heap.size ≤ gb153)); clear HB; have HB := n0_; have BK153 := n1_; have GW153 := n2_; have GE153 := n3_; clear n0_ n1_ n2_ n3_; clear hb hbox hg; have hcz6_0 : w5.cell? ⟨gb153, 0, none⟩ = some (.int .i64 0) := (blk_cell BK153.out 0).trans rfl; have hcz6_1 : w5.cell? ⟨gb153, 1, none⟩ = some (.int .i64 0) := (blk_cell BK153.out 1).trans rfl; have hcz6_2 : w5.cell? ⟨gb153, 2, none⟩ = some (.string (⟨#[]⟩ : ByteArray)) := (blk_cell BK153.out 2).trans rfl; have hfz6_0 := blk_frozen BK153.out 0; have hfz6_1 := blk_frozen BK153.out 1; have hfz6_2 := blk_frozen BK153.out 2)))
     (try simp only [Act.put, List.setIfInBounds_toArray, List.set_cons_zero, List.set_cons_succ])
     go_cut [20] (fun v20 wc => ∃ (kq : Nat) (x20_3 : Bool), v20 = .bool x20_3 ∧ Aside0 (galleyref14_Valid.j1 kq l0 x3_1 x4_1 ((rd_T70 l0 x4_1).f0) x20_3 ((rd_T70 l0 x4_1).f0) ((rd_T70 l0 x4_1).f1) ((rd_T70 l0 x4_1).f2) = some r) ∧ Aside0 (kq ≤ k1) ∧ Aside0 (wc.heap[gb153]? = some (.cells #[.int .i64 ((rd_T70 l0 x4_1).f0), .int .i64 ((rd_T70 l0 x4_1).f1), .string ((rd_T70 l0 x4_1).f2)] 70 (0, 0))) ∧ Aside0 (Below w.heap.size w wc))
     case first =>
      have H := HC4.out
      clear HC4
      by_cases c7 : ((rd_T70 l0 x4_1).f0) = 1
      ·
       rw [if_pos c7] at H
       have c7b0 : (((rd_T70 l0 x4_1).f0) == 1) = true := beq_iff_eq.mpr c7
       have c7b1 : (((rd_T70 l0 x4_1).f0) != 1) = false := bne_eq_false_iff_eq.mpr c7
       clear c7
       (first | rw [c7b0] | (simp only [i64_w, i32_w]; rw [c7b0]) | skip)
       have H' := Aside0.mk H
       clear H
       go_wp2
       repeat (go_quiet (fail); try go_wp2)
       go_meet
       case rel => exact ⟨_, ((((rd_T70 l0 x4_1).f0) == 1)), (by first | rfl | (simp; done) | (simp [*]; done) | (simp; exact isEmpty_bne _)), H', ⟨by have := HK1.out; first | omega | exact Nat.le_refl _⟩, ⟨by (with_reducible repeat (first | refine blk_drewN ?_ _ | refine blk_drew ?_ | refine blk_alloc ?_ _)); refine blk_put (cs := #[.int .i64 ((rd_T70 l0 x4_1).f0), .int .i64 ((rd_T70 l0 x4_1).f1), .string (⟨#[]⟩ : ByteArray)]) ?_ 2 _ rfl; (with_reducible repeat (first | refine blk_drewN ?_ _ | refine blk_drew ?_ | refine blk_alloc ?_ _)); refine blk_put (cs := #[.int .i64 ((rd_T70 l0 x4_1).f0), .int .i64 0, .string (⟨#[]⟩ : ByteArray)]) ?_ 1 _ rfl; (with_reducible repeat (first | refine blk_drewN ?_ _ | refine blk_drew ?_ | refine blk_alloc ?_ _)); refine blk_put (cs := #[.int .i64 0, .int .i64 0, .string (⟨#[]⟩ : ByteArray)]) ?_ 0 _ rfl; (with_reducible repeat (first | refine blk_drewN ?_ _ | refine blk_drew ?_ | refine blk_alloc ?_ _)); exact BK153.out⟩, ⟨by repeat (first | (with_reducible first | exact HB.out | apply below_alloc | apply pw_below_drewN | apply below_drew1 | refine below_set ?_ GE153.out) | exact HB.out)⟩⟩
      ·
       rw [if_neg c7] at H
       have c7b0 : (((rd_T70 l0 x4_1).f0) == 1) = false := beq_eq_false_iff_ne.mpr c7
       have c7b1 : (((rd_T70 l0 x4_1).f0) != 1) = true := bne_iff_ne.mpr c7
       (first | rw [c7b0] | (simp only [i64_w, i32_w]; rw [c7b0]) | skip)
       have H' := Aside0.mk H
       clear H
       go_wp2
       repeat (go_quiet (fail); try go_wp2)
       go_meet
       case rel => exact ⟨_, ((((rd_T70 l0 x4_1).f0) == 3)), (by first | rfl | (simp; done) | (simp [*]; done) | (simp; exact isEmpty_bne _)), H', ⟨by have := HK1.out; first | omega | exact Nat.le_refl _⟩, ⟨by (with_reducible repeat (first | refine blk_drewN ?_ _ | refine blk_drew ?_ | refine blk_alloc ?_ _)); refine blk_put (cs := #[.int .i64 ((rd_T70 l0 x4_1).f0), .int .i64 ((rd_T70 l0 x4_1).f1), .string (⟨#[]⟩ : ByteArray)]) ?_ 2 _ rfl; (with_reducible repeat (first | refine blk_drewN ?_ _ | refine blk_drew ?_ | refine blk_alloc ?_ _)); refine blk_put (cs := #[.int .i64 ((rd_T70 l0 x4_1).f0), .int .i64 0, .string (⟨#[]⟩ : ByteArray)]) ?_ 1 _ rfl; (with_reducible repeat (first | refine blk_drewN ?_ _ | refine blk_drew ?_ | refine blk_alloc ?_ _)); refine blk_put (cs := #[.int .i64 0, .int .i64 0, .string (⟨#[]⟩ : ByteArray)]) ?_ 0 _ rfl; (with_reducible repeat (first | refine blk_drewN ?_ _ | refine blk_drew ?_ | refine blk_alloc ?_ _)); exact BK153.out⟩, ⟨by repeat (first | (with_reducible first | exact HB.out | apply below_alloc | apply pw_below_drewN | apply below_drew1 | refine below_set ?_ GE153.out) | exact HB.out)⟩⟩
     case rest =>
      clear HC4
      (try clear p1); (try clear q1); (try clear hx1); (try clear c2); (try clear c2b0); (try clear p2); (try clear c3); (try clear c3b0); (try clear c7); (try clear c7b0); (try clear c7b1); (try clear hcz6_0); (try clear hcz6_1); (try clear hcz6_2); (try clear hfz6_0); (try clear hfz6_1); (try clear hfz6_2); (try clear hx152_0); (try clear hx152_1); (try clear hx152_2); (try clear p152); (try clear q152)
      obtain ⟨kq, x20_3, rfl, HA, HJ3, BK153, HB⟩ := hcut
      cases kq with
      | zero => exact absurd HA.out (by simp [galleyref14_Valid.j1])
      | succ kj3 =>
       have H := HA.out
       clear HA
       simp only [galleyref14_Valid.j1] at H
       by_cases c8 : x20_3 = true
       ·
        subst c8
        have H1 : (if ((rd_T70 l0 x4_1).f1) < 1 then (galleyref14_Valid.j2 kj3 l0 x3_1 x4_1 true ((rd_T70 l0 x4_1).f0) ((rd_T70 l0 x4_1).f1) ((rd_T70 l0 x4_1).f2)) else (if ((rd_T70 l0 x4_1).f1) > 268435456 then (galleyref14_Valid.j2 kj3 l0 x3_1 x4_1 true ((rd_T70 l0 x4_1).f0) ((rd_T70 l0 x4_1).f1) ((rd_T70 l0 x4_1).f2)) else (galleyref14_Valid.j2 kj3 l0 x3_1 x4_1 (((rd_T70 l0 x4_1).f2).toList != ([] : List UInt8)) ((rd_T70 l0 x4_1).f0) ((rd_T70 l0 x4_1).f1) ((rd_T70 l0 x4_1).f2)))) = some r := by rw [if_pos rfl] at H; exact H
        clear H
        have H := H1
        clear H1
        have HC9 := Aside0.mk H
        clear H
        go_upto_region 10 with (fail)
        repeat (go_quiet (fail); go_upto_region 10 with (fail))
        go_cut [35] (fun v35 wc => ∃ (kq : Nat) (x35_8 : Bool), v35 = .bool x35_8 ∧ Aside0 (galleyref14_Valid.j2 kq l0 x3_1 x4_1 x35_8 ((rd_T70 l0 x4_1).f0) ((rd_T70 l0 x4_1).f1) ((rd_T70 l0 x4_1).f2) = some r) ∧ Aside0 (kq ≤ kj3) ∧ Aside0 (wc.heap[gb153]? = some (.cells #[.int .i64 ((rd_T70 l0 x4_1).f0), .int .i64 ((rd_T70 l0 x4_1).f1), .string ((rd_T70 l0 x4_1).f2)] 70 (0, 0))) ∧ Aside0 (Below w.heap.size w wc))
        case first =>
         have H := HC9.out
         clear HC9
         by_cases c10 : ((rd_T70 l0 x4_1).f1) < 1
         ·
          rw [if_pos c10] at H
          have c10b0 : decide (((rd_T70 l0 x4_1).f1) < 1) = true := decide_eq_true c10
          clear c10
          (first | rw [c10b0] | (simp only [i64_w, i32_w]; rw [c10b0]) | skip)
          have H' := Aside0.mk H
          clear H
          have hcz11_0 : wc.cell? ⟨gb153, 0, none⟩ = some (.int .i64 ((rd_T70 l0 x4_1).f0)) := (blk_cell BK153.out 0).trans rfl
          have hcz11_1 : wc.cell? ⟨gb153, 1, none⟩ = some (.int .i64 ((rd_T70 l0 x4_1).f1)) := (blk_cell BK153.out 1).trans rfl
          have hcz11_2 : wc.cell? ⟨gb153, 2, none⟩ = some (.string ((rd_T70 l0 x4_1).f2)) := (blk_cell BK153.out 2).trans rfl
          have hfz11_0 := blk_frozen BK153.out 0
          have hfz11_1 := blk_frozen BK153.out 1
          have hfz11_2 := blk_frozen BK153.out 2
          go_wp2
          repeat (go_quiet (fail); try go_wp2)
          go_meet
          case rel => exact ⟨_, (true), (by first | rfl | (simp; done) | (simp [*]; done) | (simp; exact isEmpty_bne _)), H', ⟨by have := HK1.out; have := HJ3.out; first | omega | exact Nat.le_refl _⟩, ⟨by (with_reducible repeat (first | refine blk_drewN ?_ _ | refine blk_drew ?_ | refine blk_alloc ?_ _)); exact BK153.out⟩, ⟨by repeat (first | (with_reducible first | exact HB.out | apply below_alloc | apply pw_below_drewN | apply below_drew1 | refine below_set ?_ GE153.out) | exact HB.out)⟩⟩
         ·
          rw [if_neg c10] at H
          have c10b0 : decide (((rd_T70 l0 x4_1).f1) < 1) = false := decide_eq_false c10
          clear c10
          (first | rw [c10b0] | (simp only [i64_w, i32_w]; rw [c10b0]) | skip)
          by_cases c12 : ((rd_T70 l0 x4_1).f1) > 268435456
          ·
           rw [if_pos c12] at H
           have c12b0 : decide (268435456 < ((rd_T70 l0 x4_1).f1)) = true := decide_eq_true c12
           clear c12
           have H' := Aside0.mk H
           clear H
           have hcz13_0 : wc.cell? ⟨gb153, 0, none⟩ = some (.int .i64 ((rd_T70 l0 x4_1).f0)) := (blk_cell BK153.out 0).trans rfl
           have hcz13_1 : wc.cell? ⟨gb153, 1, none⟩ = some (.int .i64 ((rd_T70 l0 x4_1).f1)) := (blk_cell BK153.out 1).trans rfl
           have hcz13_2 : wc.cell? ⟨gb153, 2, none⟩ = some (.string ((rd_T70 l0 x4_1).f2)) := (blk_cell BK153.out 2).trans rfl
           have hfz13_0 := blk_frozen BK153.out 0
           have hfz13_1 := blk_frozen BK153.out 1
           have hfz13_2 := blk_frozen BK153.out 2
           go_wp2
           repeat (go_quiet (fail); try go_wp2)
           go_meet
           case rel => exact ⟨_, (true), (by first | rfl | (simp; done) | (simp [*]; done) | (simp; exact isEmpty_bne _)), H', ⟨by have := HK1.out; have := HJ3.out; first | omega | exact Nat.le_refl _⟩, ⟨by (with_reducible repeat (first | refine blk_drewN ?_ _ | refine blk_drew ?_ | refine blk_alloc ?_ _)); exact BK153.out⟩, ⟨by repeat (first | (with_reducible first | exact HB.out | apply below_alloc | apply pw_below_drewN | apply below_drew1 | refine below_set ?_ GE153.out) | exact HB.out)⟩⟩
          ·
           rw [if_neg c12] at H
           have c12b0 : decide (268435456 < ((rd_T70 l0 x4_1).f1)) = false := decide_eq_false c12
           clear c12
           have H' := Aside0.mk H
           clear H
           have hcz14_0 : wc.cell? ⟨gb153, 0, none⟩ = some (.int .i64 ((rd_T70 l0 x4_1).f0)) := (blk_cell BK153.out 0).trans rfl
           have hcz14_1 : wc.cell? ⟨gb153, 1, none⟩ = some (.int .i64 ((rd_T70 l0 x4_1).f1)) := (blk_cell BK153.out 1).trans rfl
           have hcz14_2 : wc.cell? ⟨gb153, 2, none⟩ = some (.string ((rd_T70 l0 x4_1).f2)) := (blk_cell BK153.out 2).trans rfl
           have hfz14_0 := blk_frozen BK153.out 0
           have hfz14_1 := blk_frozen BK153.out 1
           have hfz14_2 := blk_frozen BK153.out 2
           go_wp2
           repeat (go_quiet (fail); try go_wp2)
           go_meet
           case rel => exact ⟨_, ((((rd_T70 l0 x4_1).f2).toList != ([] : List UInt8))), (by first | rfl | (simp; done) | (simp [*]; done) | (simp; exact isEmpty_bne _)), H', ⟨by have := HK1.out; have := HJ3.out; first | omega | exact Nat.le_refl _⟩, ⟨by (with_reducible repeat (first | refine blk_drewN ?_ _ | refine blk_drew ?_ | refine blk_alloc ?_ _)); exact BK153.out⟩, ⟨by repeat (first | (with_reducible first | exact HB.out | apply below_alloc | apply pw_below_drewN | apply below_drew1 | refine below_set ?_ GE153.out) | exact HB.out)⟩⟩
        case rest =>
         clear HC9
         (try clear c1); (try clear p1); (try clear q1); (try clear hx1); (try clear c2); (try clear c2b0); (try clear p2); (try clear c3); (try clear c3b0); (try clear c7); (try clear c7b0); (try clear c7b1); (try clear c8); (try clear c10); (try clear c10b0); (try clear c12); (try clear c12b0); (try clear hcz11_0); (try clear hcz11_1); (try clear hcz11_2); (try clear hcz13_0); (try clear hcz13_1); (try clear hcz13_2); (try clear hcz14_0); (try clear hcz14_1); (try clear hcz14_2); (try clear hcz6_0); (try clear hcz6_1); (try clear hcz6_2); (try clear hfz11_0); (try clear hfz11_1); (try clear hfz11_2); (try clear hfz13_0); (try clear hfz13_1); (try clear hfz13_2); (try clear hfz14_0); (try clear hfz14_1); (try clear hfz14_2); (try clear hfz6_0); (try clear hfz6_1); (try clear hfz6_2); (try clear hx152_0); (try clear hx152_1); (try clear hx152_2); (try clear p1); (try clear p152); (try clear p2); (try clear q1); (try clear q152)
         obtain ⟨kq, x35_8, rfl, HA, HJ8, BK153, HB⟩ := hcut
         cases kq with
         | zero => exact absurd HA.out (by simp [galleyref14_Valid.j2])
         | succ kj8 =>
          have H := HA.out
          clear HA
          simp only [galleyref14_Valid.j2] at H
          by_cases c15 : x35_8 = true
          ·
           subst c15
           have H1 : (some false) = some r := by rw [if_pos rfl] at H; exact H
           clear H
           have H := H1
           clear H1
           obtain rfl := Option.some.inj H
           go_wp2
           repeat (go_quiet (fail); try go_wp2)
           go_ret
           exact ⟨by first | rfl | (simp [errW_none, errW_some] <;> rfl) | (simp [*, errW_none, errW_some] <;> rfl), by repeat (first | (with_reducible first | exact HB.out | apply below_alloc | apply pw_below_drewN | apply below_drew1 | refine below_set ?_ GE153.out) | exact HB.out)⟩
          ·
           replace c15 := Bool.eq_false_iff.mpr c15
           subst c15
           have H1 : (if (wrap64 (x3_1 + ((rd_T70 l0 x4_1).f1))) > 268435456 then (some false) else (if x4_1 > 0 then (if 0 ≤ (wrap64 (x4_1 - 1)) then (if (wrap64 (x4_1 - 1)) < (l0.length : Int) then (if ((rd_T70 l0 (wrap64 (x4_1 - 1))).f0) = ((rd_T70 l0 x4_1).f0) then (some false) else (if ((rd_T70 l0 (wrap64 (x4_1 - 1))).f0) = 3 then (if ((rd_T70 l0 x4_1).f0) = 2 then (some false) else (galleyref14_Valid.l0 kj8 l0 (wrap64 (x3_1 + ((rd_T70 l0 x4_1).f1))) (wrap64 (x4_1 + 1)))) else (galleyref14_Valid.l0 kj8 l0 (wrap64 (x3_1 + ((rd_T70 l0 x4_1).f1))) (wrap64 (x4_1 + 1))))) else (none)) else (none)) else (galleyref14_Valid.l0 kj8 l0 (wrap64 (x3_1 + ((rd_T70 l0 x4_1).f1))) (wrap64 (x4_1 + 1))))) = some r := by rw [if_neg (show ¬ (false = true) by decide)] at H; exact H
           clear H
           have H := H1
           clear H1
           by_cases c16 : (wrap64 (x3_1 + ((rd_T70 l0 x4_1).f1))) > 268435456
           ·
            rw [if_pos c16] at H
            have c16b0 : decide (268435456 < (wrap64 (x3_1 + ((rd_T70 l0 x4_1).f1)))) = true := decide_eq_true c16
            clear c16
            obtain rfl := Option.some.inj H
            have hcz17_0 : wc.cell? ⟨gb153, 0, none⟩ = some (.int .i64 ((rd_T70 l0 x4_1).f0)) := (blk_cell BK153.out 0).trans rfl
            have hcz17_1 : wc.cell? ⟨gb153, 1, none⟩ = some (.int .i64 ((rd_T70 l0 x4_1).f1)) := (blk_cell BK153.out 1).trans rfl
            have hcz17_2 : wc.cell? ⟨gb153, 2, none⟩ = some (.string ((rd_T70 l0 x4_1).f2)) := (blk_cell BK153.out 2).trans rfl
            have hfz17_0 := blk_frozen BK153.out 0
            have hfz17_1 := blk_frozen BK153.out 1
            have hfz17_2 := blk_frozen BK153.out 2
            go_wp2
            repeat (go_quiet (fail); try go_wp2)
            go_ret
            exact ⟨by first | rfl | (simp [errW_none, errW_some] <;> rfl) | (simp [*, errW_none, errW_some] <;> rfl), by repeat (first | (with_reducible first | exact HB.out | apply below_alloc | apply pw_below_drewN | apply below_drew1 | refine below_set ?_ GE153.out) | exact HB.out)⟩
           ·
            rw [if_neg c16] at H
            have c16b0 : decide (268435456 < (wrap64 (x3_1 + ((rd_T70 l0 x4_1).f1)))) = false := decide_eq_false c16
            clear c16
            by_cases c18 : x4_1 > 0
            ·
             rw [if_pos c18] at H
             have c18b0 : decide (0 < x4_1) = true := decide_eq_true c18
             clear c18
             obtain ⟨ji19, hji19⟩ : ∃ j_ : Int, (wrap64 (x4_1 - 1)) = j_ := ⟨_, rfl⟩
             replace H : (if 0 ≤ (ji19) then (if (ji19) < (l0.length : Int) then (if ((rd_T70 l0 (ji19)).f0) = ((rd_T70 l0 x4_1).f0) then (some false) else (if ((rd_T70 l0 (ji19)).f0) = 3 then (if ((rd_T70 l0 x4_1).f0) = 2 then (some false) else (galleyref14_Valid.l0 kj8 l0 (wrap64 (x3_1 + ((rd_T70 l0 x4_1).f1))) (wrap64 (x4_1 + 1)))) else (galleyref14_Valid.l0 kj8 l0 (wrap64 (x3_1 + ((rd_T70 l0 x4_1).f1))) (wrap64 (x4_1 + 1))))) else (none)) else (none)) = some r := by first | (rw [hji19] at H; exact H) | (simp only [hji19] at H ⊢; exact H)
             have hji19w : (IntKind.i64.wrap (x4_1 - 1)) = ji19 := (i64_w _).trans hji19
             by_cases c20 : 0 ≤ (ji19)
             ·
              rw [if_pos c20] at H
              have c20b0 : decide (0 ≤ (ji19)) = true := decide_eq_true c20
              clear c20
              by_cases c21 : (ji19) < (l0.length : Int)
              ·
               rw [if_pos c21] at H
               have c21b0 : decide ((ji19) < (l0.length : Int)) = true := decide_eq_true c21
               clear c21
               by_cases c22 : ((rd_T70 l0 (ji19)).f0) = ((rd_T70 l0 x4_1).f0)
               ·
                rw [if_pos c22] at H
                have c22b0 : (((rd_T70 l0 (ji19)).f0) == ((rd_T70 l0 x4_1).f0)) = true := beq_iff_eq.mpr c22
                have c22b1 : (((rd_T70 l0 (ji19)).f0) != ((rd_T70 l0 x4_1).f0)) = false := bne_eq_false_iff_eq.mpr c22
                clear c22
                obtain rfl := Option.some.inj H
                have hcz23_0 : wc.cell? ⟨gb153, 0, none⟩ = some (.int .i64 ((rd_T70 l0 x4_1).f0)) := (blk_cell BK153.out 0).trans rfl
                have hcz23_1 : wc.cell? ⟨gb153, 1, none⟩ = some (.int .i64 ((rd_T70 l0 x4_1).f1)) := (blk_cell BK153.out 1).trans rfl
                have hcz23_2 : wc.cell? ⟨gb153, 2, none⟩ = some (.string ((rd_T70 l0 x4_1).f2)) := (blk_cell BK153.out 2).trans rfl
                have hfz23_0 := blk_frozen BK153.out 0
                have hfz23_1 := blk_frozen BK153.out 1
                have hfz23_2 := blk_frozen BK153.out 2
                have p154 : 0 ≤ ((ji19) : Int) := of_decide_eq_true (by first | (with_reducible assumption) | assumption)
                have q154 : (ji19) < (l0.length : Int) := of_decide_eq_true (by first | (with_reducible assumption) | assumption)
                obtain ⟨ad154, e154, hx154_0, hx154_1, hx154_2⟩ := at_T70 HR0.out (ji19) p154 q154
                obtain rfl : ad152 = ad154 := (by injection e154)
                replace hx154_0 := (HB.out.cell (World.block_lt_of_cell? w _ hx154_0)).trans hx154_0
                replace hx154_1 := (HB.out.cell (World.block_lt_of_cell? w _ hx154_1)).trans hx154_1
                replace hx154_2 := (HB.out.cell (World.block_lt_of_cell? w _ hx154_2)).trans hx154_2
                replace p154 := eq_true p154
                replace q154 := eq_true q154
                go_wp2
                repeat (go_quiet (fail); try go_wp2)
                go_ret
                exact ⟨by first | rfl | (simp [errW_none, errW_some] <;> rfl) | (simp only [← hji19]; first | rfl | (simp [errW_none, errW_some] <;> rfl)) | (simp [*, errW_none, errW_some] <;> rfl), by repeat (first | (with_reducible first | exact HB.out | apply below_alloc | apply pw_below_drewN | apply below_drew1 | refine below_set ?_ GE153.out) | exact HB.out)⟩
               ·
                rw [if_neg c22] at H
                have c22b0 : (((rd_T70 l0 (ji19)).f0) == ((rd_T70 l0 x4_1).f0)) = false := beq_eq_false_iff_ne.mpr c22
                have c22b1 : (((rd_T70 l0 (ji19)).f0) != ((rd_T70 l0 x4_1).f0)) = true := bne_iff_ne.mpr c22
                by_cases c24 : ((rd_T70 l0 (ji19)).f0) = 3
                ·
                 rw [if_pos c24] at H
                 have c24b0 : (((rd_T70 l0 (ji19)).f0) == 3) = true := beq_iff_eq.mpr c24
                 have c24b1 : (((rd_T70 l0 (ji19)).f0) != 3) = false := bne_eq_false_iff_eq.mpr c24
                 clear c24
                 by_cases c25 : ((rd_T70 l0 x4_1).f0) = 2
                 ·
                  rw [if_pos c25] at H
                  have c25b0 : (((rd_T70 l0 x4_1).f0) == 2) = true := beq_iff_eq.mpr c25
                  have c25b1 : (((rd_T70 l0 x4_1).f0) != 2) = false := bne_eq_false_iff_eq.mpr c25
                  clear c25
                  obtain rfl := Option.some.inj H
                  have hcz26_0 : wc.cell? ⟨gb153, 0, none⟩ = some (.int .i64 ((rd_T70 l0 x4_1).f0)) := (blk_cell BK153.out 0).trans rfl
                  have hcz26_1 : wc.cell? ⟨gb153, 1, none⟩ = some (.int .i64 ((rd_T70 l0 x4_1).f1)) := (blk_cell BK153.out 1).trans rfl
                  have hcz26_2 : wc.cell? ⟨gb153, 2, none⟩ = some (.string ((rd_T70 l0 x4_1).f2)) := (blk_cell BK153.out 2).trans rfl
                  have hfz26_0 := blk_frozen BK153.out 0
                  have hfz26_1 := blk_frozen BK153.out 1
                  have hfz26_2 := blk_frozen BK153.out 2
                  have p154 : 0 ≤ ((ji19) : Int) := of_decide_eq_true (by first | (with_reducible assumption) | assumption)
                  have q154 : (ji19) < (l0.length : Int) := of_decide_eq_true (by first | (with_reducible assumption) | assumption)
                  obtain ⟨ad154, e154, hx154_0, hx154_1, hx154_2⟩ := at_T70 HR0.out (ji19) p154 q154
                  obtain rfl : ad152 = ad154 := (by injection e154)
                  replace hx154_0 := (HB.out.cell (World.block_lt_of_cell? w _ hx154_0)).trans hx154_0
                  replace hx154_1 := (HB.out.cell (World.block_lt_of_cell? w _ hx154_1)).trans hx154_1
                  replace hx154_2 := (HB.out.cell (World.block_lt_of_cell? w _ hx154_2)).trans hx154_2
                  replace p154 := eq_true p154
                  replace q154 := eq_true q154
                  have p155 : 0 ≤ ((ji19) : Int) := of_decide_eq_true (by first | (with_reducible assumption) | assumption)
                  have q155 : (ji19) < (l0.length : Int) := of_decide_eq_true (by first | (with_reducible assumption) | assumption)
                  obtain ⟨ad155, e155, hx155_0, hx155_1, hx155_2⟩ := at_T70 HR0.out (ji19) p155 q155
                  obtain rfl : ad152 = ad155 := (by injection e155)
                  replace hx155_0 := (HB.out.cell (World.block_lt_of_cell? w _ hx155_0)).trans hx155_0
                  replace hx155_1 := (HB.out.cell (World.block_lt_of_cell? w _ hx155_1)).trans hx155_1
                  replace hx155_2 := (HB.out.cell (World.block_lt_of_cell? w _ hx155_2)).trans hx155_2
                  replace p155 := eq_true p155
                  replace q155 := eq_true q155
                  go_wp2
                  repeat (go_quiet (fail); try go_wp2)
                  go_ret
                  exact ⟨by first | rfl | (simp [errW_none, errW_some] <;> rfl) | (simp only [← hji19]; first | rfl | (simp [errW_none, errW_some] <;> rfl)) | (simp [*, errW_none, errW_some] <;> rfl), by repeat (first | (with_reducible first | exact HB.out | apply below_alloc | apply pw_below_drewN | apply below_drew1 | refine below_set ?_ GE153.out) | exact HB.out)⟩
                 ·
                  rw [if_neg c25] at H
                  have c25b0 : (((rd_T70 l0 x4_1).f0) == 2) = false := beq_eq_false_iff_ne.mpr c25
                  have c25b1 : (((rd_T70 l0 x4_1).f0) != 2) = true := bne_iff_ne.mpr c25
                  have H' := Aside0.mk H
                  clear H
                  have hcz27_0 : wc.cell? ⟨gb153, 0, none⟩ = some (.int .i64 ((rd_T70 l0 x4_1).f0)) := (blk_cell BK153.out 0).trans rfl
                  have hcz27_1 : wc.cell? ⟨gb153, 1, none⟩ = some (.int .i64 ((rd_T70 l0 x4_1).f1)) := (blk_cell BK153.out 1).trans rfl
                  have hcz27_2 : wc.cell? ⟨gb153, 2, none⟩ = some (.string ((rd_T70 l0 x4_1).f2)) := (blk_cell BK153.out 2).trans rfl
                  have hfz27_0 := blk_frozen BK153.out 0
                  have hfz27_1 := blk_frozen BK153.out 1
                  have hfz27_2 := blk_frozen BK153.out 2
                  have p154 : 0 ≤ ((ji19) : Int) := of_decide_eq_true (by first | (with_reducible assumption) | assumption)
                  have q154 : (ji19) < (l0.length : Int) := of_decide_eq_true (by first | (with_reducible assumption) | assumption)
                  obtain ⟨ad154, e154, hx154_0, hx154_1, hx154_2⟩ := at_T70 HR0.out (ji19) p154 q154
                  obtain rfl : ad152 = ad154 := (by injection e154)
                  replace hx154_0 := (HB.out.cell (World.block_lt_of_cell? w _ hx154_0)).trans hx154_0
                  replace hx154_1 := (HB.out.cell (World.block_lt_of_cell? w _ hx154_1)).trans hx154_1
                  replace hx154_2 := (HB.out.cell (World.block_lt_of_cell? w _ hx154_2)).trans hx154_2
                  replace p154 := eq_true p154
                  replace q154 := eq_true q154
                  have p155 : 0 ≤ ((ji19) : Int) := of_decide_eq_true (by first | (with_reducible assumption) | assumption)
                  have q155 : (ji19) < (l0.length : Int) := of_decide_eq_true (by first | (with_reducible assumption) | assumption)
                  obtain ⟨ad155, e155, hx155_0, hx155_1, hx155_2⟩ := at_T70 HR0.out (ji19) p155 q155
                  obtain rfl : ad152 = ad155 := (by injection e155)
                  replace hx155_0 := (HB.out.cell (World.block_lt_of_cell? w _ hx155_0)).trans hx155_0
                  replace hx155_1 := (HB.out.cell (World.block_lt_of_cell? w _ hx155_1)).trans hx155_1
                  replace hx155_2 := (HB.out.cell (World.block_lt_of_cell? w _ hx155_2)).trans hx155_2
                  replace p155 := eq_true p155
                  replace q155 := eq_true q155
                  go_wp2
                  repeat (go_quiet (fail); try go_wp2)
                  go_roundg kj8
                  case measure => have := HK1.out; have := HJ3.out; have := HJ8.out; omega
                  case rel => exact ⟨(wrap64 (x3_1 + ((rd_T70 l0 x4_1).f1))), (wrap64 (x4_1 + 1)), (by first | rfl | (simp; done) | (simp [*]; done) | (simp; exact isEmpty_bne _)), (by first | rfl | (simp; done) | (simp [*]; done) | (simp; exact isEmpty_bne _)), H', ⟨by have := HK1.out; have := HJ3.out; have := HJ8.out; omega⟩, ⟨by repeat (first | (with_reducible first | exact HB.out | apply below_alloc | apply pw_below_drewN | apply below_drew1 | refine below_set ?_ GE153.out) | exact HB.out)⟩⟩
                ·
                 rw [if_neg c24] at H
                 have c24b0 : (((rd_T70 l0 (ji19)).f0) == 3) = false := beq_eq_false_iff_ne.mpr c24
                 have c24b1 : (((rd_T70 l0 (ji19)).f0) != 3) = true := bne_iff_ne.mpr c24
                 have H' := Aside0.mk H
                 clear H
                 have hcz28_0 : wc.cell? ⟨gb153, 0, none⟩ = some (.int .i64 ((rd_T70 l0 x4_1).f0)) := (blk_cell BK153.out 0).trans rfl
                 have hcz28_1 : wc.cell? ⟨gb153, 1, none⟩ = some (.int .i64 ((rd_T70 l0 x4_1).f1)) := (blk_cell BK153.out 1).trans rfl
                 have hcz28_2 : wc.cell? ⟨gb153, 2, none⟩ = some (.string ((rd_T70 l0 x4_1).f2)) := (blk_cell BK153.out 2).trans rfl
                 have hfz28_0 := blk_frozen BK153.out 0
                 have hfz28_1 := blk_frozen BK153.out 1
                 have hfz28_2 := blk_frozen BK153.out 2
                 have p154 : 0 ≤ ((ji19) : Int) := of_decide_eq_true (by first | (with_reducible assumption) | assumption)
                 have q154 : (ji19) < (l0.length : Int) := of_decide_eq_true (by first | (with_reducible assumption) | assumption)
                 obtain ⟨ad154, e154, hx154_0, hx154_1, hx154_2⟩ := at_T70 HR0.out (ji19) p154 q154
                 obtain rfl : ad152 = ad154 := (by injection e154)
                 replace hx154_0 := (HB.out.cell (World.block_lt_of_cell? w _ hx154_0)).trans hx154_0
                 replace hx154_1 := (HB.out.cell (World.block_lt_of_cell? w _ hx154_1)).trans hx154_1
                 replace hx154_2 := (HB.out.cell (World.block_lt_of_cell? w _ hx154_2)).trans hx154_2
                 replace p154 := eq_true p154
                 replace q154 := eq_true q154
                 have p155 : 0 ≤ ((ji19) : Int) := of_decide_eq_true (by first | (with_reducible assumption) | assumption)
                 have q155 : (ji19) < (l0.length : Int) := of_decide_eq_true (by first | (with_reducible assumption) | assumption)
                 obtain ⟨ad155, e155, hx155_0, hx155_1, hx155_2⟩ := at_T70 HR0.out (ji19) p155 q155
                 obtain rfl : ad152 = ad155 := (by injection e155)
                 replace hx155_0 := (HB.out.cell (World.block_lt_of_cell? w _ hx155_0)).trans hx155_0
                 replace hx155_1 := (HB.out.cell (World.block_lt_of_cell? w _ hx155_1)).trans hx155_1
                 replace hx155_2 := (HB.out.cell (World.block_lt_of_cell? w _ hx155_2)).trans hx155_2
                 replace p155 := eq_true p155
                 replace q155 := eq_true q155
                 go_wp2
                 repeat (go_quiet (fail); try go_wp2)
                 go_roundg kj8
                 case measure => have := HK1.out; have := HJ3.out; have := HJ8.out; omega
                 case rel => exact ⟨(wrap64 (x3_1 + ((rd_T70 l0 x4_1).f1))), (wrap64 (x4_1 + 1)), (by first | rfl | (simp; done) | (simp [*]; done) | (simp; exact isEmpty_bne _)), (by first | rfl | (simp; done) | (simp [*]; done) | (simp; exact isEmpty_bne _)), H', ⟨by have := HK1.out; have := HJ3.out; have := HJ8.out; omega⟩, ⟨by repeat (first | (with_reducible first | exact HB.out | apply below_alloc | apply pw_below_drewN | apply below_drew1 | refine below_set ?_ GE153.out) | exact HB.out)⟩⟩
              ·
               rw [if_neg c21] at H
               exact absurd H (by simp)
             ·
              rw [if_neg c20] at H
              exact absurd H (by simp)
            ·
             rw [if_neg c18] at H
             have c18b0 : decide (0 < x4_1) = false := decide_eq_false c18
             clear c18
             have H' := Aside0.mk H
             clear H
             have hcz29_0 : wc.cell? ⟨gb153, 0, none⟩ = some (.int .i64 ((rd_T70 l0 x4_1).f0)) := (blk_cell BK153.out 0).trans rfl
             have hcz29_1 : wc.cell? ⟨gb153, 1, none⟩ = some (.int .i64 ((rd_T70 l0 x4_1).f1)) := (blk_cell BK153.out 1).trans rfl
             have hcz29_2 : wc.cell? ⟨gb153, 2, none⟩ = some (.string ((rd_T70 l0 x4_1).f2)) := (blk_cell BK153.out 2).trans rfl
             have hfz29_0 := blk_frozen BK153.out 0
             have hfz29_1 := blk_frozen BK153.out 1
             have hfz29_2 := blk_frozen BK153.out 2
             go_wp2
             repeat (go_quiet (fail); try go_wp2)
             go_roundg kj8
             case measure => have := HK1.out; have := HJ3.out; have := HJ8.out; omega
             case rel => exact ⟨(wrap64 (x3_1 + ((rd_T70 l0 x4_1).f1))), (wrap64 (x4_1 + 1)), (by first | rfl | (simp; done) | (simp [*]; done) | (simp; exact isEmpty_bne _)), (by first | rfl | (simp; done) | (simp [*]; done) | (simp; exact isEmpty_bne _)), H', ⟨by have := HK1.out; have := HJ3.out; have := HJ8.out; omega⟩, ⟨by repeat (first | (with_reducible first | exact HB.out | apply below_alloc | apply pw_below_drewN | apply below_drew1 | refine below_set ?_ GE153.out) | exact HB.out)⟩⟩
       ·
        replace c8 := Bool.eq_false_iff.mpr c8
        subst c8
        have H1 : (if ((rd_T70 l0 x4_1).f0) = 2 then (if ((rd_T70 l0 x4_1).f1) = 0 then (galleyref14_Valid.j3 kj3 l0 x3_1 x4_1 (((rd_T70 l0 x4_1).f2).toList == ([] : List UInt8)) ((rd_T70 l0 x4_1).f0) ((rd_T70 l0 x4_1).f1) ((rd_T70 l0 x4_1).f2)) else (galleyref14_Valid.j3 kj3 l0 x3_1 x4_1 true ((rd_T70 l0 x4_1).f0) ((rd_T70 l0 x4_1).f1) ((rd_T70 l0 x4_1).f2))) else (some false)) = some r := by rw [if_neg (show ¬ (false = true) by decide)] at H; exact H
        clear H
        have H := H1
        clear H1
        by_cases c30 : ((rd_T70 l0 x4_1).f0) = 2
        ·
         rw [if_pos c30] at H
         have c30b0 : (((rd_T70 l0 x4_1).f0) == 2) = true := beq_iff_eq.mpr c30
         have c30b1 : (((rd_T70 l0 x4_1).f0) != 2) = false := bne_eq_false_iff_eq.mpr c30
         clear c30
         have HC31 := Aside0.mk H
         clear H
         go_upto_region 14 with (fail)
         repeat (go_quiet (fail); go_upto_region 14 with (fail))
         go_cut [49] (fun v49 wc => ∃ (kq : Nat) (x49_30 : Bool), v49 = .bool x49_30 ∧ Aside0 (galleyref14_Valid.j3 kq l0 x3_1 x4_1 x49_30 ((rd_T70 l0 x4_1).f0) ((rd_T70 l0 x4_1).f1) ((rd_T70 l0 x4_1).f2) = some r) ∧ Aside0 (kq ≤ kj3) ∧ Aside0 (wc.heap[gb153]? = some (.cells #[.int .i64 ((rd_T70 l0 x4_1).f0), .int .i64 ((rd_T70 l0 x4_1).f1), .string ((rd_T70 l0 x4_1).f2)] 70 (0, 0))) ∧ Aside0 (Below w.heap.size w wc))
         case first =>
          have H := HC31.out
          clear HC31
          by_cases c32 : ((rd_T70 l0 x4_1).f1) = 0
          ·
           rw [if_pos c32] at H
           have c32b0 : (((rd_T70 l0 x4_1).f1) == 0) = true := beq_iff_eq.mpr c32
           have c32b1 : (((rd_T70 l0 x4_1).f1) != 0) = false := bne_eq_false_iff_eq.mpr c32
           clear c32
           (first | rw [c32b0] | (simp only [i64_w, i32_w]; rw [c32b0]) | skip)
           have H' := Aside0.mk H
           clear H
           have hcz33_0 : wc.cell? ⟨gb153, 0, none⟩ = some (.int .i64 ((rd_T70 l0 x4_1).f0)) := (blk_cell BK153.out 0).trans rfl
           have hcz33_1 : wc.cell? ⟨gb153, 1, none⟩ = some (.int .i64 ((rd_T70 l0 x4_1).f1)) := (blk_cell BK153.out 1).trans rfl
           have hcz33_2 : wc.cell? ⟨gb153, 2, none⟩ = some (.string ((rd_T70 l0 x4_1).f2)) := (blk_cell BK153.out 2).trans rfl
           have hfz33_0 := blk_frozen BK153.out 0
           have hfz33_1 := blk_frozen BK153.out 1
           have hfz33_2 := blk_frozen BK153.out 2
           go_wp2
           repeat (go_quiet (fail); try go_wp2)
           go_meet
           case rel => exact ⟨_, ((((rd_T70 l0 x4_1).f2).toList == ([] : List UInt8))), (by first | rfl | (simp; done) | (simp [*]; done) | (simp; exact isEmpty_bne _)), H', ⟨by have := HK1.out; have := HJ3.out; first | omega | exact Nat.le_refl _⟩, ⟨by (with_reducible repeat (first | refine blk_drewN ?_ _ | refine blk_drew ?_ | refine blk_alloc ?_ _)); exact BK153.out⟩, ⟨by repeat (first | (with_reducible first | exact HB.out | apply below_alloc | apply pw_below_drewN | apply below_drew1 | refine below_set ?_ GE153.out) | exact HB.out)⟩⟩
          ·
           rw [if_neg c32] at H
           have c32b0 : (((rd_T70 l0 x4_1).f1) == 0) = false := beq_eq_false_iff_ne.mpr c32
           have c32b1 : (((rd_T70 l0 x4_1).f1) != 0) = true := bne_iff_ne.mpr c32
           (first | rw [c32b0] | (simp only [i64_w, i32_w]; rw [c32b0]) | skip)
           have H' := Aside0.mk H
           clear H
           have hcz34_0 : wc.cell? ⟨gb153, 0, none⟩ = some (.int .i64 ((rd_T70 l0 x4_1).f0)) := (blk_cell BK153.out 0).trans rfl
           have hcz34_1 : wc.cell? ⟨gb153, 1, none⟩ = some (.int .i64 ((rd_T70 l0 x4_1).f1)) := (blk_cell BK153.out 1).trans rfl
           have hcz34_2 : wc.cell? ⟨gb153, 2, none⟩ = some (.string ((rd_T70 l0 x4_1).f2)) := (blk_cell BK153.out 2).trans rfl
           have hfz34_0 := blk_frozen BK153.out 0
           have hfz34_1 := blk_frozen BK153.out 1
           have hfz34_2 := blk_frozen BK153.out 2
           go_wp2
           repeat (go_quiet (fail); try go_wp2)
           go_meet
           case rel => exact ⟨_, (true), (by first | rfl | (simp; done) | (simp [*]; done) | (simp; exact isEmpty_bne _)), H', ⟨by have := HK1.out; have := HJ3.out; first | omega | exact Nat.le_refl _⟩, ⟨by (with_reducible repeat (first | refine blk_drewN ?_ _ | refine blk_drew ?_ | refine blk_alloc ?_ _)); exact BK153.out⟩, ⟨by repeat (first | (with_reducible first | exact HB.out | apply below_alloc | apply pw_below_drewN | apply below_drew1 | refine below_set ?_ GE153.out) | exact HB.out)⟩⟩
         case rest =>
          clear HC31
          (try clear c1); (try clear p1); (try clear q1); (try clear hx1); (try clear c2); (try clear c2b0); (try clear p2); (try clear c3); (try clear c3b0); (try clear p6); (try clear c7); (try clear c7b0); (try clear c7b1); (try clear c8); (try clear c10); (try clear c10b0); (try clear c12); (try clear c12b0); (try clear c15); (try clear p15); (try clear q15); (try clear hx15); (try clear c16); (try clear c16b0); (try clear c18); (try clear c18b0); (try clear c20); (try clear c20b0); (try clear c21); (try clear c21b0); (try clear c22); (try clear c22b0); (try clear c22b1); (try clear c24); (try clear c24b0); (try clear c24b1); (try clear c25); (try clear c25b0); (try clear c25b1); (try clear c30); (try clear c30b0); (try clear c30b1); (try clear c32); (try clear c32b0); (try clear c32b1); (try clear hcz11_0); (try clear hcz11_1); (try clear hcz11_2); (try clear hcz13_0); (try clear hcz13_1); (try clear hcz13_2); (try clear hcz14_0); (try clear hcz14_1); (try clear hcz14_2); (try clear hcz17_0); (try clear hcz17_1); (try clear hcz17_2); (try clear hcz23_0); (try clear hcz23_1); (try clear hcz23_2); (try clear hcz26_0); (try clear hcz26_1); (try clear hcz26_2); (try clear hcz27_0); (try clear hcz27_1); (try clear hcz27_2); (try clear hcz28_0); (try clear hcz28_1); (try clear hcz28_2); (try clear hcz29_0); (try clear hcz29_1); (try clear hcz29_2); (try clear hcz33_0); (try clear hcz33_1); (try clear hcz33_2); (try clear hcz34_0); (try clear hcz34_1); (try clear hcz34_2); (try clear hcz6_0); (try clear hcz6_1); (try clear hcz6_2); (try clear hfz11_0); (try clear hfz11_1); (try clear hfz11_2); (try clear hfz13_0); (try clear hfz13_1); (try clear hfz13_2); (try clear hfz14_0); (try clear hfz14_1); (try clear hfz14_2); (try clear hfz17_0); (try clear hfz17_1); (try clear hfz17_2); (try clear hfz23_0); (try clear hfz23_1); (try clear hfz23_2); (try clear hfz26_0); (try clear hfz26_1); (try clear hfz26_2); (try clear hfz27_0); (try clear hfz27_1); (try clear hfz27_2); (try clear hfz28_0); (try clear hfz28_1); (try clear hfz28_2); (try clear hfz29_0); (try clear hfz29_1); (try clear hfz29_2); (try clear hfz33_0); (try clear hfz33_1); (try clear hfz33_2); (try clear hfz34_0); (try clear hfz34_1); (try clear hfz34_2); (try clear hfz6_0); (try clear hfz6_1); (try clear hfz6_2); (try clear hx152_0); (try clear hx152_1); (try clear hx152_2); (try clear hx154_0); (try clear hx154_1); (try clear hx154_2); (try clear hx155_0); (try clear hx155_1); (try clear hx155_2); (try clear p1); (try clear p152); (try clear p154); (try clear p155); (try clear p2); (try clear q1); (try clear q152); (try clear q154); (try clear q155)
          obtain ⟨kq, x49_30, rfl, HA, HJ30, BK153, HB⟩ := hcut
          cases kq with
          | zero => exact absurd HA.out (by simp [galleyref14_Valid.j3])
          | succ kj30 =>
           have H := HA.out
           clear HA
           simp only [galleyref14_Valid.j3] at H
           by_cases c35 : x49_30 = true
           ·
            subst c35
            have H1 : (some false) = some r := by rw [if_pos rfl] at H; exact H
            clear H
            have H := H1
            clear H1
            obtain rfl := Option.some.inj H
            go_wp2
            repeat (go_quiet (fail); try go_wp2)
            go_ret
            exact ⟨by first | rfl | (simp [errW_none, errW_some] <;> rfl) | (simp [*, errW_none, errW_some] <;> rfl), by repeat (first | (with_reducible first | exact HB.out | apply below_alloc | apply pw_below_drewN | apply below_drew1 | refine below_set ?_ GE153.out) | exact HB.out)⟩
           ·
            replace c35 := Bool.eq_false_iff.mpr c35
            subst c35
            have H1 : (if x3_1 > 268435456 then (some false) else (if x4_1 > 0 then (if 0 ≤ (wrap64 (x4_1 - 1)) then (if (wrap64 (x4_1 - 1)) < (l0.length : Int) then (if ((rd_T70 l0 (wrap64 (x4_1 - 1))).f0) = ((rd_T70 l0 x4_1).f0) then (some false) else (if ((rd_T70 l0 (wrap64 (x4_1 - 1))).f0) = 3 then (if ((rd_T70 l0 x4_1).f0) = 2 then (some false) else (galleyref14_Valid.l0 kj30 l0 x3_1 (wrap64 (x4_1 + 1)))) else (galleyref14_Valid.l0 kj30 l0 x3_1 (wrap64 (x4_1 + 1))))) else (none)) else (none)) else (galleyref14_Valid.l0 kj30 l0 x3_1 (wrap64 (x4_1 + 1))))) = some r := by rw [if_neg (show ¬ (false = true) by decide)] at H; exact H
            clear H
            have H := H1
            clear H1
            by_cases c36 : x3_1 > 268435456
            ·
             rw [if_pos c36] at H
             have c36b0 : decide (268435456 < x3_1) = true := decide_eq_true c36
             clear c36
             obtain rfl := Option.some.inj H
             go_wp2
             repeat (go_quiet (fail); try go_wp2)
             go_ret
             exact ⟨by first | rfl | (simp [errW_none, errW_some] <;> rfl) | (simp [*, errW_none, errW_some] <;> rfl), by repeat (first | (with_reducible first | exact HB.out | apply below_alloc | apply pw_below_drewN | apply below_drew1 | refine below_set ?_ GE153.out) | exact HB.out)⟩
            ·
             rw [if_neg c36] at H
             have c36b0 : decide (268435456 < x3_1) = false := decide_eq_false c36
             clear c36
             by_cases c37 : x4_1 > 0
             ·
              rw [if_pos c37] at H
              have c37b0 : decide (0 < x4_1) = true := decide_eq_true c37
              clear c37
              obtain ⟨ji38, hji38⟩ : ∃ j_ : Int, (wrap64 (x4_1 - 1)) = j_ := ⟨_, rfl⟩
              replace H : (if 0 ≤ (ji38) then (if (ji38) < (l0.length : Int) then (if ((rd_T70 l0 (ji38)).f0) = ((rd_T70 l0 x4_1).f0) then (some false) else (if ((rd_T70 l0 (ji38)).f0) = 3 then (if ((rd_T70 l0 x4_1).f0) = 2 then (some false) else (galleyref14_Valid.l0 kj30 l0 x3_1 (wrap64 (x4_1 + 1)))) else (galleyref14_Valid.l0 kj30 l0 x3_1 (wrap64 (x4_1 + 1))))) else (none)) else (none)) = some r := by first | (rw [hji38] at H; exact H) | (simp only [hji38] at H ⊢; exact H)
              have hji38w : (IntKind.i64.wrap (x4_1 - 1)) = ji38 := (i64_w _).trans hji38
              by_cases c39 : 0 ≤ (ji38)
              ·
               rw [if_pos c39] at H
               have c39b0 : decide (0 ≤ (ji38)) = true := decide_eq_true c39
               clear c39
               by_cases c40 : (ji38) < (l0.length : Int)
               ·
                rw [if_pos c40] at H
                have c40b0 : decide ((ji38) < (l0.length : Int)) = true := decide_eq_true c40
                clear c40
                by_cases c41 : ((rd_T70 l0 (ji38)).f0) = ((rd_T70 l0 x4_1).f0)
                ·
                 rw [if_pos c41] at H
                 have c41b0 : (((rd_T70 l0 (ji38)).f0) == ((rd_T70 l0 x4_1).f0)) = true := beq_iff_eq.mpr c41
                 have c41b1 : (((rd_T70 l0 (ji38)).f0) != ((rd_T70 l0 x4_1).f0)) = false := bne_eq_false_iff_eq.mpr c41
                 clear c41
                 obtain rfl := Option.some.inj H
                 have p156 : 0 ≤ ((ji38) : Int) := of_decide_eq_true (by first | (with_reducible assumption) | assumption)
                 have q156 : (ji38) < (l0.length : Int) := of_decide_eq_true (by first | (with_reducible assumption) | assumption)
                 obtain ⟨ad156, e156, hx156_0, hx156_1, hx156_2⟩ := at_T70 HR0.out (ji38) p156 q156
                 obtain rfl : ad152 = ad156 := (by injection e156)
                 replace hx156_0 := (HB.out.cell (World.block_lt_of_cell? w _ hx156_0)).trans hx156_0
                 replace hx156_1 := (HB.out.cell (World.block_lt_of_cell? w _ hx156_1)).trans hx156_1
                 replace hx156_2 := (HB.out.cell (World.block_lt_of_cell? w _ hx156_2)).trans hx156_2
                 replace p156 := eq_true p156
                 replace q156 := eq_true q156
                 have hcz42_0 : wc.cell? ⟨gb153, 0, none⟩ = some (.int .i64 ((rd_T70 l0 x4_1).f0)) := (blk_cell BK153.out 0).trans rfl
                 have hcz42_1 : wc.cell? ⟨gb153, 1, none⟩ = some (.int .i64 ((rd_T70 l0 x4_1).f1)) := (blk_cell BK153.out 1).trans rfl
                 have hcz42_2 : wc.cell? ⟨gb153, 2, none⟩ = some (.string ((rd_T70 l0 x4_1).f2)) := (blk_cell BK153.out 2).trans rfl
                 have hfz42_0 := blk_frozen BK153.out 0
                 have hfz42_1 := blk_frozen BK153.out 1
                 have hfz42_2 := blk_frozen BK153.out 2
                 go_wp2
                 repeat (go_quiet (fail); try go_wp2)
                 go_ret
                 exact ⟨by first | rfl | (simp [errW_none, errW_some] <;> rfl) | (simp only [← hji38]; first | rfl | (simp [errW_none, errW_some] <;> rfl)) | (simp [*, errW_none, errW_some] <;> rfl), by repeat (first | (with_reducible first | exact HB.out | apply below_alloc | apply pw_below_drewN | apply below_drew1 | refine below_set ?_ GE153.out) | exact HB.out)⟩
                ·
                 rw [if_neg c41] at H
                 have c41b0 : (((rd_T70 l0 (ji38)).f0) == ((rd_T70 l0 x4_1).f0)) = false := beq_eq_false_iff_ne.mpr c41
                 have c41b1 : (((rd_T70 l0 (ji38)).f0) != ((rd_T70 l0 x4_1).f0)) = true := bne_iff_ne.mpr c41
                 by_cases c43 : ((rd_T70 l0 (ji38)).f0) = 3
                 ·
                  rw [if_pos c43] at H
                  have c43b0 : (((rd_T70 l0 (ji38)).f0) == 3) = true := beq_iff_eq.mpr c43
                  have c43b1 : (((rd_T70 l0 (ji38)).f0) != 3) = false := bne_eq_false_iff_eq.mpr c43
                  clear c43
                  by_cases c44 : ((rd_T70 l0 x4_1).f0) = 2
                  ·
                   rw [if_pos c44] at H
                   have c44b0 : (((rd_T70 l0 x4_1).f0) == 2) = true := beq_iff_eq.mpr c44
                   have c44b1 : (((rd_T70 l0 x4_1).f0) != 2) = false := bne_eq_false_iff_eq.mpr c44
                   clear c44
                   obtain rfl := Option.some.inj H
                   have p156 : 0 ≤ ((ji38) : Int) := of_decide_eq_true (by first | (with_reducible assumption) | assumption)
                   have q156 : (ji38) < (l0.length : Int) := of_decide_eq_true (by first | (with_reducible assumption) | assumption)
                   obtain ⟨ad156, e156, hx156_0, hx156_1, hx156_2⟩ := at_T70 HR0.out (ji38) p156 q156
                   obtain rfl : ad152 = ad156 := (by injection e156)
                   replace hx156_0 := (HB.out.cell (World.block_lt_of_cell? w _ hx156_0)).trans hx156_0
                   replace hx156_1 := (HB.out.cell (World.block_lt_of_cell? w _ hx156_1)).trans hx156_1
                   replace hx156_2 := (HB.out.cell (World.block_lt_of_cell? w _ hx156_2)).trans hx156_2
                   replace p156 := eq_true p156
                   replace q156 := eq_true q156
                   have hcz45_0 : wc.cell? ⟨gb153, 0, none⟩ = some (.int .i64 ((rd_T70 l0 x4_1).f0)) := (blk_cell BK153.out 0).trans rfl
                   have hcz45_1 : wc.cell? ⟨gb153, 1, none⟩ = some (.int .i64 ((rd_T70 l0 x4_1).f1)) := (blk_cell BK153.out 1).trans rfl
                   have hcz45_2 : wc.cell? ⟨gb153, 2, none⟩ = some (.string ((rd_T70 l0 x4_1).f2)) := (blk_cell BK153.out 2).trans rfl
                   have hfz45_0 := blk_frozen BK153.out 0
                   have hfz45_1 := blk_frozen BK153.out 1
                   have hfz45_2 := blk_frozen BK153.out 2
                   have p157 : 0 ≤ ((ji38) : Int) := of_decide_eq_true (by first | (with_reducible assumption) | assumption)
                   have q157 : (ji38) < (l0.length : Int) := of_decide_eq_true (by first | (with_reducible assumption) | assumption)
                   obtain ⟨ad157, e157, hx157_0, hx157_1, hx157_2⟩ := at_T70 HR0.out (ji38) p157 q157
                   obtain rfl : ad152 = ad157 := (by injection e157)
                   replace hx157_0 := (HB.out.cell (World.block_lt_of_cell? w _ hx157_0)).trans hx157_0
                   replace hx157_1 := (HB.out.cell (World.block_lt_of_cell? w _ hx157_1)).trans hx157_1
                   replace hx157_2 := (HB.out.cell (World.block_lt_of_cell? w _ hx157_2)).trans hx157_2
                   replace p157 := eq_true p157
                   replace q157 := eq_true q157
                   go_wp2
                   repeat (go_quiet (fail); try go_wp2)
                   go_ret
                   exact ⟨by first | rfl | (simp [errW_none, errW_some] <;> rfl) | (simp only [← hji38]; first | rfl | (simp [errW_none, errW_some] <;> rfl)) | (simp [*, errW_none, errW_some] <;> rfl), by repeat (first | (with_reducible first | exact HB.out | apply below_alloc | apply pw_below_drewN | apply below_drew1 | refine below_set ?_ GE153.out) | exact HB.out)⟩
                  ·
                   rw [if_neg c44] at H
                   have c44b0 : (((rd_T70 l0 x4_1).f0) == 2) = false := beq_eq_false_iff_ne.mpr c44
                   have c44b1 : (((rd_T70 l0 x4_1).f0) != 2) = true := bne_iff_ne.mpr c44
                   have H' := Aside0.mk H
                   clear H
                   have p156 : 0 ≤ ((ji38) : Int) := of_decide_eq_true (by first | (with_reducible assumption) | assumption)
                   have q156 : (ji38) < (l0.length : Int) := of_decide_eq_true (by first | (with_reducible assumption) | assumption)
                   obtain ⟨ad156, e156, hx156_0, hx156_1, hx156_2⟩ := at_T70 HR0.out (ji38) p156 q156
                   obtain rfl : ad152 = ad156 := (by injection e156)
                   replace hx156_0 := (HB.out.cell (World.block_lt_of_cell? w _ hx156_0)).trans hx156_0
                   replace hx156_1 := (HB.out.cell (World.block_lt_of_cell? w _ hx156_1)).trans hx156_1
                   replace hx156_2 := (HB.out.cell (World.block_lt_of_cell? w _ hx156_2)).trans hx156_2
                   replace p156 := eq_true p156
                   replace q156 := eq_true q156
                   have hcz46_0 : wc.cell? ⟨gb153, 0, none⟩ = some (.int .i64 ((rd_T70 l0 x4_1).f0)) := (blk_cell BK153.out 0).trans rfl
                   have hcz46_1 : wc.cell? ⟨gb153, 1, none⟩ = some (.int .i64 ((rd_T70 l0 x4_1).f1)) := (blk_cell BK153.out 1).trans rfl
                   have hcz46_2 : wc.cell? ⟨gb153, 2, none⟩ = some (.string ((rd_T70 l0 x4_1).f2)) := (blk_cell BK153.out 2).trans rfl
                   have hfz46_0 := blk_frozen BK153.out 0
                   have hfz46_1 := blk_frozen BK153.out 1
                   have hfz46_2 := blk_frozen BK153.out 2
                   have p157 : 0 ≤ ((ji38) : Int) := of_decide_eq_true (by first | (with_reducible assumption) | assumption)
                   have q157 : (ji38) < (l0.length : Int) := of_decide_eq_true (by first | (with_reducible assumption) | assumption)
                   obtain ⟨ad157, e157, hx157_0, hx157_1, hx157_2⟩ := at_T70 HR0.out (ji38) p157 q157
                   obtain rfl : ad152 = ad157 := (by injection e157)
                   replace hx157_0 := (HB.out.cell (World.block_lt_of_cell? w _ hx157_0)).trans hx157_0
                   replace hx157_1 := (HB.out.cell (World.block_lt_of_cell? w _ hx157_1)).trans hx157_1
                   replace hx157_2 := (HB.out.cell (World.block_lt_of_cell? w _ hx157_2)).trans hx157_2
                   replace p157 := eq_true p157
                   replace q157 := eq_true q157
                   go_wp2
                   repeat (go_quiet (fail); try go_wp2)
                   go_roundg kj30
                   case measure => have := HK1.out; have := HJ3.out; have := HJ30.out; omega
                   case rel => exact ⟨(x3_1), (wrap64 (x4_1 + 1)), (by first | rfl | (simp; done) | (simp [*]; done) | (simp; exact isEmpty_bne _)), (by first | rfl | (simp; done) | (simp [*]; done) | (simp; exact isEmpty_bne _)), H', ⟨by have := HK1.out; have := HJ3.out; have := HJ30.out; omega⟩, ⟨by repeat (first | (with_reducible first | exact HB.out | apply below_alloc | apply pw_below_drewN | apply below_drew1 | refine below_set ?_ GE153.out) | exact HB.out)⟩⟩
                 ·
                  rw [if_neg c43] at H
                  have c43b0 : (((rd_T70 l0 (ji38)).f0) == 3) = false := beq_eq_false_iff_ne.mpr c43
                  have c43b1 : (((rd_T70 l0 (ji38)).f0) != 3) = true := bne_iff_ne.mpr c43
                  have H' := Aside0.mk H
                  clear H
                  have p156 : 0 ≤ ((ji38) : Int) := of_decide_eq_true (by first | (with_reducible assumption) | assumption)
                  have q156 : (ji38) < (l0.length : Int) := of_decide_eq_true (by first | (with_reducible assumption) | assumption)
                  obtain ⟨ad156, e156, hx156_0, hx156_1, hx156_2⟩ := at_T70 HR0.out (ji38) p156 q156
                  obtain rfl : ad152 = ad156 := (by injection e156)
                  replace hx156_0 := (HB.out.cell (World.block_lt_of_cell? w _ hx156_0)).trans hx156_0
                  replace hx156_1 := (HB.out.cell (World.block_lt_of_cell? w _ hx156_1)).trans hx156_1
                  replace hx156_2 := (HB.out.cell (World.block_lt_of_cell? w _ hx156_2)).trans hx156_2
                  replace p156 := eq_true p156
                  replace q156 := eq_true q156
                  have hcz47_0 : wc.cell? ⟨gb153, 0, none⟩ = some (.int .i64 ((rd_T70 l0 x4_1).f0)) := (blk_cell BK153.out 0).trans rfl
                  have hcz47_1 : wc.cell? ⟨gb153, 1, none⟩ = some (.int .i64 ((rd_T70 l0 x4_1).f1)) := (blk_cell BK153.out 1).trans rfl
                  have hcz47_2 : wc.cell? ⟨gb153, 2, none⟩ = some (.string ((rd_T70 l0 x4_1).f2)) := (blk_cell BK153.out 2).trans rfl
                  have hfz47_0 := blk_frozen BK153.out 0
                  have hfz47_1 := blk_frozen BK153.out 1
                  have hfz47_2 := blk_frozen BK153.out 2
                  have p157 : 0 ≤ ((ji38) : Int) := of_decide_eq_true (by first | (with_reducible assumption) | assumption)
                  have q157 : (ji38) < (l0.length : Int) := of_decide_eq_true (by first | (with_reducible assumption) | assumption)
                  obtain ⟨ad157, e157, hx157_0, hx157_1, hx157_2⟩ := at_T70 HR0.out (ji38) p157 q157
                  obtain rfl : ad152 = ad157 := (by injection e157)
                  replace hx157_0 := (HB.out.cell (World.block_lt_of_cell? w _ hx157_0)).trans hx157_0
                  replace hx157_1 := (HB.out.cell (World.block_lt_of_cell? w _ hx157_1)).trans hx157_1
                  replace hx157_2 := (HB.out.cell (World.block_lt_of_cell? w _ hx157_2)).trans hx157_2
                  replace p157 := eq_true p157
                  replace q157 := eq_true q157
                  go_wp2
                  repeat (go_quiet (fail); try go_wp2)
                  go_roundg kj30
                  case measure => have := HK1.out; have := HJ3.out; have := HJ30.out; omega
                  case rel => exact ⟨(x3_1), (wrap64 (x4_1 + 1)), (by first | rfl | (simp; done) | (simp [*]; done) | (simp; exact isEmpty_bne _)), (by first | rfl | (simp; done) | (simp [*]; done) | (simp; exact isEmpty_bne _)), H', ⟨by have := HK1.out; have := HJ3.out; have := HJ30.out; omega⟩, ⟨by repeat (first | (with_reducible first | exact HB.out | apply below_alloc | apply pw_below_drewN | apply below_drew1 | refine below_set ?_ GE153.out) | exact HB.out)⟩⟩
               ·
                rw [if_neg c40] at H
                exact absurd H (by simp)
              ·
               rw [if_neg c39] at H
               exact absurd H (by simp)
             ·
              rw [if_neg c37] at H
              have c37b0 : decide (0 < x4_1) = false := decide_eq_false c37
              clear c37
              have H' := Aside0.mk H
              clear H
              go_wp2
              repeat (go_quiet (fail); try go_wp2)
              go_roundg kj30
              case measure => have := HK1.out; have := HJ3.out; have := HJ30.out; omega
              case rel => exact ⟨(x3_1), (wrap64 (x4_1 + 1)), (by first | rfl | (simp; done) | (simp [*]; done) | (simp; exact isEmpty_bne _)), (by first | rfl | (simp; done) | (simp [*]; done) | (simp; exact isEmpty_bne _)), H', ⟨by have := HK1.out; have := HJ3.out; have := HJ30.out; omega⟩, ⟨by repeat (first | (with_reducible first | exact HB.out | apply below_alloc | apply pw_below_drewN | apply below_drew1 | refine below_set ?_ GE153.out) | exact HB.out)⟩⟩
        ·
         rw [if_neg c30] at H
         have c30b0 : (((rd_T70 l0 x4_1).f0) == 2) = false := beq_eq_false_iff_ne.mpr c30
         have c30b1 : (((rd_T70 l0 x4_1).f0) != 2) = true := bne_iff_ne.mpr c30
         obtain rfl := Option.some.inj H
         go_wp2
         repeat (go_quiet (fail); try go_wp2)
         go_ret
         exact ⟨by first | rfl | (simp [errW_none, errW_some] <;> rfl) | (simp [*, errW_none, errW_some] <;> rfl), by repeat (first | (with_reducible first | exact HB.out | apply below_alloc | apply pw_below_drewN | apply below_drew1 | refine below_set ?_ GE153.out) | exact HB.out)⟩
    ·
     rw [if_neg c3] at H
     exact absurd H (by simp)
   ·
    rw [if_neg c2] at H
    have c2b0 : decide (x4_1 < (l0.length : Int)) = false := decide_eq_false c2
    clear c2
    replace H := Option.bind_eq_some_iff.mp H
    obtain ⟨⟨t150, t151⟩, A480, H⟩ := H
    replace H : (if t150 ≤ 268435456 then (some (decide (t151 ≤ 268435456))) else (some false)) = some r := H
    have A48 := Aside0.mk A480
    clear A480
    by_cases c49 : t150 ≤ 268435456
    ·
     rw [if_pos c49] at H
     have c49b0 : decide (t150 ≤ 268435456) = true := decide_eq_true c49
     clear c49
     obtain rfl := Option.some.inj H
     go_wp2_with (first | (go_at_call 89; (with_reducible refine (galleyref14_lens.calls k1 _ _ l0 t150 t151 _ ?side1 ?side2 A48.out).mono ?_); (case side1 => repeat (first | exact (Kd.C_below HR0.out HB.out) | (with_reducible refine Kd.C_alloc ?_ _) | (with_reducible refine Kd.C_drewN ?_ _) | (with_reducible refine Kd.C_drew ?_))); (case side2 => exact HC0.out); rintro e w' ⟨rfl, ⟨nd, rfl⟩⟩; (try first | exact ⟨rfl, _, World.drewN_drewN _ _ _⟩ | exact ⟨rfl, _, Eq.trans (World.drewN_drewN _ _ _) (congrArg (World.drewN _) (Nat.add_assoc _ _ _))⟩)))
     repeat (go_quiet (first | (go_at_call 89; (with_reducible refine (galleyref14_lens.calls k1 _ _ l0 t150 t151 _ ?side1 ?side2 A48.out).mono ?_); (case side1 => repeat (first | exact (Kd.C_below HR0.out HB.out) | (with_reducible refine Kd.C_alloc ?_ _) | (with_reducible refine Kd.C_drewN ?_ _) | (with_reducible refine Kd.C_drew ?_))); (case side2 => exact HC0.out); rintro e w' ⟨rfl, ⟨nd, rfl⟩⟩; (try first | exact ⟨rfl, _, World.drewN_drewN _ _ _⟩ | exact ⟨rfl, _, Eq.trans (World.drewN_drewN _ _ _) (congrArg (World.drewN _) (Nat.add_assoc _ _ _))⟩))); try go_wp2_with (first | (go_at_call 89; (with_reducible refine (galleyref14_lens.calls k1 _ _ l0 t150 t151 _ ?side1 ?side2 A48.out).mono ?_); (case side1 => repeat (first | exact (Kd.C_below HR0.out HB.out) | (with_reducible refine Kd.C_alloc ?_ _) | (with_reducible refine Kd.C_drewN ?_ _) | (with_reducible refine Kd.C_drew ?_))); (case side2 => exact HC0.out); rintro e w' ⟨rfl, ⟨nd, rfl⟩⟩; (try first | exact ⟨rfl, _, World.drewN_drewN _ _ _⟩ | exact ⟨rfl, _, Eq.trans (World.drewN_drewN _ _ _) (congrArg (World.drewN _) (Nat.add_assoc _ _ _))⟩))))
     go_ret
     exact ⟨by first | rfl | (simp [errW_none, errW_some] <;> rfl) | (simp [*, errW_none, errW_some] <;> rfl), by repeat (first | (with_reducible first | exact HB.out | apply below_alloc | apply pw_below_drewN | apply below_drew1) | exact HB.out)⟩
    ·
     rw [if_neg c49] at H
     have c49b0 : decide (t150 ≤ 268435456) = false := decide_eq_false c49
     clear c49
     obtain rfl := Option.some.inj H
     go_wp2_with (first | (go_at_call 89; (with_reducible refine (galleyref14_lens.calls k1 _ _ l0 t150 t151 _ ?side1 ?side2 A48.out).mono ?_); (case side1 => repeat (first | exact (Kd.C_below HR0.out HB.out) | (with_reducible refine Kd.C_alloc ?_ _) | (with_reducible refine Kd.C_drewN ?_ _) | (with_reducible refine Kd.C_drew ?_))); (case side2 => exact HC0.out); rintro e w' ⟨rfl, ⟨nd, rfl⟩⟩; (try first | exact ⟨rfl, _, World.drewN_drewN _ _ _⟩ | exact ⟨rfl, _, Eq.trans (World.drewN_drewN _ _ _) (congrArg (World.drewN _) (Nat.add_assoc _ _ _))⟩)))
     repeat (go_quiet (first | (go_at_call 89; (with_reducible refine (galleyref14_lens.calls k1 _ _ l0 t150 t151 _ ?side1 ?side2 A48.out).mono ?_); (case side1 => repeat (first | exact (Kd.C_below HR0.out HB.out) | (with_reducible refine Kd.C_alloc ?_ _) | (with_reducible refine Kd.C_drewN ?_ _) | (with_reducible refine Kd.C_drew ?_))); (case side2 => exact HC0.out); rintro e w' ⟨rfl, ⟨nd, rfl⟩⟩; (try first | exact ⟨rfl, _, World.drewN_drewN _ _ _⟩ | exact ⟨rfl, _, Eq.trans (World.drewN_drewN _ _ _) (congrArg (World.drewN _) (Nat.add_assoc _ _ _))⟩))); try go_wp2_with (first | (go_at_call 89; (with_reducible refine (galleyref14_lens.calls k1 _ _ l0 t150 t151 _ ?side1 ?side2 A48.out).mono ?_); (case side1 => repeat (first | exact (Kd.C_below HR0.out HB.out) | (with_reducible refine Kd.C_alloc ?_ _) | (with_reducible refine Kd.C_drewN ?_ _) | (with_reducible refine Kd.C_drew ?_))); (case side2 => exact HC0.out); rintro e w' ⟨rfl, ⟨nd, rfl⟩⟩; (try first | exact ⟨rfl, _, World.drewN_drewN _ _ _⟩ | exact ⟨rfl, _, Eq.trans (World.drewN_drewN _ _ _) (congrArg (World.drewN _) (Nat.add_assoc _ _ _))⟩))))
     go_ret
     exact ⟨by first | rfl | (simp [errW_none, errW_some] <;> rfl) | (simp [*, errW_none, errW_some] <;> rfl), by repeat (first | (with_reducible first | exact HB.out | apply below_alloc | apply pw_below_drewN | apply below_drew1) | exact HB.out)⟩
end Go.Proofs.Ytidihnnkcmeaeaa.A
