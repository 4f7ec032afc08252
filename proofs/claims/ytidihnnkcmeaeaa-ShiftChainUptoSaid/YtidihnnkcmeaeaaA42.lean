/- Part of a claim: theorems about the program's functions, written by a program over the translation. No condition. -/
import Derived.Test.YtidihnnkcmeaeaaA0
import Derived.Test.YtidihnnkcmeaeaaMG1
import Derived.Test.YtidihnnkcmeaeaaA5
import Derived.Test.YtidihnnkcmeaeaaA7
import Derived.Test.YtidihnnkcmeaeaaA40
namespace Go.Proofs.Ytidihnnkcmeaeaa.A
open Go.RowKit Go.Proofs.YtidihnnkcmeaeaaW.PrintWords Go.Proofs.YtidihnnkcmeaeaaW.PrintLast Go.Proofs.YtidihnnkcmeaeaaW.PrintMore
attribute [local go_sem] max2_int min2_int max_two min_two max_three min_three max_four min_four
set_option linter.unusedVariables false
set_option linter.unusedSimpArgs false
mutual
def galleyref14_Chain.l0 : Nat → List (List (S70)) → List (S70) → Int → Option ((List (S70)) × (List (List (S70))) × Int)
 | 0, _, _, _ => none
 | k + 1, x0, x1, x7 => if x7 < (x0.length : Int) then (if 0 ≤ x7 then ((galleyref14_Valid.f k (rd_L6 x0 x7)).bind fun t1224 => (if t1224 = true then (galleyref14_Chain.l0 k x0 x1 (wrap64 (x7 + 1))) else (some (([] : List (S70)), ([] : List (List (S70))), 130)))) else (none)) else ((galleyref14_Valid.f k x1).bind fun t1225 => (if t1225 = true then (galleyref14_Chain.l1 k x0 x1 0) else (some (([] : List (S70)), ([] : List (List (S70))), 130))))
def galleyref14_Chain.l1 : Nat → List (List (S70)) → List (S70) → Int → Option ((List (S70)) × (List (List (S70))) × Int)
 | 0, _, _, _ => none
 | k + 1, x0, x1, x8 => if (wrap64 (x8 + 1)) < (x0.length : Int) then (if 0 ≤ x8 then (if x8 < (x0.length : Int) then ((galleyref14_lens.f k (rd_L6 x0 x8)).bind fun bt1227 => (if 0 ≤ (wrap64 (x8 + 1)) then ((galleyref14_lens.f k (rd_L6 x0 (wrap64 (x8 + 1)))).bind fun bt1230 => (if bt1227.2 = bt1230.1 then (galleyref14_Chain.l1 k x0 x1 (wrap64 (x8 + 1))) else (some (([] : List (S70)), ([] : List (List (S70))), 131)))) else (none))) else (none)) else (none)) else (galleyref14_Chain.l2 k x0 x1 ([] : List (List (S70))) 0)
def galleyref14_Chain.l2 : Nat → List (List (S70)) → List (S70) → List (List (S70)) → Int → Option ((List (S70)) × (List (List (S70))) × Int)
 | 0, _, _, _, _ => none
 | k + 1, x0, x1, x13, x14 => if x14 < (x0.length : Int) then (if 0 ≤ x14 then ((galleyref14_Both.f (rd_L6 x0 x14) x1).bind fun bt1233 => (if bt1233.2.2 = 0 then (if x13.length < 5864062014805 then (galleyref14_Chain.l2 k x0 bt1233.2.1 (x13 ++ [bt1233.1]) (wrap64 (x14 + 1))) else (none)) else (some (([] : List (S70)), ([] : List (List (S70))), bt1233.2.2)))) else (none)) else (some (x1, x13, 0))
end
def galleyref14_Chain.f (k : Nat) (l0 : List (List (S70))) (l1 : List (S70)) : Option ((List (S70)) × (List (List (S70))) × Int) := galleyref14_Chain.l0 k l0 l1 0
set_option maxHeartbeats 8000000 in
set_option maxRecDepth 100000 in
theorem galleyref14_Chain.calls (k : Nat) (A0 : Option Addr) (c0 : Nat) (l0 : List (List (S70))) (P1_ : Nat → Prop) (A1 : Option Addr) (c1 : Nat) (l1 : List (S70)) (r1 : List (S70)) (r2 : List (List (S70))) (r3 : Int) (w : World) (hr0 : Kd.C (Kd.slice 70 k70) w A0 l0.length l0) (hc0 : l0.length ≤ c0) (hs1 : Kd.V k70 70 w w.heap.size (fun k_ => P1_ k_) (.slice A1 l1.length c1) l1) (h : galleyref14_Chain.f k l0 l1 = some (r1, r2, r3)) :
  Calls Try.prog 63 #[.slice A0 l0.length c0, .slice A1 l1.length c1] w fun e w' => ∃ v0_ v1_ : Value, e = .returned (.tuple #[v0_, v1_, .int .i64 r3]) ∧ Kd.V k70 70 w' w.heap.size (fun k_ => (P1_ k_ ∨ w.heap.size ≤ k_) ∧ some k_ ≠ (v1_ : Value).ownBlock) v0_ r1 ∧ Kd.S (Kd.slice 70 k70) 25 w' w.heap.size (fun k_ => (w.heap.size ≤ k_)) v1_ r2 ∧ Below w.heap.size w w' := by
 have HR0 := Aside0.mk hr0
 have HC0 := Aside0.mk hc0
 clear hr0 hc0
 have HO1 := Aside0.mk (show Kd.V k70 70 w w.heap.size (fun k_ => (P1_ k_ ∨ w.heap.size ≤ k_)) (.slice A1 l1.length c1) l1 from Kd.V_mono hs1 (fun k_ hk => .inl hk))
 have HB := Aside0.mk (Below.refl w.heap.size w)
 have H : (galleyref14_Chain.l0 k l0 l1 0) = some (r1, r2, r3) := h
 clear h
 have H' := Aside0.mk H
 clear H
 go_enter Try.func63, Try.ntmps63
 go_wp2
 go_loopg [7] k (fun kq v7 w' => ∃ (x7_1 : Int), v7 = .int .i64 x7_1 ∧ Aside0 (galleyref14_Chain.l0 kq l0 l1 x7_1 = some (r1, r2, r3)) ∧ Aside0 (kq ≤ k) ∧ Aside0 (Kd.V k70 70 w' w.heap.size (fun k_ => (P1_ k_ ∨ w.heap.size ≤ k_)) (.slice A1 l1.length c1) l1) ∧ Aside0 (Below w.heap.size w w'))
 case atStart => exact ⟨(0), (by first | rfl | (simp; done) | (simp [*]; done) | (simp; exact isEmpty_bne _)), H', ⟨Nat.le_refl _⟩, ⟨by (with_reducible repeat (first | apply Kd.V_alloc | apply Kd.V_drewN | apply Kd.V_drew)); exact HO1.out⟩, ⟨by repeat (first | (with_reducible first | exact HB.out | apply below_alloc | apply pw_below_drewN | apply below_drew1) | exact HB.out)⟩⟩
 case round =>
  clear H'
  (try clear c1); (try clear p2)
  obtain ⟨x7_1, rfl, HA, HK1, HO_1, HB⟩ := hrel
  cases gk with
  | zero => exact absurd HA.out (by simp [galleyref14_Chain.l0])
  | succ k1 =>
   have H := HA.out
   clear HA
   simp only [galleyref14_Chain.l0] at H
   by_cases c3 : x7_1 < (l0.length : Int)
   ·
    rw [if_pos c3] at H
    have c3b0 : decide (x7_1 < (l0.length : Int)) = true := decide_eq_true c3
    clear c3
    by_cases c4 : 0 ≤ x7_1
    ·
     rw [if_pos c4] at H
     have c4b0 : decide (0 ≤ x7_1) = true := decide_eq_true c4
     clear c4
     replace H := Option.bind_eq_some_iff.mp H
     obtain ⟨t1224, A50, H⟩ := H
     replace H : (if t1224 = true then (galleyref14_Chain.l0 k1 l0 l1 (wrap64 (x7_1 + 1))) else (some (([] : List (S70)), ([] : List (List (S70))), 130))) = some (r1, r2, r3) := H
     have A5 := Aside0.mk A50
     clear A50
     by_cases c6 : t1224 = true
     ·
      subst c6
      have H1 : (galleyref14_Chain.l0 k1 l0 l1 (wrap64 (x7_1 + 1))) = some (r1, r2, r3) := by rw [if_pos rfl] at H; exact H
      clear H
      have H := H1
      clear H1
      have H' := Aside0.mk H
      clear H
      have p1223 : 0 ≤ (x7_1 : Int) := of_decide_eq_true (by first | (with_reducible assumption) | assumption)
      have q1223 : x7_1 < (l0.length : Int) := of_decide_eq_true (by first | (with_reducible assumption) | assumption)
      obtain ⟨ad1223, A1223_0, c1223_0, e1223, hx1223_0, hl1223_0, hi1223_0⟩ := at_L6 HR0.out x7_1 p1223 q1223
      cases e1223
      replace hx1223_0 := (HB.out.cell (World.block_lt_of_cell? w _ hx1223_0)).trans hx1223_0
      have HR1223_0 := Aside0.mk hi1223_0
      have HC1223_0 := Aside0.mk hl1223_0
      clear hi1223_0 hl1223_0
      replace p1223 := eq_true p1223
      replace q1223 := eq_true q1223
      go_wp2_with (first | ((with_reducible refine gate_callee (f := 88) rfl ?_); refine goesL_ (some 28) rfl rfl Try.func88 (by kernel_rfl) rfl #[.slice A1223_0 (rd_L6 l0 x7_1).length c1223_0] rfl (by (try simp only [List.map_toArray, List.map_cons, List.map_nil]); first | done | rfl | (simp only [List.length_drop, List.length_take]; rfl)) ?_; (with_reducible refine (galleyref14_Valid.calls k1 _ _ (rd_L6 l0 x7_1) true _ ?side1 ?side2 A5.out).mono ?_); (case side1 => repeat (first | exact (Kd.C_below HR1223_0.out HB.out) | (with_reducible refine Kd.C_alloc ?_ _) | (with_reducible refine Kd.C_drewN ?_ _) | (with_reducible refine Kd.C_drew ?_))); (case side2 => exact HC1223_0.out); rintro e w7 ⟨rfl, hb⟩; refine ⟨_, rfl, ?_⟩; have n0_ := Aside0.mk (Kd.V_below HO_1.out hb); have n1_ := Aside0.mk (below_step HB.out hb); clear HO_1 HB; have HO_1 := n0_; have HB := n1_; clear n0_ n1_; (try clear hb); (try clear hb2); (try clear hk); (try clear hi)))
      go_roundg k1
      case measure => have := HK1.out; omega
      case rel => exact ⟨(wrap64 (x7_1 + 1)), (by first | rfl | (simp; done) | (simp [*]; done) | (simp; exact isEmpty_bne _)), H', ⟨by have := HK1.out; omega⟩, ⟨by (with_reducible repeat (first | apply Kd.V_alloc | apply Kd.V_drewN | apply Kd.V_drew)); exact HO_1.out⟩, ⟨by repeat (first | (with_reducible first | exact HB.out | apply below_alloc | apply pw_below_drewN | apply below_drew1) | exact HB.out)⟩⟩
     ·
      replace c6 := Bool.eq_false_iff.mpr c6
      subst c6
      have H1 : (some (([] : List (S70)), ([] : List (List (S70))), 130)) = some (r1, r2, r3) := by rw [if_neg (show ¬ (false = true) by decide)] at H; exact H
      clear H
      have H := H1
      clear H1
      simp only [Option.some.injEq, Prod.mk.injEq] at H
      obtain ⟨rfl, rfl, rfl⟩ := H
      have p1223 : 0 ≤ (x7_1 : Int) := of_decide_eq_true (by first | (with_reducible assumption) | assumption)
      have q1223 : x7_1 < (l0.length : Int) := of_decide_eq_true (by first | (with_reducible assumption) | assumption)
      obtain ⟨ad1223, A1223_0, c1223_0, e1223, hx1223_0, hl1223_0, hi1223_0⟩ := at_L6 HR0.out x7_1 p1223 q1223
      cases e1223
      replace hx1223_0 := (HB.out.cell (World.block_lt_of_cell? w _ hx1223_0)).trans hx1223_0
      have HR1223_0 := Aside0.mk hi1223_0
      have HC1223_0 := Aside0.mk hl1223_0
      clear hi1223_0 hl1223_0
      replace p1223 := eq_true p1223
      replace q1223 := eq_true q1223
      go_wp2_with (first | ((with_reducible refine gate_callee (f := 88) rfl ?_); refine goesL_ (some 28) rfl rfl Try.func88 (by kernel_rfl) rfl #[.slice A1223_0 (rd_L6 l0 x7_1).length c1223_0] rfl (by (try simp only [List.map_toArray, List.map_cons, List.map_nil]); first | done | rfl | (simp only [List.length_drop, List.length_take]; rfl)) ?_; (with_reducible refine (galleyref14_Valid.calls k1 _ _ (rd_L6 l0 x7_1) false _ ?side1 ?side2 A5.out).mono ?_); (case side1 => repeat (first | exact (Kd.C_below HR1223_0.out HB.out) | (with_reducible refine Kd.C_alloc ?_ _) | (with_reducible refine Kd.C_drewN ?_ _) | (with_reducible refine Kd.C_drew ?_))); (case side2 => exact HC1223_0.out); rintro e w8 ⟨rfl, hb⟩; refine ⟨_, rfl, ?_⟩; have n0_ := Aside0.mk (Kd.V_below HO_1.out hb); have n1_ := Aside0.mk (below_step HB.out hb); clear HO_1 HB; have HO_1 := n0_; have HB := n1_; clear n0_ n1_; (try clear hb); (try clear hb2); (try clear hk); (try clear hi)))
      go_ret3
      exact ⟨_, _, by first | rfl | (simp [errW_none, errW_some] <;> rfl) | (simp [*, errW_none, errW_some] <;> rfl), (by exact Kd.V_mono (Kd.R_V (Kd.R_nil k70 70 _ 0 (fun _ => False))) (fun k_ hk => hk.elim)), by first | exact Kd.S_nil _ _ _ _ _ | exact Kd.N_nil _ _ _ _ _ | exact Kd.V_nil _ _ _ _ _ | exact Kd.Q_nil _ _ _ _ _ | exact Kd.R_nil _ _ _ _ _, by repeat (first | (with_reducible first | exact HB.out | apply below_alloc | apply pw_below_drewN | apply below_drew1) | exact HB.out)⟩
    ·
     rw [if_neg c4] at H
     exact absurd H (by simp)
   ·
    rw [if_neg c3] at H
    have c3b0 : decide (x7_1 < (l0.length : Int)) = false := decide_eq_false c3
    clear c3
    replace H := Option.bind_eq_some_iff.mp H
    obtain ⟨t1225, A90, H⟩ := H
    replace H : (if t1225 = true then (galleyref14_Chain.l1 k1 l0 l1 0) else (some (([] : List (S70)), ([] : List (List (S70))), 130))) = some (r1, r2, r3) := H
    have A9 := Aside0.mk A90
    clear A90
    by_cases c10 : t1225 = true
    ·
     subst c10
     have H1 : (galleyref14_Chain.l1 k1 l0 l1 0) = some (r1, r2, r3) := by rw [if_pos rfl] at H; exact H
     clear H
     have H := H1
     clear H1
     have H' := Aside0.mk H
     clear H
     go_wp2_with (first | ((with_reducible refine gate_callee (f := 88) rfl ?_); refine goesL_ (some 31) rfl rfl Try.func88 (by kernel_rfl) rfl #[.slice A1 l1.length c1] rfl (by (try simp only [List.map_toArray, List.map_cons, List.map_nil]); first | done | rfl | (simp only [List.length_drop, List.length_take]; rfl)) ?_; (with_reducible refine (galleyref14_Valid.calls k1 _ _ l1 true _ ?side1 ?side2 A9.out).mono ?_); (case side1 => repeat (first | exact (Kd.V_reads' HO_1.out).2.2 | (with_reducible refine Kd.C_alloc ?_ _) | (with_reducible refine Kd.C_drewN ?_ _) | (with_reducible refine Kd.C_drew ?_))); (case side2 => exact (Kd.V_reads' HO_1.out).2.1); rintro e w11 ⟨rfl, hb⟩; refine ⟨_, rfl, ?_⟩; have n0_ := Aside0.mk (Kd.V_below HO_1.out hb); have n1_ := Aside0.mk (below_step HB.out hb); clear HO_1 HB; have HO_1 := n0_; have HB := n1_; clear n0_ n1_; (try clear hb); (try clear hb2); (try clear hk); (try clear hi)))
     go_loopg [8] k1 (fun kq v8 w' => ∃ (x8_2 : Int), v8 = .int .i64 x8_2 ∧ Aside0 (galleyref14_Chain.l1 kq l0 l1 x8_2 = some (r1, r2, r3)) ∧ Aside0 (kq ≤ k1) ∧ Aside0 (Kd.V k70 70 w' w.heap.size (fun k_ => (P1_ k_ ∨ w.heap.size ≤ k_)) (.slice A1 l1.length c1) l1) ∧ Aside0 (Below w.heap.size w w'))
     case atStart => exact ⟨(0), (by first | rfl | (simp; done) | (simp [*]; done) | (simp; exact isEmpty_bne _)), H', ⟨Nat.le_refl _⟩, ⟨by (with_reducible repeat (first | apply Kd.V_alloc | apply Kd.V_drewN | apply Kd.V_drew)); exact HO_1.out⟩, ⟨by repeat (first | (with_reducible first | exact HB.out | apply below_alloc | apply pw_below_drewN | apply below_drew1) | exact HB.out)⟩⟩
     case round =>
      clear H'
      (try clear c1); (try clear p1); (try clear q1); (try clear hx1); (try clear p2); (try clear c3); (try clear c3b0); (try clear c4); (try clear c4b0); (try clear c6); (try clear p6); (try clear c8); (try clear c10); (try clear hx1223_0); (try clear p1223); (try clear p2); (try clear q1223)
      obtain ⟨x8_2, rfl, HA, HK2, HO_1, HB⟩ := hrel
      cases gk with
      | zero => exact absurd HA.out (by simp [galleyref14_Chain.l1])
      | succ k2 =>
       have H := HA.out
       clear HA
       simp only [galleyref14_Chain.l1] at H
       by_cases c12 : (wrap64 (x8_2 + 1)) < (l0.length : Int)
       ·
        rw [if_pos c12] at H
        have c12b0 : decide ((wrap64 (x8_2 + 1)) < (l0.length : Int)) = true := decide_eq_true c12
        clear c12
        by_cases c13 : 0 ≤ x8_2
        ·
         rw [if_pos c13] at H
         have c13b0 : decide (0 ≤ x8_2) = true := decide_eq_true c13
         clear c13
         by_cases c14 : x8_2 < (l0.length : Int)
         ·
          rw [if_pos c14] at H
          have c14b0 : decide (x8_2 < (l0.length : Int)) = true := decide_eq_true c14
          clear c14
          replace H := Option.bind_eq_some_iff.mp H
          obtain ⟨⟨t1227, t1228⟩, A150, H⟩ := H
          replace H : (if 0 ≤ (wrap64 (x8_2 + 1)) then ((galleyref14_lens.f k2 (rd_L6 l0 (wrap64 (x8_2 + 1)))).bind fun bt1230 => (if t1228 = bt1230.1 then (galleyref14_Chain.l1 k2 l0 l1 (wrap64 (x8_2 + 1))) else (some (([] : List (S70)), ([] : List (List (S70))), 131)))) else (none)) = some (r1, r2, r3) := H
          have A15 := Aside0.mk A150
          clear A150
          obtain ⟨ji16, hji16⟩ : ∃ j_ : Int, (wrap64 (x8_2 + 1)) = j_ := ⟨_, rfl⟩
          replace H : (if 0 ≤ (ji16) then ((galleyref14_lens.f k2 (rd_L6 l0 (ji16))).bind fun bt1230 => (if t1228 = bt1230.1 then (galleyref14_Chain.l1 k2 l0 l1 ji16) else (some (([] : List (S70)), ([] : List (List (S70))), 131)))) else (none)) = some (r1, r2, r3) := by first | (rw [hji16] at H; exact H) | (simp only [hji16] at H ⊢; exact H)
          (try rw [hji16] at c12b0)
          (try rw [hji16] at A15)
          have hji16w : (IntKind.i64.wrap (x8_2 + 1)) = ji16 := (i64_w _).trans hji16
          by_cases c17 : 0 ≤ (ji16)
          ·
           rw [if_pos c17] at H
           have c17b0 : decide (0 ≤ (ji16)) = true := decide_eq_true c17
           clear c17
           replace H := Option.bind_eq_some_iff.mp H
           obtain ⟨⟨t1230, t1231⟩, A180, H⟩ := H
           replace H : (if t1228 = t1230 then (galleyref14_Chain.l1 k2 l0 l1 ji16) else (some (([] : List (S70)), ([] : List (List (S70))), 131))) = some (r1, r2, r3) := H
           have A18 := Aside0.mk A180
           clear A180
           by_cases c19 : t1228 = t1230
           ·
            rw [if_pos c19] at H
            have c19b0 : (t1228 == t1230) = true := beq_iff_eq.mpr c19
            have c19b1 : (t1228 != t1230) = false := bne_eq_false_iff_eq.mpr c19
            clear c19
            have H' := Aside0.mk H
            clear H
            have p1226 : 0 ≤ (x8_2 : Int) := of_decide_eq_true (by first | (with_reducible assumption) | assumption)
            have q1226 : x8_2 < (l0.length : Int) := of_decide_eq_true (by first | (with_reducible assumption) | assumption)
            obtain ⟨ad1226, A1226_0, c1226_0, e1226, hx1226_0, hl1226_0, hi1226_0⟩ := at_L6 HR0.out x8_2 p1226 q1226
            cases e1226
            replace hx1226_0 := (HB.out.cell (World.block_lt_of_cell? w _ hx1226_0)).trans hx1226_0
            have HR1226_0 := Aside0.mk hi1226_0
            have HC1226_0 := Aside0.mk hl1226_0
            clear hi1226_0 hl1226_0
            replace p1226 := eq_true p1226
            replace q1226 := eq_true q1226
            go_wp2_with (first | ((with_reducible refine gate_callee (f := 89) rfl ?_); refine goesL_ (some 45) rfl rfl Try.func89 (by kernel_rfl) rfl #[.slice A1226_0 (rd_L6 l0 x8_2).length c1226_0] rfl (by (try simp only [List.map_toArray, List.map_cons, List.map_nil]); first | done | rfl | (simp only [List.length_drop, List.length_take]; rfl)) ?_; (with_reducible refine (galleyref14_lens.calls k2 _ _ (rd_L6 l0 x8_2) t1227 t1228 _ ?side1 ?side2 A15.out).mono ?_); (case side1 => repeat (first | exact (Kd.C_below HR1226_0.out HB.out) | (with_reducible refine Kd.C_alloc ?_ _) | (with_reducible refine Kd.C_drewN ?_ _) | (with_reducible refine Kd.C_drew ?_))); (case side2 => exact HC1226_0.out); rintro e w' ⟨rfl, ⟨nd, rfl⟩⟩; refine ⟨_, rfl, ?_⟩; have p1229 : 0 ≤ ((ji16) : Int) := of_decide_eq_true (by first | (with_reducible assumption) | assumption); have q1229 : (ji16) < (l0.length : Int) := of_decide_eq_true (by first | (with_reducible assumption) | assumption); obtain ⟨ad1229, A1229_0, c1229_0, e1229, hx1229_0, hl1229_0, hi1229_0⟩ := at_L6 HR0.out (ji16) p1229 q1229; obtain rfl : ad1226 = ad1229 := (by injection e1229); replace hx1229_0 := (HB.out.cell (World.block_lt_of_cell? w _ hx1229_0)).trans hx1229_0; have HR1229_0 := Aside0.mk hi1229_0; have HC1229_0 := Aside0.mk hl1229_0; clear hi1229_0 hl1229_0; replace p1229 := eq_true p1229; replace q1229 := eq_true q1229) | ((with_reducible refine gate_callee (f := 89) rfl ?_); refine goesL_ (some 54) rfl rfl Try.func89 (by kernel_rfl) rfl #[.slice A1229_0 (rd_L6 l0 (ji16)).length c1229_0] rfl (by (try simp only [List.map_toArray, List.map_cons, List.map_nil]); first | done | (simp only [hji16]; rfl) | rfl | (simp only [List.length_drop, List.length_take]; rfl)) ?_; (with_reducible refine (galleyref14_lens.calls k2 _ _ (rd_L6 l0 (ji16)) t1230 t1231 _ ?side1 ?side2 A18.out).mono ?_); (case side1 => repeat (first | exact (Kd.C_below HR1229_0.out HB.out) | (with_reducible refine Kd.C_alloc ?_ _) | (with_reducible refine Kd.C_drewN ?_ _) | (with_reducible refine Kd.C_drew ?_))); (case side2 => exact HC1229_0.out); rintro e w' ⟨rfl, ⟨nd, rfl⟩⟩; refine ⟨_, rfl, ?_⟩))
            go_roundg k2
            case measure => have := HK1.out; have := HK2.out; omega
            case rel => exact ⟨(ji16), (by first | rfl | (simp; done) | (simp only [← hji16] <;> (first | rfl | simp)) | (simp [*]; done)), (by first | exact H' | (rw [hji16]; exact H')), ⟨by have := HK1.out; have := HK2.out; omega⟩, ⟨by (with_reducible repeat (first | apply Kd.V_alloc | apply Kd.V_drewN | apply Kd.V_drew)); exact HO_1.out⟩, ⟨by repeat (first | (with_reducible first | exact HB.out | apply below_alloc | apply pw_below_drewN | apply below_drew1) | exact HB.out)⟩⟩
           ·
            rw [if_neg c19] at H
            have c19b0 : (t1228 == t1230) = false := beq_eq_false_iff_ne.mpr c19
            have c19b1 : (t1228 != t1230) = true := bne_iff_ne.mpr c19
            simp only [Option.some.injEq, Prod.mk.injEq] at H
            obtain ⟨rfl, rfl, rfl⟩ := H
            have p1226 : 0 ≤ (x8_2 : Int) := of_decide_eq_true (by first | (with_reducible assumption) | assumption)
            have q1226 : x8_2 < (l0.length : Int) := of_decide_eq_true (by first | (with_reducible assumption) | assumption)
            obtain ⟨ad1226, A1226_0, c1226_0, e1226, hx1226_0, hl1226_0, hi1226_0⟩ := at_L6 HR0.out x8_2 p1226 q1226
            cases e1226
            replace hx1226_0 := (HB.out.cell (World.block_lt_of_cell? w _ hx1226_0)).trans hx1226_0
            have HR1226_0 := Aside0.mk hi1226_0
            have HC1226_0 := Aside0.mk hl1226_0
            clear hi1226_0 hl1226_0
            replace p1226 := eq_true p1226
            replace q1226 := eq_true q1226
            go_wp2_with (first | ((with_reducible refine gate_callee (f := 89) rfl ?_); refine goesL_ (some 45) rfl rfl Try.func89 (by kernel_rfl) rfl #[.slice A1226_0 (rd_L6 l0 x8_2).length c1226_0] rfl (by (try simp only [List.map_toArray, List.map_cons, List.map_nil]); first | done | rfl | (simp only [List.length_drop, List.length_take]; rfl)) ?_; (with_reducible refine (galleyref14_lens.calls k2 _ _ (rd_L6 l0 x8_2) t1227 t1228 _ ?side1 ?side2 A15.out).mono ?_); (case side1 => repeat (first | exact (Kd.C_below HR1226_0.out HB.out) | (with_reducible refine Kd.C_alloc ?_ _) | (with_reducible refine Kd.C_drewN ?_ _) | (with_reducible refine Kd.C_drew ?_))); (case side2 => exact HC1226_0.out); rintro e w' ⟨rfl, ⟨nd, rfl⟩⟩; refine ⟨_, rfl, ?_⟩; have p1229 : 0 ≤ ((ji16) : Int) := of_decide_eq_true (by first | (with_reducible assumption) | assumption); have q1229 : (ji16) < (l0.length : Int) := of_decide_eq_true (by first | (with_reducible assumption) | assumption); obtain ⟨ad1229, A1229_0, c1229_0, e1229, hx1229_0, hl1229_0, hi1229_0⟩ := at_L6 HR0.out (ji16) p1229 q1229; obtain rfl : ad1226 = ad1229 := (by injection e1229); replace hx1229_0 := (HB.out.cell (World.block_lt_of_cell? w _ hx1229_0)).trans hx1229_0; have HR1229_0 := Aside0.mk hi1229_0; have HC1229_0 := Aside0.mk hl1229_0; clear hi1229_0 hl1229_0; replace p1229 := eq_true p1229; replace q1229 := eq_true q1229) | ((with_reducible refine gate_callee (f := 89) rfl ?_); refine goesL_ (some 54) rfl rfl Try.func89 (by kernel_rfl) rfl #[.slice A1229_0 (rd_L6 l0 (ji16)).length c1229_0] rfl (by (try simp only [List.map_toArray, List.map_cons, List.map_nil]); first | done | (simp only [hji16]; rfl) | rfl | (simp only [List.length_drop, List.length_take]; rfl)) ?_; (with_reducible refine (galleyref14_lens.calls k2 _ _ (rd_L6 l0 (ji16)) t1230 t1231 _ ?side1 ?side2 A18.out).mono ?_); (case side1 => repeat (first | exact (Kd.C_below HR1229_0.out HB.out) | (with_reducible refine Kd.C_alloc ?_ _) | (with_reducible refine Kd.C_drewN ?_ _) | (with_reducible refine Kd.C_drew ?_))); (case side2 => exact HC1229_0.out); rintro e w' ⟨rfl, ⟨nd, rfl⟩⟩; refine ⟨_, rfl, ?_⟩))
            go_ret3
            exact ⟨_, _, by first | rfl | (simp [errW_none, errW_some] <;> rfl) | (simp only [← hji16]; first | rfl | (simp [errW_none, errW_some] <;> rfl)) | (simp [*, errW_none, errW_some] <;> rfl), (by exact Kd.V_mono (Kd.R_V (Kd.R_nil k70 70 _ 0 (fun _ => False))) (fun k_ hk => hk.elim)), by first | exact Kd.S_nil _ _ _ _ _ | exact Kd.N_nil _ _ _ _ _ | exact Kd.V_nil _ _ _ _ _ | exact Kd.Q_nil _ _ _ _ _ | exact Kd.R_nil _ _ _ _ _, by repeat (first | (with_reducible first | exact HB.out | apply below_alloc | apply pw_below_drewN | apply below_drew1) | exact HB.out)⟩
          ·
           rw [if_neg c17] at H
           exact absurd H (by simp)
         ·
          rw [if_neg c14] at H
          exact absurd H (by simp)
        ·
         rw [if_neg c13] at H
         exact absurd H (by simp)
       ·
        rw [if_neg c12] at H
        have c12b0 : decide ((wrap64 (x8_2 + 1)) < (l0.length : Int)) = false := decide_eq_false c12
        clear c12
        have H' := Aside0.mk H
        clear H
        go_wp2
        go_loopg [1, 13, 14] k2 (fun kq v1 v13 v14 w' => ∃ (x1_3 : List (S70)) (x13_3 : List (List (S70))) (x14_3 : Int), v14 = .int .i64 x14_3 ∧ Aside0 (galleyref14_Chain.l2 kq l0 x1_3 x13_3 x14_3 = some (r1, r2, r3)) ∧ Aside0 (kq ≤ k2) ∧ Aside0 (Kd.V k70 70 w' w.heap.size (fun k_ => (P1_ k_ ∨ w.heap.size ≤ k_) ∧ some k_ ≠ (v13 : Value).ownBlock) v1 x1_3) ∧ Aside0 (Kd.S (Kd.slice 70 k70) 25 w' w.heap.size (fun k_ => (w.heap.size ≤ k_)) v13 x13_3) ∧ Aside0 (Below w.heap.size w w'))
        case atStart => exact ⟨(l1), (([] : List (List (S70)))), (0), (by first | rfl | (simp; done) | (simp [*]; done) | (simp; exact isEmpty_bne _)), H', ⟨Nat.le_refl _⟩, ⟨by (with_reducible repeat (first | apply Kd.V_alloc | apply Kd.V_drewN | apply Kd.V_drew)); exact Kd.V_mono HO_1.out (fun _ hk => ⟨hk, (by simp [Value.ownBlock])⟩)⟩, ⟨by first | exact Kd.S_nil _ _ _ _ _ | exact Kd.N_nil _ _ _ _ _ | exact Kd.V_nil _ _ _ _ _ | exact Kd.Q_nil _ _ _ _ _ | exact Kd.R_nil _ _ _ _ _⟩, ⟨by repeat (first | (with_reducible first | exact HB.out | apply below_alloc | apply pw_below_drewN | apply below_drew1) | exact HB.out)⟩⟩
        case round =>
         clear H'
         (try clear c1); (try clear p1); (try clear q1); (try clear hx1); (try clear p2); (try clear c3); (try clear c3b0); (try clear c4); (try clear c4b0); (try clear c6); (try clear p6); (try clear c8); (try clear c10); (try clear c12); (try clear c12b0); (try clear p12); (try clear q12); (try clear hx12); (try clear c13); (try clear c13b0); (try clear c14); (try clear c14b0); (try clear c17); (try clear c17b0); (try clear c19); (try clear c19b0); (try clear c19b1); (try clear hx1223_0); (try clear hx1226_0); (try clear hx1229_0); (try clear p1); (try clear p1223); (try clear p1226); (try clear p1229); (try clear p2); (try clear p6); (try clear q1); (try clear q1223); (try clear q1226); (try clear q1229)
         obtain ⟨x1_3, x13_3, x14_3, rfl, HA, HK3, HO_1, HO_13, HB⟩ := hrel
         cases gk with
         | zero => exact absurd HA.out (by simp [galleyref14_Chain.l2])
         | succ k3 =>
          have H := HA.out
          clear HA
          simp only [galleyref14_Chain.l2] at H
          by_cases c20 : x14_3 < (l0.length : Int)
          ·
           rw [if_pos c20] at H
           have c20b0 : decide (x14_3 < (l0.length : Int)) = true := decide_eq_true c20
           clear c20
           by_cases c21 : 0 ≤ x14_3
           ·
            rw [if_pos c21] at H
            have c21b0 : decide (0 ≤ x14_3) = true := decide_eq_true c21
            clear c21
            replace H := Option.bind_eq_some_iff.mp H
            obtain ⟨⟨t1233, t1234, t1235⟩, A220, H⟩ := H
            replace H : (if t1235 = 0 then (if x13_3.length < 5864062014805 then (galleyref14_Chain.l2 k3 l0 t1234 (x13_3 ++ [t1233]) (wrap64 (x14_3 + 1))) else (none)) else (some (([] : List (S70)), ([] : List (List (S70))), t1235))) = some (r1, r2, r3) := H
            have A22 := Aside0.mk A220
            clear A220
            by_cases c23 : t1235 = 0
            ·
             rw [if_pos c23] at H
             have c23b0 : (t1235 == 0) = true := beq_iff_eq.mpr c23
             have c23b1 : (t1235 != 0) = false := bne_eq_false_iff_eq.mpr c23
             clear c23
             by_cases c24 : x13_3.length < 5864062014805
             ·
              rw [if_pos c24] at H
              have LMc24 := Aside0.mk c24
              clear c24
              obtain ⟨y1240, hy1240⟩ : ∃ y_ : List (List (S70)), y_ = (x13_3 ++ [t1233]) := ⟨_, rfl⟩
              replace H : (galleyref14_Chain.l2 k3 l0 t1234 y1240 (wrap64 (x14_3 + 1))) = some (r1, r2, r3) := by first | (rw [hy1240]; with_reducible exact H) | (have H2_ := (Option.bind_some _ _).symm.trans H; rw [hy1240]; with_reducible exact H2_) | (have H2_ := (Option.bind_some _ _).symm.trans H; with_reducible exact H2_) | with_reducible exact H | (rw [hy1240]; exact H) | exact H
              have Ny1240 := Aside0.mk hy1240
              clear hy1240
              have H' := Aside0.mk H
              clear H
              have p1232 : 0 ≤ (x14_3 : Int) := of_decide_eq_true (by first | (with_reducible assumption) | assumption)
              have q1232 : x14_3 < (l0.length : Int) := of_decide_eq_true (by first | (with_reducible assumption) | assumption)
              obtain ⟨ad1232, A1232_0, c1232_0, e1232, hx1232_0, hl1232_0, hi1232_0⟩ := at_L6 HR0.out x14_3 p1232 q1232
              cases e1232
              replace hx1232_0 := (HB.out.cell (World.block_lt_of_cell? w _ hx1232_0)).trans hx1232_0
              have HR1232_0 := Aside0.mk hi1232_0
              have HC1232_0 := Aside0.mk hl1232_0
              clear hi1232_0 hl1232_0
              replace p1232 := eq_true p1232
              replace q1232 := eq_true q1232
              obtain ⟨Ao25, co25, eo25⟩ := Kd.V_slice HO_1.out
              subst eo25
              go_wp2_with (first | ((with_reducible refine gate_callee (f := 58) rfl ?_); refine goesL_ (some 72) rfl rfl Try.func58 (by kernel_rfl) rfl #[.slice A1232_0 (rd_L6 l0 x14_3).length c1232_0, .slice Ao25 x1_3.length co25] rfl (by (try simp only [List.map_toArray, List.map_cons, List.map_nil]); first | done | rfl | (simp only [List.length_drop, List.length_take]; rfl)) ?_; (with_reducible refine (galleyref14_Both.calls _ _ (rd_L6 l0 x14_3) _ _ x1_3 t1233 t1234 t1235 _ ?side1 ?side2 ?side3 ?side4 A22.out).mono ?_); (case side1 => repeat (first | exact (Kd.C_below HR1232_0.out HB.out) | (with_reducible refine Kd.C_alloc ?_ _) | (with_reducible refine Kd.C_drewN ?_ _) | (with_reducible refine Kd.C_drew ?_))); (case side2 => exact HC1232_0.out); (case side3 => repeat (first | exact (Kd.V_reads' HO_1.out).2.2 | (with_reducible refine Kd.C_alloc ?_ _) | (with_reducible refine Kd.C_drewN ?_ _) | (with_reducible refine Kd.C_drew ?_))); (case side4 => exact (Kd.V_reads' HO_1.out).2.1); rintro e w26 ⟨v1236, v1238, rfl, ho0, ho1, hb⟩; refine ⟨_, rfl, ?_⟩; have n0_ := Aside0.mk (Kd.V_mono (Kd.V_told (Kd.V_told (Kd.V_old HO_1.out hb) (Kd.R_base ho0)) (Kd.R_base ho1)) (fun _ h_ => h_.1)); have n1_ := Aside0.mk (Kd.S_mono (Kd.S_told (Kd.S_told (Kd.S_old HO_13.out hb) (Kd.R_base ho0)) (Kd.R_base ho1)) (fun _ h_ => h_.1)); have n2_ := Aside0.mk (Kd.R_lower (Kd.R_newM (M := fun k_ => (w.heap.size ≤ k_)) ho0 (below_size HB.out) (fun k_ h_ => h_)) (below_size HB.out)); have n3_ := Aside0.mk (Kd.R_lower (Kd.R_newM (M := fun k_ => (w.heap.size ≤ k_)) ho1 (below_size HB.out) (fun k_ h_ => h_)) (below_size HB.out)); have n4_ := Aside0.mk (below_step HB.out hb); clear HO_1 HO_13 HB; have HO_1 := n0_; have HO_13 := n1_; have HO1237 := n2_; have HO1239 := n3_; have HB := n4_; clear n0_ n1_ n2_ n3_ n4_; (try clear hb); (try clear hb2); (try clear hk); (try clear hi); (try clear ho0); (try clear ho1); obtain ⟨Ao28, co28, eo28⟩ := Kd.R_slice HO1237.out; subst eo28) | ((with_reducible refine gate_builtin (b := .append) (xs := #[.tmp 79, .tmp 81]) rfl ?_); at_builtin; refine Kd.S_append (Kd.slice 70 k70) (w0 := w) w.heap.size rfl (.tmp 79) (.tmp 81) 60 25 (.slice none 0 0) 24 rfl Try.underlying60 info25 rfl (by decide) (by omega) u13 x13_3 t1233 [.slice Ao28 t1233.length co28] (fun k_ => (w.heap.size ≤ k_) ∧ some k_ ≠ (v1238 : Value).ownBlock) (fun k_ => some k_ = (.slice Ao28 t1233.length co28 : Value).ownBlock) rfl rfl ?aP (fun k_ hk_ => ((Kd.R_mono (ok' := fun k_ => ((fun k_ => (w.heap.size ≤ k_) ∧ some k_ ≠ (v1238 : Value).ownBlock)) k_ ∧ some k_ ≠ (u13 : Value).ownBlock) (Kd.R_apart' (HO1237.out) (Kd.S_typed HO_13.out) (by decide)) (fun k_ hk => ⟨⟨hk.1.1, hk.1.2⟩, hk.2⟩))).1 k_ hk_.symm) ?aF ?aO ?aB ?aS ?aL ?_; (case aP => exact Kd.M_row (Kd.R_mono (Kd.R_tight rfl (Kd.R_mono (ok' := fun k_ => ((fun k_ => (w.heap.size ≤ k_) ∧ some k_ ≠ (v1238 : Value).ownBlock)) k_ ∧ some k_ ≠ (u13 : Value).ownBlock) (Kd.R_apart' (HO1237.out) (Kd.S_typed HO_13.out) (by decide)) (fun k_ hk => ⟨⟨hk.1.1, hk.1.2⟩, hk.2⟩))) (fun _ h_ => h_))); (case aB => exact HB.out); (case aF => exact (fun k_ hk => ⟨(Nat.le_trans (below_size HB.out) hk), Kd.fresh' (Kd.R_lt HO1239.out) k_ hk⟩)); (case aO => exact (by (with_reducible repeat (first | apply Kd.S_alloc | apply Kd.S_drewN | apply Kd.S_drew)); exact Kd.S_mono HO_13.out (fun k_ hk => ⟨⟨hk.1.1, hk.2⟩, fun e_ => hk.1.2 e_⟩))); (case aS => exact (below_size HB.out)); (case aL => have := LMc24.out; omega); intro v1241 w27 ho hb hg hat; rw [← Ny1240.out] at ho; have n0_ := Aside0.mk (Kd.V_afterv (ok := (fun k_ => (P1_ k_ ∨ w.heap.size ≤ k_) ∧ some k_ ≠ (.slice Ao28 t1233.length co28 : Value).ownBlock ∧ some k_ ≠ (v1238 : Value).ownBlock)) (by (with_reducible repeat (first | apply Kd.V_alloc | apply Kd.V_drewN | apply Kd.V_drew)); exact Kd.V_mono HO_1.out (fun _ hk => ⟨⟨hk.1.1.1, ⟨hk.1.2, hk.2⟩⟩, hk.1.1.2⟩)) hg hat); have n1_ := Aside0.mk (Kd.R_over' HO1239.out (Kd.S_typed HO_13.out) (by decide) hg); have n2_ := Aside0.mk (hb); have n3_ := Aside0.mk (ho); clear HO_1 HO1239 HB HO_13 HO1237; have HO_1 := n0_; have HO1239 := n1_; have HB := n2_; have HO1242 := n3_; clear n0_ n1_ n2_ n3_; clear ho hb hg hat))
              go_roundg k3
              case measure => have := HK1.out; have := HK2.out; have := HK3.out; omega
              case rel => exact ⟨(t1234), (y1240), (wrap64 (x14_3 + 1)), (by first | rfl | (simp; done) | (simp [*]; done) | (simp; exact isEmpty_bne _)), H', ⟨by have := HK1.out; have := HK2.out; have := HK3.out; omega⟩, ⟨by have hz_ := Kd.R_apart' HO1239.out (Kd.S_typed HO1242.out) (by decide); exact Kd.V_mono (Kd.R_V hz_) (fun k_ hk => ⟨.inr hk.1.1, hk.2⟩)⟩, ⟨by (with_reducible repeat (first | apply Kd.S_alloc | apply Kd.S_drewN | apply Kd.S_drew)); exact Kd.S_mono HO1242.out (fun _ hk => hk.1)⟩, ⟨by repeat (first | (with_reducible first | exact HB.out | apply below_alloc | apply pw_below_drewN | apply below_drew1) | exact HB.out)⟩⟩
             ·
              rw [if_neg c24] at H
              exact absurd H (by simp)
            ·
             rw [if_neg c23] at H
             have c23b0 : (t1235 == 0) = false := beq_eq_false_iff_ne.mpr c23
             have c23b1 : (t1235 != 0) = true := bne_iff_ne.mpr c23
             simp only [Option.some.injEq, Prod.mk.injEq] at H
             obtain ⟨rfl, rfl, rfl⟩ := H
             have p1232 : 0 ≤ (x14_3 : Int) := of_decide_eq_true (by first | (with_reducible assumption) | assumption)
             have q1232 : x14_3 < (l0.length : Int) := of_decide_eq_true (by first | (with_reducible assumption) | assumption)
             obtain ⟨ad1232, A1232_0, c1232_0, e1232, hx1232_0, hl1232_0, hi1232_0⟩ := at_L6 HR0.out x14_3 p1232 q1232
             cases e1232
             replace hx1232_0 := (HB.out.cell (World.block_lt_of_cell? w _ hx1232_0)).trans hx1232_0
             have HR1232_0 := Aside0.mk hi1232_0
             have HC1232_0 := Aside0.mk hl1232_0
             clear hi1232_0 hl1232_0
             replace p1232 := eq_true p1232
             replace q1232 := eq_true q1232
             obtain ⟨Ao29, co29, eo29⟩ := Kd.V_slice HO_1.out
             subst eo29
             go_wp2_with (first | ((with_reducible refine gate_callee (f := 58) rfl ?_); refine goesL_ (some 72) rfl rfl Try.func58 (by kernel_rfl) rfl #[.slice A1232_0 (rd_L6 l0 x14_3).length c1232_0, .slice Ao29 x1_3.length co29] rfl (by (try simp only [List.map_toArray, List.map_cons, List.map_nil]); first | done | rfl | (simp only [List.length_drop, List.length_take]; rfl)) ?_; (with_reducible refine (galleyref14_Both.calls _ _ (rd_L6 l0 x14_3) _ _ x1_3 t1233 t1234 t1235 _ ?side1 ?side2 ?side3 ?side4 A22.out).mono ?_); (case side1 => repeat (first | exact (Kd.C_below HR1232_0.out HB.out) | (with_reducible refine Kd.C_alloc ?_ _) | (with_reducible refine Kd.C_drewN ?_ _) | (with_reducible refine Kd.C_drew ?_))); (case side2 => exact HC1232_0.out); (case side3 => repeat (first | exact (Kd.V_reads' HO_1.out).2.2 | (with_reducible refine Kd.C_alloc ?_ _) | (with_reducible refine Kd.C_drewN ?_ _) | (with_reducible refine Kd.C_drew ?_))); (case side4 => exact (Kd.V_reads' HO_1.out).2.1); rintro e w30 ⟨v1236, v1238, rfl, ho0, ho1, hb⟩; refine ⟨_, rfl, ?_⟩; have n0_ := Aside0.mk (Kd.V_mono (Kd.V_told (Kd.V_told (Kd.V_old HO_1.out hb) (Kd.R_base ho0)) (Kd.R_base ho1)) (fun _ h_ => h_.1)); have n1_ := Aside0.mk (Kd.S_mono (Kd.S_told (Kd.S_told (Kd.S_old HO_13.out hb) (Kd.R_base ho0)) (Kd.R_base ho1)) (fun _ h_ => h_.1)); have n2_ := Aside0.mk (Kd.R_lower (Kd.R_newM (M := fun k_ => (w.heap.size ≤ k_)) ho0 (below_size HB.out) (fun k_ h_ => h_)) (below_size HB.out)); have n3_ := Aside0.mk (Kd.R_lower (Kd.R_newM (M := fun k_ => (w.heap.size ≤ k_)) ho1 (below_size HB.out) (fun k_ h_ => h_)) (below_size HB.out)); have n4_ := Aside0.mk (below_step HB.out hb); clear HO_1 HO_13 HB; have HO_1 := n0_; have HO_13 := n1_; have HO1237 := n2_; have HO1239 := n3_; have HB := n4_; clear n0_ n1_ n2_ n3_ n4_; (try clear hb); (try clear hb2); (try clear hk); (try clear hi); (try clear ho0); (try clear ho1)))
             go_ret3
             exact ⟨_, _, by first | rfl | (simp [errW_none, errW_some] <;> rfl) | (simp [*, errW_none, errW_some] <;> rfl), (by exact Kd.V_mono (Kd.R_V (Kd.R_nil k70 70 _ 0 (fun _ => False))) (fun k_ hk => hk.elim)), by first | exact Kd.S_nil _ _ _ _ _ | exact Kd.N_nil _ _ _ _ _ | exact Kd.V_nil _ _ _ _ _ | exact Kd.Q_nil _ _ _ _ _ | exact Kd.R_nil _ _ _ _ _, by repeat (first | (with_reducible first | exact HB.out | apply below_alloc | apply pw_below_drewN | apply below_drew1) | exact HB.out)⟩
           ·
            rw [if_neg c21] at H
            exact absurd H (by simp)
          ·
           rw [if_neg c20] at H
           have c20b0 : decide (x14_3 < (l0.length : Int)) = false := decide_eq_false c20
           clear c20
           simp only [Option.some.injEq, Prod.mk.injEq] at H
           obtain ⟨rfl, rfl, rfl⟩ := H
           go_wp2
           go_ret3
           exact ⟨_, _, by first | rfl | (simp [errW_none, errW_some] <;> rfl) | (simp [*, errW_none, errW_some] <;> rfl), by (with_reducible repeat (first | apply Kd.V_alloc | apply Kd.V_drewN | apply Kd.V_drew)); exact HO_1.out, by (with_reducible repeat (first | apply Kd.S_alloc | apply Kd.S_drewN | apply Kd.S_drew)); exact HO_13.out, by repeat (first | (with_reducible first | exact HB.out | apply below_alloc | apply pw_below_drewN | apply below_drew1) | exact HB.out)⟩
    ·
     replace c10 := Bool.eq_false_iff.mpr c10
     subst c10
     have H1 : (some (([] : List (S70)), ([] : List (List (S70))), 130)) = some (r1, r2, r3) := by rw [if_neg (show ¬ (false = true) by decide)] at H; exact H
     clear H
     have H := H1
     clear H1
     simp only [Option.some.injEq, Prod.mk.injEq] at H
     obtain ⟨rfl, rfl, rfl⟩ := H
     go_wp2_with (first | ((with_reducible refine gate_callee (f := 88) rfl ?_); refine goesL_ (some 31) rfl rfl Try.func88 (by kernel_rfl) rfl #[.slice A1 l1.length c1] rfl (by (try simp only [List.map_toArray, List.map_cons, List.map_nil]); first | done | rfl | (simp only [List.length_drop, List.length_take]; rfl)) ?_; (with_reducible refine (galleyref14_Valid.calls k1 _ _ l1 false _ ?side1 ?side2 A9.out).mono ?_); (case side1 => repeat (first | exact (Kd.V_reads' HO_1.out).2.2 | (with_reducible refine Kd.C_alloc ?_ _) | (with_reducible refine Kd.C_drewN ?_ _) | (with_reducible refine Kd.C_drew ?_))); (case side2 => exact (Kd.V_reads' HO_1.out).2.1); rintro e w31 ⟨rfl, hb⟩; refine ⟨_, rfl, ?_⟩; have n0_ := Aside0.mk (Kd.V_below HO_1.out hb); have n1_ := Aside0.mk (below_step HB.out hb); clear HO_1 HB; have HO_1 := n0_; have HB := n1_; clear n0_ n1_; (try clear hb); (try clear hb2); (try clear hk); (try clear hi)))
     go_ret3
     exact ⟨_, _, by first | rfl | (simp [errW_none, errW_some] <;> rfl) | (simp [*, errW_none, errW_some] <;> rfl), (by exact Kd.V_mono (Kd.R_V (Kd.R_nil k70 70 _ 0 (fun _ => False))) (fun k_ hk => hk.elim)), by first | exact Kd.S_nil _ _ _ _ _ | exact Kd.N_nil _ _ _ _ _ | exact Kd.V_nil _ _ _ _ _ | exact Kd.Q_nil _ _ _ _ _ | exact Kd.R_nil _ _ _ _ _, by repeat (first | (with_reducible first | exact HB.out | apply below_alloc | apply pw_below_drewN | apply below_drew1) | exact HB.out)⟩
end Go.Proofs.Ytidihnnkcmeaeaa.A
