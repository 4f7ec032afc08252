/- Part of a claim: theorems about the program's functions, written by a program over the translation. No condition. -/
import Derived.Test.YtidihnnkcmeaeaaA0
import Derived.Test.YtidihnnkcmeaeaaMG1
import Derived.Test.YtidihnnkcmeaeaaMG4
import Derived.Test.YtidihnnkcmeaeaaA24
import Derived.Test.YtidihnnkcmeaeaaA29
import Derived.Test.YtidihnnkcmeaeaaA34
import Derived.Test.YtidihnnkcmeaeaaA39
import Derived.Test.YtidihnnkcmeaeaaA48
import Derived.Test.YtidihnnkcmeaeaaA42
namespace Go.Proofs.Ytidihnnkcmeaeaa.A
open Go.RowKit Go.Proofs.YtidihnnkcmeaeaaW.PrintWords Go.Proofs.YtidihnnkcmeaeaaW.PrintLast Go.Proofs.YtidihnnkcmeaeaaW.PrintMore
attribute [local go_sem] max2_int min2_int max_two min_two max_three min_three max_four min_four
set_option linter.unusedVariables false
set_option linter.unusedSimpArgs false
mutual
def galleylaw14_ShiftChain.j0 : Nat → List (List (S70)) → List (S70) → Bool → Option (Bool)
 | 0, _, _, _ => none
 | k + 1, x0, x1, x22 => if x22 = true then (some true) else (galleylaw14_ShiftChain.l0 k x0 x1 ([] : List (List (S70))) x0 (x0.length : Int) 0)
def galleylaw14_ShiftChain.l0 : Nat → List (List (S70)) → List (S70) → List (List (S70)) → List (List (S70)) → Int → Int → Option (Bool)
 | 0, _, _, _, _, _, _ => none
 | k + 1, x0, x1, x5, x23, x24, x25 => if x25 < x24 then (if 0 ≤ x25 then (if x25 < (x23.length : Int) then ((galleylaw14_copied.f (rd_L6 x23 x25)).bind fun t1250 => (if x5.length < 5864062014805 then (galleylaw14_ShiftChain.l0 k x0 x1 (x5 ++ [t1250]) x23 x24 (wrap64 (x25 + 1))) else (none))) else (none)) else (none)) else ((galleylaw14_copied.f x1).bind fun t1256 => ((shift_Chain.f k x5 t1256).bind fun bt1259 => ((galleyref14_Chain.f k x0 x1).bind fun bt1266 => ((galleyref14_Same.f k bt1259.1 bt1266.1).bind fun t1273 => (if t1273 = true then ((galleyref14_SameAll.f k bt1259.2.1 bt1266.2.1).bind fun t1274 => (if t1274 = true then (some (bt1259.2.2 == bt1266.2.2)) else (some false))) else (some false))))))
end
def galleylaw14_ShiftChain.f (k : Nat) (l0 : List (List (S70))) (l1 : List (S70)) : Option (Bool) := (galleylaw14_fixed.f k).bind fun t1243 => (if t1243 = true then ((galleylaw14_great.f k l0).bind fun t1244 => (if t1244 = true then (galleylaw14_ShiftChain.j0 k l0 l1 true) else ((galleylaw14_great.f k (([l1] : List (List (S70))))).bind fun t1248 => (galleylaw14_ShiftChain.j0 k l0 l1 t1248)))) else (some false))
set_option maxHeartbeats 8000000 in
set_option maxRecDepth 100000 in
theorem galleylaw14_ShiftChain.calls (k : Nat) (A0 : Option Addr) (c0 : Nat) (l0 : List (List (S70))) (P1_ : Nat → Prop) (A1 : Option Addr) (c1 : Nat) (l1 : List (S70)) (r : Bool) (w : World) (hr0 : Kd.C (Kd.slice 70 k70) w A0 l0.length l0) (hc0 : l0.length ≤ c0) (hs1 : Kd.V k70 70 w w.heap.size (fun k_ => P1_ k_) (.slice A1 l1.length c1) l1) (h : galleylaw14_ShiftChain.f k l0 l1 = some r) :
  Calls Try.prog 19 #[.slice A0 l0.length c0, .slice A1 l1.length c1] w fun e w' => e = .returned (.bool r) ∧ Below w.heap.size w w' := by
 have HR0 := Aside0.mk hr0
 have HC0 := Aside0.mk hc0
 clear hr0 hc0
 have HO1 := Aside0.mk (show Kd.V k70 70 w w.heap.size (fun k_ => (P1_ k_ ∨ w.heap.size ≤ k_)) (.slice A1 l1.length c1) l1 from Kd.V_mono hs1 (fun k_ hk => .inl hk))
 have HB := Aside0.mk (Below.refl w.heap.size w)
 have H : ((galleylaw14_fixed.f k).bind fun t1243 => (if t1243 = true then ((galleylaw14_great.f k l0).bind fun t1244 => (if t1244 = true then (galleylaw14_ShiftChain.j0 k l0 l1 true) else ((galleylaw14_great.f k (([l1] : List (List (S70))))).bind fun t1248 => (galleylaw14_ShiftChain.j0 k l0 l1 t1248)))) else (some false))) = some r := h
 clear h
 replace H := Option.bind_eq_some_iff.mp H
 obtain ⟨t1243, A30, H⟩ := H
 try dsimp only at H
 have A3 := Aside0.mk A30
 clear A30
 by_cases c4 : t1243 = true
 ·
  subst c4
  rw [if_pos rfl] at H
  have HC5 := Aside0.mk H
  clear H
  go_enter Try.func19, Try.ntmps19
  go_upto_region 3 with (first | ((with_reducible refine gate_callee (f := 44) rfl ?_); refine goesL_ (some 14) rfl rfl Try.func44 (by kernel_rfl) rfl #[] rfl (by (try simp only [List.map_toArray, List.map_cons, List.map_nil]); first | done | rfl | (simp only [List.length_drop, List.length_take]; rfl)) ?_; (with_reducible refine (galleylaw14_fixed.calls k  true _ A3.out).mono ?_); rintro e w6 ⟨rfl, hb⟩; refine ⟨_, rfl, ?_⟩; have n0_ := Aside0.mk (Kd.V_below HO1.out hb); have n1_ := Aside0.mk (below_step HB.out hb); clear HO1 HB; have HO1 := n0_; have HB := n1_; clear n0_ n1_; (try clear hb); (try clear hb2); (try clear hk); (try clear hi)))
  (try simp only [Act.put, List.setIfInBounds_toArray, List.set_cons_zero, List.set_cons_succ])
  go_cut [22] (fun v22 wc => ∃ (kq : Nat) (x22_4 : Bool), v22 = .bool x22_4 ∧ Aside0 (galleylaw14_ShiftChain.j0 kq l0 l1 x22_4 = some r) ∧ Aside0 (kq ≤ k) ∧ Aside0 (Kd.V k70 70 wc w.heap.size (fun k_ => (P1_ k_ ∨ w.heap.size ≤ k_)) (.slice A1 l1.length c1) l1) ∧ Aside0 (Below w.heap.size w wc))
  case first =>
   have H := HC5.out
   clear HC5
   replace H := Option.bind_eq_some_iff.mp H
   obtain ⟨t1244, A70, H⟩ := H
   try dsimp only at H
   have A7 := Aside0.mk A70
   clear A70
   by_cases c8 : t1244 = true
   ·
    subst c8
    rw [if_pos rfl] at H
    have H' := Aside0.mk H
    clear H
    go_wp2_with (first | ((with_reducible refine gate_callee (f := 56) rfl ?_); refine goesL_ (some 17) rfl rfl Try.func56 (by kernel_rfl) rfl #[.slice A0 l0.length c0] rfl (by (try simp only [List.map_toArray, List.map_cons, List.map_nil]); first | done | rfl | (simp only [List.length_drop, List.length_take]; rfl)) ?_; (with_reducible refine (galleylaw14_great.calls k _ _ l0 true _ ?side1 ?side2 A7.out).mono ?_); (case side1 => exact (Kd.C_below HR0.out HB.out)); (case side2 => exact HC0.out); rintro e w9 ⟨rfl, hb⟩; refine ⟨_, rfl, ?_⟩; have n0_ := Aside0.mk (Kd.V_below HO1.out hb); have n1_ := Aside0.mk (below_step HB.out hb); clear HO1 HB; have HO1 := n0_; have HB := n1_; clear n0_ n1_; (try clear hb); (try clear hb2); (try clear hk); (try clear hi)))
    go_meet
    case rel => exact ⟨_, (true), (by first | rfl | (simp; done) | (simp [*]; done) | (simp; exact isEmpty_bne _)), H', ⟨by first | omega | exact Nat.le_refl _⟩, ⟨by (with_reducible repeat (first | apply Kd.V_alloc | apply Kd.V_drewN | apply Kd.V_drew)); exact HO1.out⟩, ⟨by repeat (first | (with_reducible first | exact HB.out | apply below_alloc | apply pw_below_drewN | apply below_drew1) | exact HB.out)⟩⟩
   ·
    replace c8 := Bool.eq_false_iff.mpr c8
    subst c8
    rw [if_neg (show ¬ (false = true) by decide)] at H
    obtain ⟨y1245, hy1245⟩ : ∃ y_ : List (List (S70)), y_ = (([l1] : List (List (S70)))) := ⟨_, rfl⟩
    replace H : ((galleylaw14_great.f k y1245).bind fun t1248 => (galleylaw14_ShiftChain.j0 k l0 l1 t1248)) = some r := by first | (rw [hy1245]; with_reducible exact H) | (have H2_ := (Option.bind_some _ _).symm.trans H; rw [hy1245]; with_reducible exact H2_) | (have H2_ := (Option.bind_some _ _).symm.trans H; with_reducible exact H2_) | with_reducible exact H | (rw [hy1245]; exact H) | exact H
    have Ny1245 := Aside0.mk hy1245
    clear hy1245
    replace H := Option.bind_eq_some_iff.mp H
    obtain ⟨t1248, A100, H⟩ := H
    try dsimp only at H
    have A10 := Aside0.mk A100
    clear A100
    have H' := Aside0.mk H
    clear H
    go_wp2_with (first | ((with_reducible refine gate_callee (f := 56) rfl ?_); refine goesL_ (some 17) rfl rfl Try.func56 (by kernel_rfl) rfl #[.slice A0 l0.length c0] rfl (by (try simp only [List.map_toArray, List.map_cons, List.map_nil]); first | done | rfl | (simp only [List.length_drop, List.length_take]; rfl)) ?_; (with_reducible refine (galleylaw14_great.calls k _ _ l0 false _ ?side1 ?side2 A7.out).mono ?_); (case side1 => exact (Kd.C_below HR0.out HB.out)); (case side2 => exact HC0.out); rintro e w11 ⟨rfl, hb⟩; refine ⟨_, rfl, ?_⟩; have n0_ := Aside0.mk (Kd.V_below HO1.out hb); have n1_ := Aside0.mk (below_step HB.out hb); clear HO1 HB; have HO1 := n0_; have HB := n1_; clear n0_ n1_; (try clear hb); (try clear hb2); (try clear hk); (try clear hi)) | ((with_reducible refine gate_dst (N := 20) rfl ?_); (try (refine gate_guard (by rfl) ?_; dsimp only)); refine Kd.N_lit (Kd.slice 70 k70) _ 25 ?hg (N' := 20) ?hd (xs := ([l1] : List (List (S70)))) (inner := [.slice A1 l1.length c1]) (ok := (fun k_ => (P1_ k_ ∨ w.heap.size ≤ k_))) (okp := (fun k_ => (P1_ k_ ∨ w.heap.size ≤ k_))) ?hr ?hp (fun _ hk => hk) ((show ∀ k_, w11.heap.size ≤ k_ → (fun k_ => (P1_ k_ ∨ w.heap.size ≤ k_)) k_ from fun k_ hk => (.inr (Nat.le_trans (below_size HB.out) hk))) _ (Nat.le_refl _)) (Below.refl _ _) (Nat.le_refl _) (by simp) ?_; (case hd => rfl); (case hg => rfl); (case hr => first | (go_simp; done) | (go_simp; rfl)); (case hp => exact (Reps.one (show Kd.FK (Kd.slice 70 k70) _ _ l1 [.slice A1 l1.length c1] from (Kd.FK_slice_mk (Kd.V_reads' (Kd.V_mono (ok' := (fun k_ => (P1_ k_ ∨ w.heap.size ≤ k_))) (HO1.out) (fun k_ hk => hk))).2.1 (Kd.V_F (Kd.V_mono (ok' := (fun k_ => (P1_ k_ ∨ w.heap.size ≤ k_))) (HO1.out) (fun k_ hk => hk))))) (Reps.none _ _))); intro v1246 w12 ho13 hb hg_ hnew_; clear hg_ hnew_; (first | rw [← Ny1245.out] at ho13 | (simp only [Int.reduceToNat] at ho13; rw [← Ny1245.out] at ho13)); have n0_ := Aside0.mk (Kd.V_elder' HO1.out (Kd.N_base ho13) hb); have n1_ := Aside0.mk (Kd.N_lower ho13 (below_size HB.out)); have n2_ := Aside0.mk (below_step HB.out hb); clear HO1 HB; have HO1 := n0_; have HO1247 := n1_; have HB := n2_; clear n0_ n1_ n2_; clear hb ho13; obtain ⟨Ao14, co14, eo14⟩ := Kd.N_slice HO1247.out; subst eo14) | (go_at_call 56; (with_reducible refine (galleylaw14_great.calls k _ _ y1245 t1248 _ ?side1 ?side2 A10.out).mono ?_); (case side1 => repeat (first | exact (Kd.N_reads' HO1247.out).2.2 | (with_reducible refine Kd.C_alloc ?_ _) | (with_reducible refine Kd.C_drewN ?_ _) | (with_reducible refine Kd.C_drew ?_))); (case side2 => exact (Kd.N_reads' HO1247.out).2.1); rintro e w15 ⟨rfl, hb⟩; have n0_ := Aside0.mk (Kd.V_below HO1.out hb); have n1_ := Aside0.mk (Kd.N_below HO1247.out hb); have n2_ := Aside0.mk (below_step HB.out hb); clear HO1 HO1247 HB; have HO1 := n0_; have HO1247 := n1_; have HB := n2_; clear n0_ n1_ n2_; (try clear hb); (try clear hb2); (try clear hk); (try clear hi)))
    go_meet
    case rel => exact ⟨_, (t1248), (by first | rfl | (simp; done) | (simp [*]; done) | (simp; exact isEmpty_bne _)), H', ⟨by first | omega | exact Nat.le_refl _⟩, ⟨by (with_reducible repeat (first | apply Kd.V_alloc | apply Kd.V_drewN | apply Kd.V_drew)); exact Kd.V_mono HO1.out (fun _ hk => hk.1)⟩, ⟨by repeat (first | (with_reducible first | exact HB.out | apply below_alloc | apply pw_below_drewN | apply below_drew1) | exact HB.out)⟩⟩
  case rest =>
   clear HC5
   (try clear c1); (try clear p2); (try clear c4); (try clear c5); (try clear c8)
   obtain ⟨kq, x22_4, rfl, HA, HJ4, HO_1, HB⟩ := hcut
   cases kq with
   | zero => exact absurd HA.out (by simp [galleylaw14_ShiftChain.j0])
   | succ kj4 =>
    have H := HA.out
    clear HA
    simp only [galleylaw14_ShiftChain.j0] at H
    by_cases c16 : x22_4 = true
    ·
     subst c16
     rw [if_pos rfl] at H
     obtain rfl := Option.some.inj H
     go_wp2
     go_ret
     exact ⟨by first | rfl | (simp [errW_none, errW_some] <;> rfl) | (simp [*, errW_none, errW_some] <;> rfl), by repeat (first | (with_reducible first | exact HB.out | apply below_alloc | apply pw_below_drewN | apply below_drew1) | exact HB.out)⟩
    ·
     replace c16 := Bool.eq_false_iff.mpr c16
     subst c16
     rw [if_neg (show ¬ (false = true) by decide)] at H
     have H' := Aside0.mk H
     clear H
     go_wp2
     go_loopg [5, 25] kj4 (fun kq v5 v25 w' => ∃ (x5_2 : List (List (S70))) (x25_2 : Int), v25 = .int .i64 x25_2 ∧ Aside0 (galleylaw14_ShiftChain.l0 kq l0 l1 x5_2 l0 (l0.length : Int) x25_2 = some r) ∧ Aside0 (kq ≤ kj4) ∧ Aside0 (Kd.V k70 70 w' w.heap.size (fun k_ => (P1_ k_ ∨ w.heap.size ≤ k_) ∧ some k_ ≠ (v5 : Value).ownBlock) (.slice A1 l1.length c1) l1) ∧ Aside0 (Kd.N (Kd.slice 70 k70) 25 w' w.heap.size (fun k_ => (P1_ k_ ∨ w.heap.size ≤ k_)) v5 x5_2) ∧ Aside0 (Below w.heap.size w w'))
     case atStart => exact ⟨(([] : List (List (S70)))), (0), (by first | rfl | (simp; done) | (simp [*]; done) | (simp; exact isEmpty_bne _)), H', ⟨Nat.le_refl _⟩, ⟨by (with_reducible repeat (first | apply Kd.V_alloc | apply Kd.V_drewN | apply Kd.V_drew)); exact Kd.V_mono HO_1.out (fun _ hk => ⟨hk, (by simp [Value.ownBlock])⟩)⟩, ⟨by first | exact Kd.S_nil _ _ _ _ _ | exact Kd.N_nil _ _ _ _ _ | exact Kd.V_nil _ _ _ _ _ | exact Kd.Q_nil _ _ _ _ _ | exact Kd.R_nil _ _ _ _ _⟩, ⟨by repeat (first | (with_reducible first | exact HB.out | apply below_alloc | apply pw_below_drewN | apply below_drew1) | exact HB.out)⟩⟩
     case round =>
      clear H'
      (try clear c1); (try clear p2); (try clear c4); (try clear c5); (try clear c8); (try clear c16); (try clear p2)
      obtain ⟨x5_2, x25_2, rfl, HA, HK2, HO_1, HO_5, HB⟩ := hrel
      cases gk with
      | zero => exact absurd HA.out (by simp [galleylaw14_ShiftChain.l0])
      | succ k2 =>
       have H := HA.out
       clear HA
       simp only [galleylaw14_ShiftChain.l0] at H
       by_cases c17 : x25_2 < (l0.length : Int)
       ·
        rw [if_pos c17] at H
        have c17b0 : decide (x25_2 < (l0.length : Int)) = true := decide_eq_true c17
        clear c17
        by_cases c18 : 0 ≤ x25_2
        ·
         rw [if_pos c18] at H
         have c18b0 : decide (0 ≤ x25_2) = true := decide_eq_true c18
         clear c18
         by_cases c19 : x25_2 < (l0.length : Int)
         ·
          rw [if_pos c19] at H
          have c19b0 : decide (x25_2 < (l0.length : Int)) = true := decide_eq_true c19
          clear c19
          replace H := Option.bind_eq_some_iff.mp H
          obtain ⟨t1250, A200, H⟩ := H
          try dsimp only at H
          have A20 := Aside0.mk A200
          clear A200
          by_cases c21 : x5_2.length < 5864062014805
          ·
           rw [if_pos c21] at H
           have LMc21 := Aside0.mk c21
           clear c21
           obtain ⟨y1253, hy1253⟩ : ∃ y_ : List (List (S70)), y_ = (x5_2 ++ [t1250]) := ⟨_, rfl⟩
           replace H : (galleylaw14_ShiftChain.l0 k2 l0 l1 y1253 l0 (l0.length : Int) (wrap64 (x25_2 + 1))) = some r := by first | (rw [hy1253]; with_reducible exact H) | (have H2_ := (Option.bind_some _ _).symm.trans H; rw [hy1253]; with_reducible exact H2_) | (have H2_ := (Option.bind_some _ _).symm.trans H; with_reducible exact H2_) | with_reducible exact H | (rw [hy1253]; exact H) | exact H
           have Ny1253 := Aside0.mk hy1253
           clear hy1253
           have H' := Aside0.mk H
           clear H
           have p1249 : 0 ≤ (x25_2 : Int) := of_decide_eq_true (by first | (with_reducible assumption) | assumption)
           have q1249 : x25_2 < (l0.length : Int) := of_decide_eq_true (by first | (with_reducible assumption) | assumption)
           obtain ⟨ad1249, A1249_0, c1249_0, e1249, hx1249_0, hl1249_0, hi1249_0⟩ := at_L6 HR0.out x25_2 p1249 q1249
           cases e1249
           replace hx1249_0 := (HB.out.cell (World.block_lt_of_cell? w _ hx1249_0)).trans hx1249_0
           have HR1249_0 := Aside0.mk hi1249_0
           have HC1249_0 := Aside0.mk hl1249_0
           clear hi1249_0 hl1249_0
           replace p1249 := eq_true p1249
           replace q1249 := eq_true q1249
           go_wp2_with (first | ((with_reducible refine gate_callee (f := 52) rfl ?_); refine goesL_ (some 31) rfl rfl Try.func52 (by kernel_rfl) rfl #[.slice A1249_0 (rd_L6 l0 x25_2).length c1249_0] rfl (by (try simp only [List.map_toArray, List.map_cons, List.map_nil]); first | done | rfl | (simp only [List.length_drop, List.length_take]; rfl)) ?_; (with_reducible refine (galleylaw14_copied.calls _ _ (rd_L6 l0 x25_2) t1250 _ ?side1 ?side2 A20.out).mono ?_); (case side1 => repeat (first | exact (Kd.C_below HR1249_0.out HB.out) | (with_reducible refine Kd.C_alloc ?_ _) | (with_reducible refine Kd.C_drewN ?_ _) | (with_reducible refine Kd.C_drew ?_))); (case side2 => exact HC1249_0.out); rintro e w22 ⟨v1251, rfl, ho0, hb⟩; refine ⟨_, rfl, ?_⟩; have n0_ := Aside0.mk (Kd.V_elder' HO_1.out (Kd.R_base ho0) hb); have n1_ := Aside0.mk (Kd.N_elder' HO_5.out (Kd.R_base ho0) hb); have n2_ := Aside0.mk (Kd.R_lower (Kd.R_newM (M := fun k_ => (w.heap.size ≤ k_)) ho0 (below_size HB.out) (fun k_ h_ => h_)) (below_size HB.out)); have n3_ := Aside0.mk (below_step HB.out hb); clear HO_1 HO_5 HB; have HO_1 := n0_; have HO_5 := n1_; have HO1252 := n2_; have HB := n3_; clear n0_ n1_ n2_ n3_; (try clear hb); (try clear hb2); (try clear hk); (try clear hi); (try clear ho0); obtain ⟨Ao24, co24, eo24⟩ := Kd.R_slice HO1252.out; subst eo24) | ((with_reducible refine gate_builtin (b := .append) (xs := #[.tmp 29, .tmp 32]) rfl ?_); (try (refine gate_guard (by rfl) ?_; dsimp only)); at_builtin; refine Kd.N_append (Kd.slice 70 k70) (w0 := w) w.heap.size rfl (.tmp 29) (.tmp 32) 60 25 (.slice none 0 0) 24 rfl Try.underlying60 info25 rfl (by decide) (by omega) u5 x5_2 t1250 [.slice Ao24 t1250.length co24] (fun k_ => (P1_ k_ ∨ w.heap.size ≤ k_)) (fun k_ => ((fun k_ => (P1_ k_ ∨ w.heap.size ≤ k_))) k_ ∧ some k_ ≠ (u5 : Value).ownBlock) rfl rfl ?aP (fun _ hk => hk) ?aF ?aO ?aB ?aS ?aL ?_; (case aP => exact (Kd.FK_slice_mk (Kd.R_reads' (Kd.R_mono (ok' := (fun k_ => ((fun k_ => (P1_ k_ ∨ w.heap.size ≤ k_))) k_ ∧ some k_ ≠ (u5 : Value).ownBlock)) (Kd.R_apart' (HO1252.out) (Kd.N_typed HO_5.out) (by decide)) (fun k_ hk => ⟨(.inr (hk.1.1)), hk.2⟩))).2.1 (Kd.R_F (Kd.R_mono (ok' := (fun k_ => ((fun k_ => (P1_ k_ ∨ w.heap.size ≤ k_))) k_ ∧ some k_ ≠ (u5 : Value).ownBlock)) (Kd.R_apart' (HO1252.out) (Kd.N_typed HO_5.out) (by decide)) (fun k_ hk => ⟨(.inr (hk.1.1)), hk.2⟩))))); (case aB => exact HB.out); (case aF => exact (fun k_ hk => (.inr (Nat.le_trans (below_size HB.out) hk)))); (case aO => exact (by (with_reducible repeat (first | apply Kd.N_alloc | apply Kd.N_drewN | apply Kd.N_drew)); exact Kd.N_mono HO_5.out (fun _ hk => hk.1))); (case aS => exact (below_size HB.out)); (case aL => have := LMc21.out; omega); intro v1254 w23 ho hb hg hat; rw [← Ny1253.out] at ho; have n0_ := Aside0.mk (Kd.V_afterv (ok := (fun k_ => (P1_ k_ ∨ w.heap.size ≤ k_) ∧ some k_ ≠ (.slice Ao24 t1250.length co24 : Value).ownBlock)) (by (with_reducible repeat (first | apply Kd.V_alloc | apply Kd.V_drewN | apply Kd.V_drew)); exact Kd.V_mono HO_1.out (fun _ hk => ⟨⟨hk.1.1, hk.2⟩, hk.1.2⟩)) hg hat); have n1_ := Aside0.mk (hb); have n2_ := Aside0.mk (ho); clear HO_1 HB HO_5 HO1252; have HO_1 := n0_; have HB := n1_; have HO1255 := n2_; clear n0_ n1_ n2_; clear ho hb hg hat))
           go_roundg k2
           case measure => have := HJ4.out; have := HK2.out; omega
           case rel => exact ⟨(y1253), (wrap64 (x25_2 + 1)), (by first | rfl | (simp; done) | (simp [*]; done) | (simp; exact isEmpty_bne _)), H', ⟨by have := HJ4.out; have := HK2.out; omega⟩, ⟨by (with_reducible repeat (first | apply Kd.V_alloc | apply Kd.V_drewN | apply Kd.V_drew)); exact Kd.V_mono HO_1.out (fun _ hk => ⟨hk.1.1, hk.2⟩)⟩, ⟨by (with_reducible repeat (first | apply Kd.N_alloc | apply Kd.N_drewN | apply Kd.N_drew)); exact HO1255.out⟩, ⟨by repeat (first | (with_reducible first | exact HB.out | apply below_alloc | apply pw_below_drewN | apply below_drew1) | exact HB.out)⟩⟩
          ·
           rw [if_neg c21] at H
           exact absurd H (by simp)
         ·
          rw [if_neg c19] at H
          exact absurd H (by simp)
        ·
         rw [if_neg c18] at H
         exact absurd H (by simp)
       ·
        rw [if_neg c17] at H
        have c17b0 : decide (x25_2 < (l0.length : Int)) = false := decide_eq_false c17
        clear c17
        replace H := Option.bind_eq_some_iff.mp H
        obtain ⟨t1256, A250, H⟩ := H
        try dsimp only at H
        have A25 := Aside0.mk A250
        clear A250
        replace H := Option.bind_eq_some_iff.mp H
        obtain ⟨⟨t1259, t1260, t1261⟩, A260, H⟩ := H
        try dsimp only at H
        have A26 := Aside0.mk A260
        clear A260
        replace H := Option.bind_eq_some_iff.mp H
        obtain ⟨⟨t1266, t1269, t1272⟩, A270, H⟩ := H
        try dsimp only at H
        have A27 := Aside0.mk A270
        clear A270
        replace H := Option.bind_eq_some_iff.mp H
        obtain ⟨t1273, A280, H⟩ := H
        try dsimp only at H
        have A28 := Aside0.mk A280
        clear A280
        by_cases c29 : t1273 = true
        ·
         subst c29
         rw [if_pos rfl] at H
         replace H := Option.bind_eq_some_iff.mp H
         obtain ⟨t1274, A300, H⟩ := H
         try dsimp only at H
         have A30 := Aside0.mk A300
         clear A300
         by_cases c31 : t1274 = true
         ·
          subst c31
          rw [if_pos rfl] at H
          obtain rfl := Option.some.inj H
          go_wp2_with (first | ((with_reducible refine gate_callee (f := 52) rfl ?_); refine goesL_ (some 38) rfl rfl Try.func52 (by kernel_rfl) rfl #[.slice A1 l1.length c1] rfl (by (try simp only [List.map_toArray, List.map_cons, List.map_nil]); first | done | rfl | (simp only [List.length_drop, List.length_take]; rfl)) ?_; (with_reducible refine (galleylaw14_copied.calls _ _ l1 t1256 _ ?side1 ?side2 A25.out).mono ?_); (case side1 => repeat (first | exact (Kd.V_reads' HO_1.out).2.2 | (with_reducible refine Kd.C_alloc ?_ _) | (with_reducible refine Kd.C_drewN ?_ _) | (with_reducible refine Kd.C_drew ?_))); (case side2 => exact (Kd.V_reads' HO_1.out).2.1); rintro e w32 ⟨v1257, rfl, ho0, hb⟩; refine ⟨_, rfl, ?_⟩; have n0_ := Aside0.mk (Kd.V_elder' HO_1.out (Kd.R_base ho0) hb); have n1_ := Aside0.mk (Kd.N_elder' HO_5.out (Kd.R_base ho0) hb); have n2_ := Aside0.mk (Kd.R_lower (Kd.R_newM (M := fun k_ => (w.heap.size ≤ k_)) ho0 (below_size HB.out) (fun k_ h_ => h_)) (below_size HB.out)); have n3_ := Aside0.mk (below_step HB.out hb); clear HO_1 HO_5 HB; have HO_1 := n0_; have HO_5 := n1_; have HO1258 := n2_; have HB := n3_; clear n0_ n1_ n2_ n3_; (try clear hb); (try clear hb2); (try clear hk); (try clear hi); (try clear ho0); obtain ⟨Ao33, co33, eo33⟩ := Kd.N_slice HO_5.out; subst eo33; obtain ⟨Ao34, co34, eo34⟩ := Kd.R_slice HO1258.out; subst eo34) | ((with_reducible refine gate_callee (f := 49) rfl ?_); refine goesL_ (some 39) rfl rfl Try.func49 (by kernel_rfl) rfl #[.slice Ao33 x5_2.length co33, .slice Ao34 t1256.length co34] rfl (by (try simp only [List.map_toArray, List.map_cons, List.map_nil]); first | done | rfl | (simp only [List.length_drop, List.length_take]; rfl)) ?_; (with_reducible refine (shift_Chain.calls k2 _ _ x5_2 _ _ t1256 t1259 t1260 t1261 _ ?side1 ?side2 ?side3 ?side4 A26.out).mono ?_); (case side1 => repeat (first | exact (Kd.N_reads' HO_5.out).2.2 | (with_reducible refine Kd.C_alloc ?_ _) | (with_reducible refine Kd.C_drewN ?_ _) | (with_reducible refine Kd.C_drew ?_))); (case side2 => exact (Kd.N_reads' HO_5.out).2.1); (case side3 => repeat (first | exact (Kd.R_reads' HO1258.out).2.2 | (with_reducible refine Kd.C_alloc ?_ _) | (with_reducible refine Kd.C_drewN ?_ _) | (with_reducible refine Kd.C_drew ?_))); (case side4 => exact (Kd.R_reads' HO1258.out).2.1); rintro e w35 ⟨v1262, v1264, rfl, ho0, ho1, hb⟩; refine ⟨_, rfl, ?_⟩; have n0_ := Aside0.mk (Kd.V_mono (Kd.V_told (Kd.V_told (Kd.V_old HO_1.out hb) (Kd.R_base ho0)) (Kd.N_base (Kd.S_N ho1))) (fun _ h_ => h_.1)); have n1_ := Aside0.mk (Kd.N_mono (Kd.N_told (Kd.N_told (Kd.N_old HO_5.out hb) (Kd.R_base ho0)) (Kd.N_base (Kd.S_N ho1))) (fun _ h_ => h_.1)); have n2_ := Aside0.mk (Kd.R_elder' HO1258.out (Kd.R_base ho0) hb); have n3_ := Aside0.mk (Kd.R_lower (Kd.R_new' (Kd.R_newM (M := fun k_ => (w.heap.size ≤ k_)) ho0 (below_size HB.out) (fun k_ h_ => h_)) (Kd.R_lt HO1258.out)) (below_size HB.out)); have n4_ := Aside0.mk (Kd.N_lower (Kd.N_mono (ok' := fun k_ => (P1_ k_ ∨ w.heap.size ≤ k_) ∧ some k_ ≠ (v1262 : Value).ownBlock ∧ some k_ ≠ (.slice Ao33 x5_2.length co33 : Value).ownBlock ∧ some k_ ≠ (.slice Ao34 t1256.length co34 : Value).ownBlock) (Kd.S_N (Kd.S_bound ho1)) (fun k_ hk_ => ⟨(.inr (Nat.le_trans (below_size HB.out) hk_.2.1)), hk_.1, (Kd.fresh' (Kd.N_lt HO_5.out) k_ hk_.2.1), (Kd.fresh' (Kd.R_lt HO1258.out) k_ hk_.2.1)⟩)) (below_size HB.out)); have n5_ := Aside0.mk (below_step HB.out hb); clear HO_1 HO_5 HO1258 HB; have HO_1 := n0_; have HO_5 := n1_; have HO1258 := n2_; have HO1263 := n3_; have HO1265 := n4_; have HB := n5_; clear n0_ n1_ n2_ n3_ n4_ n5_; (try clear hb); (try clear hb2); (try clear hk); (try clear hi); (try clear ho0); (try clear ho1)) | ((with_reducible refine gate_callee (f := 63) rfl ?_); refine goesL_ (some 46) rfl rfl Try.func63 (by kernel_rfl) rfl #[.slice A0 l0.length c0, .slice A1 l1.length c1] rfl (by (try simp only [List.map_toArray, List.map_cons, List.map_nil]); first | done | rfl | (simp only [List.length_drop, List.length_take]; rfl)) ?_; (with_reducible refine (galleyref14_Chain.calls k2 _ _ l0 (fun k_ => (((((P1_ k_ ∨ w.heap.size ≤ k_) ∧ some k_ ≠ (.slice Ao33 x5_2.length co33 : Value).ownBlock) ∧ some k_ ≠ (.slice Ao34 t1256.length co34 : Value).ownBlock) ∧ some k_ ≠ (v1262 : Value).ownBlock) ∧ some k_ ≠ (v1264 : Value).ownBlock)) _ _ l1 t1266 t1269 t1272 _ ?side1 ?side2 ?side3 A27.out).mono ?_); (case side1 => exact (Kd.C_below HR0.out HB.out)); (case side2 => exact HC0.out); (case side3 => exact HO_1.out); rintro e w36 ⟨v1267, v1270, rfl, ho0, ho1, hb⟩; refine ⟨_, rfl, ?_⟩; have n0_ := Aside0.mk (Kd.V_elder' HO_1.out (Kd.N_base (Kd.S_N ho1)) hb); have n1_ := Aside0.mk (Kd.N_elder' HO_5.out (Kd.N_base (Kd.S_N ho1)) hb); have n2_ := Aside0.mk (Kd.R_below HO1258.out hb); have n3_ := Aside0.mk (Kd.R_below HO1263.out hb); have n4_ := Aside0.mk (Kd.N_elder' HO1265.out (Kd.N_base (Kd.S_N ho1)) hb); have n5_ := Aside0.mk (Kd.V_lower (Kd.V_mono (ok' := fun k_ => (P1_ k_ ∨ w.heap.size ≤ k_) ∧ some k_ ≠ (v1270 : Value).ownBlock ∧ some k_ ≠ (.slice Ao33 x5_2.length co33 : Value).ownBlock ∧ some k_ ≠ (.slice Ao34 t1256.length co34 : Value).ownBlock ∧ some k_ ≠ (v1262 : Value).ownBlock ∧ some k_ ≠ (v1264 : Value).ownBlock) ho0 (fun k_ hk_ => ⟨Or.elim hk_.1 (fun hs_ => hs_.1.1.1.1) (fun hn_ => (.inr (Nat.le_trans (below_size HB.out) hn_))), hk_.2, Or.elim hk_.1 (fun hs_ => hs_.1.1.1.2) (fun hn_ => (Kd.fresh' (Kd.N_lt HO_5.out) k_ hn_)), Or.elim hk_.1 (fun hs_ => hs_.1.1.2) (fun hn_ => (Kd.fresh' (Kd.R_lt HO1258.out) k_ hn_)), Or.elim hk_.1 (fun hs_ => hs_.1.2) (fun hn_ => (Kd.fresh' (Kd.R_lt HO1263.out) k_ hn_)), Or.elim hk_.1 (fun hs_ => hs_.2) (fun hn_ => (Kd.fresh' (Kd.N_lt HO1265.out) k_ hn_))⟩)) (below_size HB.out)); have n6_ := Aside0.mk (Kd.N_lower (Kd.N_mono (ok' := fun k_ => (P1_ k_ ∨ w.heap.size ≤ k_) ∧ some k_ ≠ (.slice Ao33 x5_2.length co33 : Value).ownBlock ∧ some k_ ≠ (.slice Ao34 t1256.length co34 : Value).ownBlock ∧ some k_ ≠ (v1262 : Value).ownBlock ∧ some k_ ≠ (v1264 : Value).ownBlock) (Kd.S_N ho1) (fun k_ hn_ => ⟨(.inr (Nat.le_trans (below_size HB.out) hn_)), (Kd.fresh' (Kd.N_lt HO_5.out) k_ hn_), (Kd.fresh' (Kd.R_lt HO1258.out) k_ hn_), (Kd.fresh' (Kd.R_lt HO1263.out) k_ hn_), (Kd.fresh' (Kd.N_lt HO1265.out) k_ hn_)⟩)) (below_size HB.out)); have n7_ := Aside0.mk (below_step HB.out hb); clear HO_1 HO_5 HO1258 HO1263 HO1265 HB; have HO_1 := n0_; have HO_5 := n1_; have HO1258 := n2_; have HO1263 := n3_; have HO1265 := n4_; have HO1268 := n5_; have HO1271 := n6_; have HB := n7_; clear n0_ n1_ n2_ n3_ n4_ n5_ n6_ n7_; (try clear hb); (try clear hb2); (try clear hk); (try clear hi); (try clear ho0); (try clear ho1); obtain ⟨Ao37, co37, eo37⟩ := Kd.R_slice HO1263.out; subst eo37; obtain ⟨Ao38, co38, eo38⟩ := Kd.V_slice HO1268.out; subst eo38) | ((with_reducible refine gate_callee (f := 46) rfl ?_); refine goesL_ (some 52) rfl rfl Try.func46 (by kernel_rfl) rfl #[.slice Ao37 t1259.length co37, .slice Ao38 t1266.length co38] rfl (by (try simp only [List.map_toArray, List.map_cons, List.map_nil]); first | done | rfl | (simp only [List.length_drop, List.length_take]; rfl)) ?_; (with_reducible refine (galleyref14_Same.calls k2 _ _ t1259 _ _ t1266 true _ ?side1 ?side2 ?side3 ?side4 A28.out).mono ?_); (case side1 => repeat (first | exact (Kd.R_reads' HO1263.out).2.2 | (with_reducible refine Kd.C_alloc ?_ _) | (with_reducible refine Kd.C_drewN ?_ _) | (with_reducible refine Kd.C_drew ?_))); (case side2 => exact (Kd.R_reads' HO1263.out).2.1); (case side3 => repeat (first | exact (Kd.V_reads' HO1268.out).2.2 | (with_reducible refine Kd.C_alloc ?_ _) | (with_reducible refine Kd.C_drewN ?_ _) | (with_reducible refine Kd.C_drew ?_))); (case side4 => exact (Kd.V_reads' HO1268.out).2.1); rintro e w' ⟨rfl, ⟨nd, rfl⟩⟩; refine ⟨_, rfl, ?_⟩; obtain ⟨Ao39, co39, eo39⟩ := Kd.N_slice HO1265.out; subst eo39; obtain ⟨Ao40, co40, eo40⟩ := Kd.N_slice HO1271.out; subst eo40) | (go_at_call 62; (with_reducible refine (galleyref14_SameAll.calls k2 _ _ t1260 _ _ t1269 true _ ?side1 ?side2 ?side3 ?side4 A30.out).mono ?_); (case side1 => repeat (first | exact (Kd.N_reads' HO1265.out).2.2 | (with_reducible refine Kd.C_alloc ?_ _) | (with_reducible refine Kd.C_drewN ?_ _) | (with_reducible refine Kd.C_drew ?_))); (case side2 => exact (Kd.N_reads' HO1265.out).2.1); (case side3 => repeat (first | exact (Kd.N_reads' HO1271.out).2.2 | (with_reducible refine Kd.C_alloc ?_ _) | (with_reducible refine Kd.C_drewN ?_ _) | (with_reducible refine Kd.C_drew ?_))); (case side4 => exact (Kd.N_reads' HO1271.out).2.1); rintro e w' ⟨rfl, ⟨nd, rfl⟩⟩))
          go_ret
          exact ⟨by first | rfl | (simp [errW_none, errW_some] <;> rfl) | (simp [*, errW_none, errW_some] <;> rfl), by repeat (first | (with_reducible first | exact HB.out | apply below_alloc | apply pw_below_drewN | apply below_drew1) | exact HB.out)⟩
         ·
          replace c31 := Bool.eq_false_iff.mpr c31
          subst c31
          rw [if_neg (show ¬ (false = true) by decide)] at H
          obtain rfl := Option.some.inj H
          go_wp2_with (first | ((with_reducible refine gate_callee (f := 52) rfl ?_); refine goesL_ (some 38) rfl rfl Try.func52 (by kernel_rfl) rfl #[.slice A1 l1.length c1] rfl (by (try simp only [List.map_toArray, List.map_cons, List.map_nil]); first | done | rfl | (simp only [List.length_drop, List.length_take]; rfl)) ?_; (with_reducible refine (galleylaw14_copied.calls _ _ l1 t1256 _ ?side1 ?side2 A25.out).mono ?_); (case side1 => repeat (first | exact (Kd.V_reads' HO_1.out).2.2 | (with_reducible refine Kd.C_alloc ?_ _) | (with_reducible refine Kd.C_drewN ?_ _) | (with_reducible refine Kd.C_drew ?_))); (case side2 => exact (Kd.V_reads' HO_1.out).2.1); rintro e w41 ⟨v1257, rfl, ho0, hb⟩; refine ⟨_, rfl, ?_⟩; have n0_ := Aside0.mk (Kd.V_elder' HO_1.out (Kd.R_base ho0) hb); have n1_ := Aside0.mk (Kd.N_elder' HO_5.out (Kd.R_base ho0) hb); have n2_ := Aside0.mk (Kd.R_lower (Kd.R_newM (M := fun k_ => (w.heap.size ≤ k_)) ho0 (below_size HB.out) (fun k_ h_ => h_)) (below_size HB.out)); have n3_ := Aside0.mk (below_step HB.out hb); clear HO_1 HO_5 HB; have HO_1 := n0_; have HO_5 := n1_; have HO1258 := n2_; have HB := n3_; clear n0_ n1_ n2_ n3_; (try clear hb); (try clear hb2); (try clear hk); (try clear hi); (try clear ho0); obtain ⟨Ao42, co42, eo42⟩ := Kd.N_slice HO_5.out; subst eo42; obtain ⟨Ao43, co43, eo43⟩ := Kd.R_slice HO1258.out; subst eo43) | ((with_reducible refine gate_callee (f := 49) rfl ?_); refine goesL_ (some 39) rfl rfl Try.func49 (by kernel_rfl) rfl #[.slice Ao42 x5_2.length co42, .slice Ao43 t1256.length co43] rfl (by (try simp only [List.map_toArray, List.map_cons, List.map_nil]); first | done | rfl | (simp only [List.length_drop, List.length_take]; rfl)) ?_; (with_reducible refine (shift_Chain.calls k2 _ _ x5_2 _ _ t1256 t1259 t1260 t1261 _ ?side1 ?side2 ?side3 ?side4 A26.out).mono ?_); (case side1 => repeat (first | exact (Kd.N_reads' HO_5.out).2.2 | (with_reducible refine Kd.C_alloc ?_ _) | (with_reducible refine Kd.C_drewN ?_ _) | (with_reducible refine Kd.C_drew ?_))); (case side2 => exact (Kd.N_reads' HO_5.out).2.1); (case side3 => repeat (first | exact (Kd.R_reads' HO1258.out).2.2 | (with_reducible refine Kd.C_alloc ?_ _) | (with_reducible refine Kd.C_drewN ?_ _) | (with_reducible refine Kd.C_drew ?_))); (case side4 => exact (Kd.R_reads' HO1258.out).2.1); rintro e w44 ⟨v1262, v1264, rfl, ho0, ho1, hb⟩; refine ⟨_, rfl, ?_⟩; have n0_ := Aside0.mk (Kd.V_mono (Kd.V_told (Kd.V_told (Kd.V_old HO_1.out hb) (Kd.R_base ho0)) (Kd.N_base (Kd.S_N ho1))) (fun _ h_ => h_.1)); have n1_ := Aside0.mk (Kd.N_mono (Kd.N_told (Kd.N_told (Kd.N_old HO_5.out hb) (Kd.R_base ho0)) (Kd.N_base (Kd.S_N ho1))) (fun _ h_ => h_.1)); have n2_ := Aside0.mk (Kd.R_elder' HO1258.out (Kd.R_base ho0) hb); have n3_ := Aside0.mk (Kd.R_lower (Kd.R_new' (Kd.R_newM (M := fun k_ => (w.heap.size ≤ k_)) ho0 (below_size HB.out) (fun k_ h_ => h_)) (Kd.R_lt HO1258.out)) (below_size HB.out)); have n4_ := Aside0.mk (Kd.N_lower (Kd.N_mono (ok' := fun k_ => (P1_ k_ ∨ w.heap.size ≤ k_) ∧ some k_ ≠ (v1262 : Value).ownBlock ∧ some k_ ≠ (.slice Ao42 x5_2.length co42 : Value).ownBlock ∧ some k_ ≠ (.slice Ao43 t1256.length co43 : Value).ownBlock) (Kd.S_N (Kd.S_bound ho1)) (fun k_ hk_ => ⟨(.inr (Nat.le_trans (below_size HB.out) hk_.2.1)), hk_.1, (Kd.fresh' (Kd.N_lt HO_5.out) k_ hk_.2.1), (Kd.fresh' (Kd.R_lt HO1258.out) k_ hk_.2.1)⟩)) (below_size HB.out)); have n5_ := Aside0.mk (below_step HB.out hb); clear HO_1 HO_5 HO1258 HB; have HO_1 := n0_; have HO_5 := n1_; have HO1258 := n2_; have HO1263 := n3_; have HO1265 := n4_; have HB := n5_; clear n0_ n1_ n2_ n3_ n4_ n5_; (try clear hb); (try clear hb2); (try clear hk); (try clear hi); (try clear ho0); (try clear ho1)) | ((with_reducible refine gate_callee (f := 63) rfl ?_); refine goesL_ (some 46) rfl rfl Try.func63 (by kernel_rfl) rfl #[.slice A0 l0.length c0, .slice A1 l1.length c1] rfl (by (try simp only [List.map_toArray, List.map_cons, List.map_nil]); first | done | rfl | (simp only [List.length_drop, List.length_take]; rfl)) ?_; (with_reducible refine (galleyref14_Chain.calls k2 _ _ l0 (fun k_ => (((((P1_ k_ ∨ w.heap.size ≤ k_) ∧ some k_ ≠ (.slice Ao42 x5_2.length co42 : Value).ownBlock) ∧ some k_ ≠ (.slice Ao43 t1256.length co43 : Value).ownBlock) ∧ some k_ ≠ (v1262 : Value).ownBlock) ∧ some k_ ≠ (v1264 : Value).ownBlock)) _ _ l1 t1266 t1269 t1272 _ ?side1 ?side2 ?side3 A27.out).mono ?_); (case side1 => exact (Kd.C_below HR0.out HB.out)); (case side2 => exact HC0.out); (case side3 => exact HO_1.out); rintro e w45 ⟨v1267, v1270, rfl, ho0, ho1, hb⟩; refine ⟨_, rfl, ?_⟩; have n0_ := Aside0.mk (Kd.V_elder' HO_1.out (Kd.N_base (Kd.S_N ho1)) hb); have n1_ := Aside0.mk (Kd.N_elder' HO_5.out (Kd.N_base (Kd.S_N ho1)) hb); have n2_ := Aside0.mk (Kd.R_below HO1258.out hb); have n3_ := Aside0.mk (Kd.R_below HO1263.out hb); have n4_ := Aside0.mk (Kd.N_elder' HO1265.out (Kd.N_base (Kd.S_N ho1)) hb); have n5_ := Aside0.mk (Kd.V_lower (Kd.V_mono (ok' := fun k_ => (P1_ k_ ∨ w.heap.size ≤ k_) ∧ some k_ ≠ (v1270 : Value).ownBlock ∧ some k_ ≠ (.slice Ao42 x5_2.length co42 : Value).ownBlock ∧ some k_ ≠ (.slice Ao43 t1256.length co43 : Value).ownBlock ∧ some k_ ≠ (v1262 : Value).ownBlock ∧ some k_ ≠ (v1264 : Value).ownBlock) ho0 (fun k_ hk_ => ⟨Or.elim hk_.1 (fun hs_ => hs_.1.1.1.1) (fun hn_ => (.inr (Nat.le_trans (below_size HB.out) hn_))), hk_.2, Or.elim hk_.1 (fun hs_ => hs_.1.1.1.2) (fun hn_ => (Kd.fresh' (Kd.N_lt HO_5.out) k_ hn_)), Or.elim hk_.1 (fun hs_ => hs_.1.1.2) (fun hn_ => (Kd.fresh' (Kd.R_lt HO1258.out) k_ hn_)), Or.elim hk_.1 (fun hs_ => hs_.1.2) (fun hn_ => (Kd.fresh' (Kd.R_lt HO1263.out) k_ hn_)), Or.elim hk_.1 (fun hs_ => hs_.2) (fun hn_ => (Kd.fresh' (Kd.N_lt HO1265.out) k_ hn_))⟩)) (below_size HB.out)); have n6_ := Aside0.mk (Kd.N_lower (Kd.N_mono (ok' := fun k_ => (P1_ k_ ∨ w.heap.size ≤ k_) ∧ some k_ ≠ (.slice Ao42 x5_2.length co42 : Value).ownBlock ∧ some k_ ≠ (.slice Ao43 t1256.length co43 : Value).ownBlock ∧ some k_ ≠ (v1262 : Value).ownBlock ∧ some k_ ≠ (v1264 : Value).ownBlock) (Kd.S_N ho1) (fun k_ hn_ => ⟨(.inr (Nat.le_trans (below_size HB.out) hn_)), (Kd.fresh' (Kd.N_lt HO_5.out) k_ hn_), (Kd.fresh' (Kd.R_lt HO1258.out) k_ hn_), (Kd.fresh' (Kd.R_lt HO1263.out) k_ hn_), (Kd.fresh' (Kd.N_lt HO1265.out) k_ hn_)⟩)) (below_size HB.out)); have n7_ := Aside0.mk (below_step HB.out hb); clear HO_1 HO_5 HO1258 HO1263 HO1265 HB; have HO_1 := n0_; have HO_5 := n1_; have HO1258 := n2_; have HO1263 := n3_; have HO1265 := n4_; have HO1268 := n5_; have HO1271 := n6_; have HB := n7_; clear n0_ n1_ n2_ n3_ n4_ n5_ n6_ n7_; (try clear hb); (try clear hb2); (try clear hk); (try clear hi); (try clear ho0); (try clear ho1); obtain ⟨Ao46, co46, eo46⟩ := Kd.R_slice HO1263.out; subst eo46; obtain ⟨Ao47, co47, eo47⟩ := Kd.V_slice HO1268.out; subst eo47) | ((with_reducible refine gate_callee (f := 46) rfl ?_); refine goesL_ (some 52) rfl rfl Try.func46 (by kernel_rfl) rfl #[.slice Ao46 t1259.length co46, .slice Ao47 t1266.length co47] rfl (by (try simp only [List.map_toArray, List.map_cons, List.map_nil]); first | done | rfl | (simp only [List.length_drop, List.length_take]; rfl)) ?_; (with_reducible refine (galleyref14_Same.calls k2 _ _ t1259 _ _ t1266 true _ ?side1 ?side2 ?side3 ?side4 A28.out).mono ?_); (case side1 => repeat (first | exact (Kd.R_reads' HO1263.out).2.2 | (with_reducible refine Kd.C_alloc ?_ _) | (with_reducible refine Kd.C_drewN ?_ _) | (with_reducible refine Kd.C_drew ?_))); (case side2 => exact (Kd.R_reads' HO1263.out).2.1); (case side3 => repeat (first | exact (Kd.V_reads' HO1268.out).2.2 | (with_reducible refine Kd.C_alloc ?_ _) | (with_reducible refine Kd.C_drewN ?_ _) | (with_reducible refine Kd.C_drew ?_))); (case side4 => exact (Kd.V_reads' HO1268.out).2.1); rintro e w' ⟨rfl, ⟨nd, rfl⟩⟩; refine ⟨_, rfl, ?_⟩; obtain ⟨Ao48, co48, eo48⟩ := Kd.N_slice HO1265.out; subst eo48; obtain ⟨Ao49, co49, eo49⟩ := Kd.N_slice HO1271.out; subst eo49) | (go_at_call 62; (with_reducible refine (galleyref14_SameAll.calls k2 _ _ t1260 _ _ t1269 false _ ?side1 ?side2 ?side3 ?side4 A30.out).mono ?_); (case side1 => repeat (first | exact (Kd.N_reads' HO1265.out).2.2 | (with_reducible refine Kd.C_alloc ?_ _) | (with_reducible refine Kd.C_drewN ?_ _) | (with_reducible refine Kd.C_drew ?_))); (case side2 => exact (Kd.N_reads' HO1265.out).2.1); (case side3 => repeat (first | exact (Kd.N_reads' HO1271.out).2.2 | (with_reducible refine Kd.C_alloc ?_ _) | (with_reducible refine Kd.C_drewN ?_ _) | (with_reducible refine Kd.C_drew ?_))); (case side4 => exact (Kd.N_reads' HO1271.out).2.1); rintro e w' ⟨rfl, ⟨nd, rfl⟩⟩))
          go_ret
          exact ⟨by first | rfl | (simp [errW_none, errW_some] <;> rfl) | (simp [*, errW_none, errW_some] <;> rfl), by repeat (first | (with_reducible first | exact HB.out | apply below_alloc | apply pw_below_drewN | apply below_drew1) | exact HB.out)⟩
        ·
         replace c29 := Bool.eq_false_iff.mpr c29
         subst c29
         rw [if_neg (show ¬ (false = true) by decide)] at H
         obtain rfl := Option.some.inj H
         go_wp2_with (first | ((with_reducible refine gate_callee (f := 52) rfl ?_); refine goesL_ (some 38) rfl rfl Try.func52 (by kernel_rfl) rfl #[.slice A1 l1.length c1] rfl (by (try simp only [List.map_toArray, List.map_cons, List.map_nil]); first | done | rfl | (simp only [List.length_drop, List.length_take]; rfl)) ?_; (with_reducible refine (galleylaw14_copied.calls _ _ l1 t1256 _ ?side1 ?side2 A25.out).mono ?_); (case side1 => repeat (first | exact (Kd.V_reads' HO_1.out).2.2 | (with_reducible refine Kd.C_alloc ?_ _) | (with_reducible refine Kd.C_drewN ?_ _) | (with_reducible refine Kd.C_drew ?_))); (case side2 => exact (Kd.V_reads' HO_1.out).2.1); rintro e w50 ⟨v1257, rfl, ho0, hb⟩; refine ⟨_, rfl, ?_⟩; have n0_ := Aside0.mk (Kd.V_elder' HO_1.out (Kd.R_base ho0) hb); have n1_ := Aside0.mk (Kd.N_elder' HO_5.out (Kd.R_base ho0) hb); have n2_ := Aside0.mk (Kd.R_lower (Kd.R_newM (M := fun k_ => (w.heap.size ≤ k_)) ho0 (below_size HB.out) (fun k_ h_ => h_)) (below_size HB.out)); have n3_ := Aside0.mk (below_step HB.out hb); clear HO_1 HO_5 HB; have HO_1 := n0_; have HO_5 := n1_; have HO1258 := n2_; have HB := n3_; clear n0_ n1_ n2_ n3_; (try clear hb); (try clear hb2); (try clear hk); (try clear hi); (try clear ho0); obtain ⟨Ao51, co51, eo51⟩ := Kd.N_slice HO_5.out; subst eo51; obtain ⟨Ao52, co52, eo52⟩ := Kd.R_slice HO1258.out; subst eo52) | ((with_reducible refine gate_callee (f := 49) rfl ?_); refine goesL_ (some 39) rfl rfl Try.func49 (by kernel_rfl) rfl #[.slice Ao51 x5_2.length co51, .slice Ao52 t1256.length co52] rfl (by (try simp only [List.map_toArray, List.map_cons, List.map_nil]); first | done | rfl | (simp only [List.length_drop, List.length_take]; rfl)) ?_; (with_reducible refine (shift_Chain.calls k2 _ _ x5_2 _ _ t1256 t1259 t1260 t1261 _ ?side1 ?side2 ?side3 ?side4 A26.out).mono ?_); (case side1 => repeat (first | exact (Kd.N_reads' HO_5.out).2.2 | (with_reducible refine Kd.C_alloc ?_ _) | (with_reducible refine Kd.C_drewN ?_ _) | (with_reducible refine Kd.C_drew ?_))); (case side2 => exact (Kd.N_reads' HO_5.out).2.1); (case side3 => repeat (first | exact (Kd.R_reads' HO1258.out).2.2 | (with_reducible refine Kd.C_alloc ?_ _) | (with_reducible refine Kd.C_drewN ?_ _) | (with_reducible refine Kd.C_drew ?_))); (case side4 => exact (Kd.R_reads' HO1258.out).2.1); rintro e w53 ⟨v1262, v1264, rfl, ho0, ho1, hb⟩; refine ⟨_, rfl, ?_⟩; have n0_ := Aside0.mk (Kd.V_mono (Kd.V_told (Kd.V_told (Kd.V_old HO_1.out hb) (Kd.R_base ho0)) (Kd.N_base (Kd.S_N ho1))) (fun _ h_ => h_.1)); have n1_ := Aside0.mk (Kd.N_mono (Kd.N_told (Kd.N_told (Kd.N_old HO_5.out hb) (Kd.R_base ho0)) (Kd.N_base (Kd.S_N ho1))) (fun _ h_ => h_.1)); have n2_ := Aside0.mk (Kd.R_elder' HO1258.out (Kd.R_base ho0) hb); have n3_ := Aside0.mk (Kd.R_lower (Kd.R_new' (Kd.R_newM (M := fun k_ => (w.heap.size ≤ k_)) ho0 (below_size HB.out) (fun k_ h_ => h_)) (Kd.R_lt HO1258.out)) (below_size HB.out)); have n4_ := Aside0.mk (Kd.N_lower (Kd.N_mono (ok' := fun k_ => (P1_ k_ ∨ w.heap.size ≤ k_) ∧ some k_ ≠ (v1262 : Value).ownBlock ∧ some k_ ≠ (.slice Ao51 x5_2.length co51 : Value).ownBlock ∧ some k_ ≠ (.slice Ao52 t1256.length co52 : Value).ownBlock) (Kd.S_N (Kd.S_bound ho1)) (fun k_ hk_ => ⟨(.inr (Nat.le_trans (below_size HB.out) hk_.2.1)), hk_.1, (Kd.fresh' (Kd.N_lt HO_5.out) k_ hk_.2.1), (Kd.fresh' (Kd.R_lt HO1258.out) k_ hk_.2.1)⟩)) (below_size HB.out)); have n5_ := Aside0.mk (below_step HB.out hb); clear HO_1 HO_5 HO1258 HB; have HO_1 := n0_; have HO_5 := n1_; have HO1258 := n2_; have HO1263 := n3_; have HO1265 := n4_; have HB := n5_; clear n0_ n1_ n2_ n3_ n4_ n5_; (try clear hb); (try clear hb2); (try clear hk); (try clear hi); (try clear ho0); (try clear ho1)) | ((with_reducible refine gate_callee (f := 63) rfl ?_); refine goesL_ (some 46) rfl rfl Try.func63 (by kernel_rfl) rfl #[.slice A0 l0.length c0, .slice A1 l1.length c1] rfl (by (try simp only [List.map_toArray, List.map_cons, List.map_nil]); first | done | rfl | (simp only [List.length_drop, List.length_take]; rfl)) ?_; (with_reducible refine (galleyref14_Chain.calls k2 _ _ l0 (fun k_ => (((((P1_ k_ ∨ w.heap.size ≤ k_) ∧ some k_ ≠ (.slice Ao51 x5_2.length co51 : Value).ownBlock) ∧ some k_ ≠ (.slice Ao52 t1256.length co52 : Value).ownBlock) ∧ some k_ ≠ (v1262 : Value).ownBlock) ∧ some k_ ≠ (v1264 : Value).ownBlock)) _ _ l1 t1266 t1269 t1272 _ ?side1 ?side2 ?side3 A27.out).mono ?_); (case side1 => exact (Kd.C_below HR0.out HB.out)); (case side2 => exact HC0.out); (case side3 => exact HO_1.out); rintro e w54 ⟨v1267, v1270, rfl, ho0, ho1, hb⟩; refine ⟨_, rfl, ?_⟩; have n0_ := Aside0.mk (Kd.V_elder' HO_1.out (Kd.N_base (Kd.S_N ho1)) hb); have n1_ := Aside0.mk (Kd.N_elder' HO_5.out (Kd.N_base (Kd.S_N ho1)) hb); have n2_ := Aside0.mk (Kd.R_below HO1258.out hb); have n3_ := Aside0.mk (Kd.R_below HO1263.out hb); have n4_ := Aside0.mk (Kd.N_elder' HO1265.out (Kd.N_base (Kd.S_N ho1)) hb); have n5_ := Aside0.mk (Kd.V_lower (Kd.V_mono (ok' := fun k_ => (P1_ k_ ∨ w.heap.size ≤ k_) ∧ some k_ ≠ (v1270 : Value).ownBlock ∧ some k_ ≠ (.slice Ao51 x5_2.length co51 : Value).ownBlock ∧ some k_ ≠ (.slice Ao52 t1256.length co52 : Value).ownBlock ∧ some k_ ≠ (v1262 : Value).ownBlock ∧ some k_ ≠ (v1264 : Value).ownBlock) ho0 (fun k_ hk_ => ⟨Or.elim hk_.1 (fun hs_ => hs_.1.1.1.1) (fun hn_ => (.inr (Nat.le_trans (below_size HB.out) hn_))), hk_.2, Or.elim hk_.1 (fun hs_ => hs_.1.1.1.2) (fun hn_ => (Kd.fresh' (Kd.N_lt HO_5.out) k_ hn_)), Or.elim hk_.1 (fun hs_ => hs_.1.1.2) (fun hn_ => (Kd.fresh' (Kd.R_lt HO1258.out) k_ hn_)), Or.elim hk_.1 (fun hs_ => hs_.1.2) (fun hn_ => (Kd.fresh' (Kd.R_lt HO1263.out) k_ hn_)), Or.elim hk_.1 (fun hs_ => hs_.2) (fun hn_ => (Kd.fresh' (Kd.N_lt HO1265.out) k_ hn_))⟩)) (below_size HB.out)); have n6_ := Aside0.mk (Kd.N_lower (Kd.N_mono (ok' := fun k_ => (P1_ k_ ∨ w.heap.size ≤ k_) ∧ some k_ ≠ (.slice Ao51 x5_2.length co51 : Value).ownBlock ∧ some k_ ≠ (.slice Ao52 t1256.length co52 : Value).ownBlock ∧ some k_ ≠ (v1262 : Value).ownBlock ∧ some k_ ≠ (v1264 : Value).ownBlock) (Kd.S_N ho1) (fun k_ hn_ => ⟨(.inr (Nat.le_trans (below_size HB.out) hn_)), (Kd.fresh' (Kd.N_lt HO_5.out) k_ hn_), (Kd.fresh' (Kd.R_lt HO1258.out) k_ hn_), (Kd.fresh' (Kd.R_lt HO1263.out) k_ hn_), (Kd.fresh' (Kd.N_lt HO1265.out) k_ hn_)⟩)) (below_size HB.out)); have n7_ := Aside0.mk (below_step HB.out hb); clear HO_1 HO_5 HO1258 HO1263 HO1265 HB; have HO_1 := n0_; have HO_5 := n1_; have HO1258 := n2_; have HO1263 := n3_; have HO1265 := n4_; have HO1268 := n5_; have HO1271 := n6_; have HB := n7_; clear n0_ n1_ n2_ n3_ n4_ n5_ n6_ n7_; (try clear hb); (try clear hb2); (try clear hk); (try clear hi); (try clear ho0); (try clear ho1); obtain ⟨Ao55, co55, eo55⟩ := Kd.R_slice HO1263.out; subst eo55; obtain ⟨Ao56, co56, eo56⟩ := Kd.V_slice HO1268.out; subst eo56) | ((with_reducible refine gate_callee (f := 46) rfl ?_); refine goesL_ (some 52) rfl rfl Try.func46 (by kernel_rfl) rfl #[.slice Ao55 t1259.length co55, .slice Ao56 t1266.length co56] rfl (by (try simp only [List.map_toArray, List.map_cons, List.map_nil]); first | done | rfl | (simp only [List.length_drop, List.length_take]; rfl)) ?_; (with_reducible refine (galleyref14_Same.calls k2 _ _ t1259 _ _ t1266 false _ ?side1 ?side2 ?side3 ?side4 A28.out).mono ?_); (case side1 => repeat (first | exact (Kd.R_reads' HO1263.out).2.2 | (with_reducible refine Kd.C_alloc ?_ _) | (with_reducible refine Kd.C_drewN ?_ _) | (with_reducible refine Kd.C_drew ?_))); (case side2 => exact (Kd.R_reads' HO1263.out).2.1); (case side3 => repeat (first | exact (Kd.V_reads' HO1268.out).2.2 | (with_reducible refine Kd.C_alloc ?_ _) | (with_reducible refine Kd.C_drewN ?_ _) | (with_reducible refine Kd.C_drew ?_))); (case side4 => exact (Kd.V_reads' HO1268.out).2.1); rintro e w' ⟨rfl, ⟨nd, rfl⟩⟩; refine ⟨_, rfl, ?_⟩))
         go_ret
         exact ⟨by first | rfl | (simp [errW_none, errW_some] <;> rfl) | (simp [*, errW_none, errW_some] <;> rfl), by repeat (first | (with_reducible first | exact HB.out | apply below_alloc | apply pw_below_drewN | apply below_drew1) | exact HB.out)⟩
 ·
  replace c4 := Bool.eq_false_iff.mpr c4
  subst c4
  rw [if_neg (show ¬ (false = true) by decide)] at H
  obtain rfl := Option.some.inj H
  go_enter Try.func19, Try.ntmps19
  go_wp2_with (first | ((with_reducible refine gate_callee (f := 44) rfl ?_); refine goesL_ (some 14) rfl rfl Try.func44 (by kernel_rfl) rfl #[] rfl (by (try simp only [List.map_toArray, List.map_cons, List.map_nil]); first | done | rfl | (simp only [List.length_drop, List.length_take]; rfl)) ?_; (with_reducible refine (galleylaw14_fixed.calls k  false _ A3.out).mono ?_); rintro e w57 ⟨rfl, hb⟩; refine ⟨_, rfl, ?_⟩; have n0_ := Aside0.mk (Kd.V_below HO1.out hb); have n1_ := Aside0.mk (below_step HB.out hb); clear HO1 HB; have HO1 := n0_; have HB := n1_; clear n0_ n1_; (try clear hb); (try clear hb2); (try clear hk); (try clear hi)))
  go_ret
  exact ⟨by first | rfl | (simp [errW_none, errW_some] <;> rfl) | (simp [*, errW_none, errW_some] <;> rfl), by repeat (first | (with_reducible first | exact HB.out | apply below_alloc | apply pw_below_drewN | apply below_drew1) | exact HB.out)⟩
end Go.Proofs.Ytidihnnkcmeaeaa.A
