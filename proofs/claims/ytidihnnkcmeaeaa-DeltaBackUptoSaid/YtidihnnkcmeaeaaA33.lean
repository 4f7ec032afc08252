-- Written by a program over the translation (the kit's print, turned so that some functions are taken by contracts of this claim's own).
import Derived.Test.YtidihnnkcmeaeaaA0
import Derived.Test.YtidihnnkcmeaeaaB
import Derived.Test.YtidihnnkcmeaeaaA8
import Derived.Test.YtidihnnkcmeaeaaA9
import Derived.Test.YtidihnnkcmeaeaaA11
import Derived.Test.YtidihnnkcmeaeaaA16
import Derived.Test.YtidihnnkcmeaeaaA27
import Derived.Test.YtidihnnkcmeaeaaA28
import Derived.Test.YtidihnnkcmeaeaaECompose
import Derived.Test.YtidihnnkcmeaeaaEAwake
import Derived.Test.YtidihnnkcmeaeaaEInvert
import Derived.Test.YtidihnnkcmeaeaaEApply
namespace Go.Proofs.Ytidihnnkcmeaeaa.A
open Go.RowKit Go.Proofs.YtidihnnkcmeaeaaW.PrintWords Go.Proofs.YtidihnnkcmeaeaaW.PrintLast Go.Proofs.YtidihnnkcmeaeaaW.PrintMore
attribute [local go_sem] max2_int min2_int max_two min_two max_three min_three max_four min_four   -- for this text's walks alone
set_option linter.unusedVariables false
set_option linter.unusedSimpArgs false

/-! ### galleylaw13_DeltaBack: function 12 -/
mutual
def galleylaw13_DeltaBack.j0 : Nat → List Int → List (S70) → List (S70) → Bool → Option (Bool)
 | 0, _, _, _, _ => none
 | k + 1, x0, x5, x8, x89 => if x89 = true then (some false) else ((galleylaw13_own.f x5).bind fun t882 => ((galleylaw13_own.f x8).bind fun t885 => ((delta_Compose.f t882 t885).bind fun bt888 => (galleylaw13_DeltaBack.l0 k x0 bt888.1 bt888.2 ([] : List (S70)) 0 x5 (x5.length : Int) 0))))
def galleylaw13_DeltaBack.l0 : Nat → List Int → List (S70) → Int → List (S70) → Int → List (S70) → Int → Int → Option (Bool)
 | 0, _, _, _, _, _, _, _, _ => none
 | k + 1, x0, x14, x15, x16, x17, x98, x99, x100 => if x100 < x99 then (if 0 ≤ x100 then (if x100 < (x98.length : Int) then (if ((rd_T70 x98 x100).f0) = 1 then (if x16.length < 4398046511104 then (galleylaw13_DeltaBack.l0 k x0 x14 x15 (x16 ++ [(⟨(rd_T70 x98 x100).f0, (rd_T70 x98 x100).f1, (rd_T70 x98 x100).f2⟩ : S70)]) (wrap64 (x17 + ((rd_T70 x98 x100).f1))) x98 x99 (wrap64 (x100 + 1))) else (none)) else (if ((rd_T70 x98 x100).f0) = 3 then (if 0 ≤ x17 then (if x17 ≤ (wrap64 (x17 + ((rd_T70 x98 x100).f1))) then (if (wrap64 (x17 + ((rd_T70 x98 x100).f1))) ≤ (x0.length : Int) then ((some (([(⟨2, 0, strOfNums ((x0.take ((wrap64 (x17 + ((rd_T70 x98 x100).f1))) : Int).toNat).drop (x17 : Int).toNat)⟩ : S70), (⟨(rd_T70 x98 x100).f0, (rd_T70 x98 x100).f1, (rd_T70 x98 x100).f2⟩ : S70)] : List (S70)) : List (S70))).bind fun y903 => (if x16.length + y903.length < 4398046511104 then (galleylaw13_DeltaBack.l0 k x0 x14 x15 (x16 ++ y903) (wrap64 (x17 + ((rd_T70 x98 x100).f1))) x98 x99 (wrap64 (x100 + 1))) else (none))) else (none)) else (none)) else (none)) else (galleylaw13_DeltaBack.l0 k x0 x14 x15 x16 x17 x98 x99 (wrap64 (x100 + 1))))) else (none)) else (none)) else ((galleyref13_Canon.f k x16).bind fun bt892 => (if x15 = 0 then ((galleylaw13_same.f k x14 bt892.1).bind fun t896 => (some t896)) else (some false)))
end
def galleylaw13_DeltaBack.f (k : Nat) (l0 : List Int) (l1 : List (S70)) : Option (Bool) := (galleylaw13_awake.f).bind fun t833 => (if t833 = true then ((galleylaw13_short.f k l0 (([l1] : List (List (S70))))).bind fun t837 => (if t837 = true then ((galleylaw13_fit.f k l1 (l0.length : Int)).bind fun t838 => ((galleylaw13_bytes.f l0).bind fun t841 => ((galleylaw13_own.f t838).bind fun t844 => ((delta_Apply.f t841 t844).bind fun bt847 => ((galleylaw13_bytes.f l0).bind fun t851 => ((galleylaw13_own.f t838).bind fun t854 => ((delta_Invert.f t851 t854).bind fun bt857 => ((galleylaw13_bytes.f bt847.1).bind fun t861 => ((galleylaw13_own.f bt857.1).bind fun t864 => ((delta_Apply.f t861 t864).bind fun bt867 => ((galleylaw13_bytes.f bt847.1).bind fun t871 => ((galleylaw13_own.f bt857.1).bind fun t874 => ((delta_Invert.f t871 t874).bind fun bt877 => (if bt847.2 = 0 then (if bt857.2 = 0 then (if bt867.2 = 0 then (if bt877.2 = 0 then (if (strOfNums bt867.1).toList = (strOfNums l0).toList then ((galleylaw13_same.f k bt877.1 t838).bind fun t881 => (galleylaw13_DeltaBack.j0 k l0 t838 bt857.1 (!t881))) else (galleylaw13_DeltaBack.j0 k l0 t838 bt857.1 true)) else (galleylaw13_DeltaBack.j0 k l0 t838 bt857.1 true)) else (galleylaw13_DeltaBack.j0 k l0 t838 bt857.1 true)) else (galleylaw13_DeltaBack.j0 k l0 t838 bt857.1 true)) else (galleylaw13_DeltaBack.j0 k l0 t838 bt857.1 true))))))))))))))) else (some true))) else (some false))
def galleylaw13_DeltaBack.T23 : Bool × List (List Nat × List Nat) := (true, [([], []), ([], []), ([], []), ([], []), ([], []), ([4], [4]), ([3, 5], [3, 5]), ([1, 2, 6], [1, 2, 6]), ([7], [7]), ([8], [8]), ([], []), ([9, 10], [9, 10]), ([0, 11], [0, 11]), ([12, 12, 0, 1, 2, 3, 4, 5, 6, 7, 8, 9, 10, 11, 12], [0, 12])])
def galleylaw13_DeltaBack.B23 : List Nat := [0, 0, 0, 0, 0, 16, 56, 126, 254, 510, 0, 2046, 4095, 8191]
theorem galleylaw13_DeltaBack.tab23 : rtab .any (opsOf Try.f12 23) = galleylaw13_DeltaBack.T23 := by kernel_rfl
theorem galleylaw13_DeltaBack.bits23 : waitsOk galleylaw13_DeltaBack.T23.2 galleylaw13_DeltaBack.B23 = true := by kernel_rfl
set_option maxHeartbeats 8000000 in
set_option maxRecDepth 100000 in
theorem galleylaw13_DeltaBack.calls (k : Nat) (A0 : Option Addr) (c0 : Nat) (l0 : List Int) (P1_ : Nat → Prop) (A1 : Option Addr) (c1 : Nat) (l1 : List (S70)) (r : Bool) (w : World) (hr0 : Kd.C (Kd.int .u8) w A0 l0.length l0) (hc0 : l0.length ≤ c0) (hs1 : Kd.V k70 70 w w.heap.size (fun k_ => P1_ k_) (.slice A1 l1.length c1) l1) (h : galleylaw13_DeltaBack.f k l0 l1 = some r) :
  Calls Try.prog 12 #[.slice A0 l0.length c0, .slice A1 l1.length c1] w fun e w' => e = .returned (.bool r) ∧ Below w.heap.size w w' := by
 have hu70 := Try.underlying70
 have HR0 := Aside0.mk hr0
 have HC0 := Aside0.mk hc0
 clear hr0 hc0
 have HO1 := Aside0.mk (show Kd.V k70 70 w w.heap.size (fun k_ => (P1_ k_ ∨ w.heap.size ≤ k_)) (.slice A1 l1.length c1) l1 from Kd.V_mono hs1 (fun k_ hk => .inl hk))
 have HB := Aside0.mk (Below.refl w.heap.size w)
 have H : ((galleylaw13_awake.f).bind fun t833 => (if t833 = true then ((galleylaw13_short.f k l0 (([l1] : List (List (S70))))).bind fun t837 => (if t837 = true then ((galleylaw13_fit.f k l1 (l0.length : Int)).bind fun t838 => ((galleylaw13_bytes.f l0).bind fun t841 => ((galleylaw13_own.f t838).bind fun t844 => ((delta_Apply.f t841 t844).bind fun bt847 => ((galleylaw13_bytes.f l0).bind fun t851 => ((galleylaw13_own.f t838).bind fun t854 => ((delta_Invert.f t851 t854).bind fun bt857 => ((galleylaw13_bytes.f bt847.1).bind fun t861 => ((galleylaw13_own.f bt857.1).bind fun t864 => ((delta_Apply.f t861 t864).bind fun bt867 => ((galleylaw13_bytes.f bt847.1).bind fun t871 => ((galleylaw13_own.f bt857.1).bind fun t874 => ((delta_Invert.f t871 t874).bind fun bt877 => (if bt847.2 = 0 then (if bt857.2 = 0 then (if bt867.2 = 0 then (if bt877.2 = 0 then (if (strOfNums bt867.1).toList = (strOfNums l0).toList then ((galleylaw13_same.f k bt877.1 t838).bind fun t881 => (galleylaw13_DeltaBack.j0 k l0 t838 bt857.1 (!t881))) else (galleylaw13_DeltaBack.j0 k l0 t838 bt857.1 true)) else (galleylaw13_DeltaBack.j0 k l0 t838 bt857.1 true)) else (galleylaw13_DeltaBack.j0 k l0 t838 bt857.1 true)) else (galleylaw13_DeltaBack.j0 k l0 t838 bt857.1 true)) else (galleylaw13_DeltaBack.j0 k l0 t838 bt857.1 true))))))))))))))) else (some true))) else (some false))) = some r := h
 clear h
 replace H := Option.bind_eq_some_iff.mp H
 obtain ⟨t833, A30, H⟩ := H
 try dsimp only at H
 have A3 := Aside0.mk A30
 clear A30
 by_cases c4 : t833 = true
 ·
  subst c4
  rw [if_pos rfl] at H
  obtain ⟨y834, hy834⟩ : ∃ y_ : List (List (S70)), y_ = (([l1] : List (List (S70)))) := ⟨_, rfl⟩
  replace H : ((galleylaw13_short.f k l0 y834).bind fun t837 => (if t837 = true then ((galleylaw13_fit.f k l1 (l0.length : Int)).bind fun t838 => ((galleylaw13_bytes.f l0).bind fun t841 => ((galleylaw13_own.f t838).bind fun t844 => ((delta_Apply.f t841 t844).bind fun bt847 => ((galleylaw13_bytes.f l0).bind fun t851 => ((galleylaw13_own.f t838).bind fun t854 => ((delta_Invert.f t851 t854).bind fun bt857 => ((galleylaw13_bytes.f bt847.1).bind fun t861 => ((galleylaw13_own.f bt857.1).bind fun t864 => ((delta_Apply.f t861 t864).bind fun bt867 => ((galleylaw13_bytes.f bt847.1).bind fun t871 => ((galleylaw13_own.f bt857.1).bind fun t874 => ((delta_Invert.f t871 t874).bind fun bt877 => (if bt847.2 = 0 then (if bt857.2 = 0 then (if bt867.2 = 0 then (if bt877.2 = 0 then (if (strOfNums bt867.1).toList = (strOfNums l0).toList then ((galleylaw13_same.f k bt877.1 t838).bind fun t881 => (galleylaw13_DeltaBack.j0 k l0 t838 bt857.1 (!t881))) else (galleylaw13_DeltaBack.j0 k l0 t838 bt857.1 true)) else (galleylaw13_DeltaBack.j0 k l0 t838 bt857.1 true)) else (galleylaw13_DeltaBack.j0 k l0 t838 bt857.1 true)) else (galleylaw13_DeltaBack.j0 k l0 t838 bt857.1 true)) else (galleylaw13_DeltaBack.j0 k l0 t838 bt857.1 true))))))))))))))) else (some true))) = some r := by first | (rw [hy834]; with_reducible exact H) | (have H2_ := (Option.bind_some _ _).symm.trans H; rw [hy834]; with_reducible exact H2_) | (have H2_ := (Option.bind_some _ _).symm.trans H; with_reducible exact H2_) | with_reducible exact H | (rw [hy834]; exact H) | exact H
  have Ny834 := Aside0.mk hy834
  clear hy834
  replace H := Option.bind_eq_some_iff.mp H
  obtain ⟨t837, A50, H⟩ := H
  try dsimp only at H
  have A5 := Aside0.mk A50
  clear A50
  by_cases c6 : t837 = true
  ·
   subst c6
   rw [if_pos rfl] at H
   replace H := Option.bind_eq_some_iff.mp H
   obtain ⟨t838, A70, H⟩ := H
   try dsimp only at H
   have A7 := Aside0.mk A70
   clear A70
   replace H := Option.bind_eq_some_iff.mp H
   obtain ⟨t841, A80, H⟩ := H
   try dsimp only at H
   have A8 := Aside0.mk A80
   clear A80
   replace H := Option.bind_eq_some_iff.mp H
   obtain ⟨t844, A90, H⟩ := H
   try dsimp only at H
   have A9 := Aside0.mk A90
   clear A90
   replace H := Option.bind_eq_some_iff.mp H
   obtain ⟨⟨t847, t848⟩, A100, H⟩ := H
   try dsimp only at H
   have A10 := Aside0.mk A100
   clear A100
   replace H := Option.bind_eq_some_iff.mp H
   obtain ⟨t851, A110, H⟩ := H
   try dsimp only at H
   have A11 := Aside0.mk A110
   clear A110
   replace H := Option.bind_eq_some_iff.mp H
   obtain ⟨t854, A120, H⟩ := H
   try dsimp only at H
   have A12 := Aside0.mk A120
   clear A120
   replace H := Option.bind_eq_some_iff.mp H
   obtain ⟨⟨t857, t858⟩, A130, H⟩ := H
   try dsimp only at H
   have A13 := Aside0.mk A130
   clear A130
   replace H := Option.bind_eq_some_iff.mp H
   obtain ⟨t861, A140, H⟩ := H
   try dsimp only at H
   have A14 := Aside0.mk A140
   clear A140
   replace H := Option.bind_eq_some_iff.mp H
   obtain ⟨t864, A150, H⟩ := H
   try dsimp only at H
   have A15 := Aside0.mk A150
   clear A150
   replace H := Option.bind_eq_some_iff.mp H
   obtain ⟨⟨t867, t868⟩, A160, H⟩ := H
   try dsimp only at H
   have A16 := Aside0.mk A160
   clear A160
   replace H := Option.bind_eq_some_iff.mp H
   obtain ⟨t871, A170, H⟩ := H
   try dsimp only at H
   have A17 := Aside0.mk A170
   clear A170
   replace H := Option.bind_eq_some_iff.mp H
   obtain ⟨t874, A180, H⟩ := H
   try dsimp only at H
   have A18 := Aside0.mk A180
   clear A180
   replace H := Option.bind_eq_some_iff.mp H
   obtain ⟨⟨t877, t878⟩, A190, H⟩ := H
   try dsimp only at H
   have A19 := Aside0.mk A190
   clear A190
   have HC20 := Aside0.mk H
   clear H
   go_enter Try.func12, Try.ntmps12
   go_upto_region 10 with (first | ((with_reducible refine gate_callee (f := 23) rfl ?_); refine goesL_ (some 20) rfl rfl Try.func23 (by kernel_rfl) rfl #[] rfl (by (try simp only [List.map_toArray, List.map_cons, List.map_nil]); first | done | rfl | (simp only [List.length_drop, List.length_take]; rfl)) ?_; (with_reducible refine (galleylaw13_awake.calls  true _ A3.out).mono ?_); rintro e w21 ⟨rfl, hb⟩; refine ⟨_, rfl, ?_⟩; have n0_ := Aside0.mk (Kd.V_below HO1.out hb); have n1_ := Aside0.mk (below_step HB.out hb); clear HO1 HB; have HO1 := n0_; have HB := n1_; clear n0_ n1_; (try clear hb); (try clear hb2); (try clear hk); (try clear hi)) | ((with_reducible refine gate_dst (N := 24) rfl ?_); refine Kd.N_lit (Kd.slice 70 k70) _ 25 ?hg (N' := 24) ?hd (xs := ([l1] : List (List (S70)))) (inner := [.slice A1 l1.length c1]) (ok := (fun k_ => (P1_ k_ ∨ w.heap.size ≤ k_))) (okp := (fun k_ => (P1_ k_ ∨ w.heap.size ≤ k_))) ?hr ?hp (fun _ hk => hk) ((show ∀ k_, w21.heap.size ≤ k_ → (fun k_ => (P1_ k_ ∨ w.heap.size ≤ k_)) k_ from fun k_ hk => (.inr (Nat.le_trans (below_size HB.out) hk))) _ (Nat.le_refl _)) (Below.refl _ _) (Nat.le_refl _) (by simp) ?_; (case hd => rfl); (case hg => rfl); (case hr => first | (go_simp; done) | (go_simp; rfl)); (case hp => exact (Reps.one (show Kd.FK (Kd.slice 70 k70) _ _ l1 [.slice A1 l1.length c1] from (Kd.FK_slice_mk (Kd.V_reads' (Kd.V_mono (ok' := (fun k_ => (P1_ k_ ∨ w.heap.size ≤ k_))) (HO1.out) (fun k_ hk => hk))).2.1 (Kd.V_F (Kd.V_mono (ok' := (fun k_ => (P1_ k_ ∨ w.heap.size ≤ k_))) (HO1.out) (fun k_ hk => hk))))) (Reps.none _ _))); intro v835 w22 ho23 hb hg_ hnew_; clear hg_ hnew_; (first | rw [← Ny834.out] at ho23 | (simp only [Int.reduceToNat] at ho23; rw [← Ny834.out] at ho23)); have n0_ := Aside0.mk (Kd.V_elder' HO1.out (Kd.N_base ho23) hb); have n1_ := Aside0.mk (Kd.N_lower ho23 (below_size HB.out)); have n2_ := Aside0.mk (below_step HB.out hb); clear HO1 HB; have HO1 := n0_; have HO836 := n1_; have HB := n2_; clear n0_ n1_ n2_; clear hb ho23; obtain ⟨Ao24, co24, eo24⟩ := Kd.N_slice HO836.out; subst eo24) | ((with_reducible refine gate_callee (f := 47) rfl ?_); refine goesL_ (some 25) rfl rfl Try.func47 (by kernel_rfl) rfl #[.slice A0 l0.length c0, .slice Ao24 y834.length co24] rfl (by (try simp only [List.map_toArray, List.map_cons, List.map_nil]); first | done | rfl | (simp only [List.length_drop, List.length_take]; rfl)) ?_; (with_reducible refine (galleylaw13_short.calls k _ _ l0 _ _ y834 true _ ?side1 ?side2 ?side3 ?side4 A5.out).mono ?_); (case side1 => exact (Kd.C_below HR0.out HB.out)); (case side2 => exact HC0.out); (case side3 => repeat (first | exact (Kd.N_reads' HO836.out).2.2 | (with_reducible refine Kd.C_alloc ?_ _) | (with_reducible refine Kd.C_drewN ?_ _) | (with_reducible refine Kd.C_drew ?_))); (case side4 => exact (Kd.N_reads' HO836.out).2.1); rintro e w25 ⟨rfl, hb⟩; refine ⟨_, rfl, ?_⟩; have n0_ := Aside0.mk (Kd.V_below HO1.out hb); have n1_ := Aside0.mk (Kd.N_below HO836.out hb); have n2_ := Aside0.mk (below_step HB.out hb); clear HO1 HO836 HB; have HO1 := n0_; have HO836 := n1_; have HB := n2_; clear n0_ n1_ n2_; (try clear hb); (try clear hb2); (try clear hk); (try clear hi)) | ((with_reducible refine gate_callee (f := 48) rfl ?_); refine goesL_ (some 30) rfl rfl Try.func48 (by kernel_rfl) rfl #[.slice A1 l1.length c1, .int .i64 (l0.length : Int)] rfl (by (try simp only [List.map_toArray, List.map_cons, List.map_nil]); first | done | rfl | (simp only [List.length_drop, List.length_take]; rfl)) ?_; (with_reducible refine (galleylaw13_fit.calls k _ _ l1 (l0.length : Int) t838 _ ?side1 ?side2 A7.out).mono ?_); (case side1 => repeat (first | exact (Kd.V_reads' HO1.out).2.2 | (with_reducible refine Kd.C_alloc ?_ _) | (with_reducible refine Kd.C_drewN ?_ _) | (with_reducible refine Kd.C_drew ?_))); (case side2 => exact (Kd.V_reads' HO1.out).2.1); rintro e w26 ⟨v839, rfl, ho0, hb⟩; refine ⟨_, rfl, ?_⟩; have n0_ := Aside0.mk (Kd.V_elder' HO1.out (Kd.R_base ho0) hb); have n1_ := Aside0.mk (Kd.N_elder' HO836.out (Kd.R_base ho0) hb); have n2_ := Aside0.mk (Kd.R_lower (Kd.R_newM (M := fun k_ => (w.heap.size ≤ k_)) ho0 (below_size HB.out) (fun k_ h_ => h_)) (below_size HB.out)); have n3_ := Aside0.mk (below_step HB.out hb); clear HO1 HO836 HB; have HO1 := n0_; have HO836 := n1_; have HO840 := n2_; have HB := n3_; clear n0_ n1_ n2_ n3_; (try clear hb); (try clear hb2); (try clear hk); (try clear hi); (try clear ho0)) | ((with_reducible refine gate_callee (f := 25) rfl ?_); refine goesL_ (some 33) rfl rfl Try.func25 (by kernel_rfl) rfl #[.slice A0 l0.length c0] rfl (by (try simp only [List.map_toArray, List.map_cons, List.map_nil]); first | done | rfl | (simp only [List.length_drop, List.length_take]; rfl)) ?_; (with_reducible refine (galleylaw13_bytes.calls _ _ l0 t841 _ ?side1 ?side2 A8.out).mono ?_); (case side1 => exact (Kd.C_below HR0.out HB.out)); (case side2 => exact HC0.out); rintro e w27 ⟨v842, rfl, ho0, hb⟩; refine ⟨_, rfl, ?_⟩; have n0_ := Aside0.mk (Kd.V_elder' HO1.out (Kd.R_base ho0) hb); have n1_ := Aside0.mk (Kd.N_elder' HO836.out (Kd.R_base ho0) hb); have n2_ := Aside0.mk (Kd.R_below HO840.out hb); have n3_ := Aside0.mk (Kd.R_lower (Kd.R_newM (M := fun k_ => (w.heap.size ≤ k_)) ho0 (below_size HB.out) (fun k_ h_ => h_)) (below_size HB.out)); have n4_ := Aside0.mk (below_step HB.out hb); clear HO1 HO836 HO840 HB; have HO1 := n0_; have HO836 := n1_; have HO840 := n2_; have HO843 := n3_; have HB := n4_; clear n0_ n1_ n2_ n3_ n4_; (try clear hb); (try clear hb2); (try clear hk); (try clear hi); (try clear ho0); obtain ⟨Ao28, co28, eo28⟩ := Kd.R_slice HO840.out; subst eo28) | ((with_reducible refine gate_callee (f := 26) rfl ?_); refine goesL_ (some 35) rfl rfl Try.func26 (by kernel_rfl) rfl #[.slice Ao28 t838.length co28] rfl (by (try simp only [List.map_toArray, List.map_cons, List.map_nil]); first | done | rfl | (simp only [List.length_drop, List.length_take]; rfl)) ?_; (with_reducible refine (galleylaw13_own.calls _ _ t838 t844 _ ?side1 ?side2 A9.out).mono ?_); (case side1 => repeat (first | exact (Kd.R_reads' HO840.out).2.2 | (with_reducible refine Kd.C_alloc ?_ _) | (with_reducible refine Kd.C_drewN ?_ _) | (with_reducible refine Kd.C_drew ?_))); (case side2 => exact (Kd.R_reads' HO840.out).2.1); rintro e w29 ⟨v845, rfl, ho0, hb⟩; refine ⟨_, rfl, ?_⟩; have n0_ := Aside0.mk (Kd.V_elder' HO1.out (Kd.R_base ho0) hb); have n1_ := Aside0.mk (Kd.N_elder' HO836.out (Kd.R_base ho0) hb); have n2_ := Aside0.mk (Kd.R_elder' HO840.out (Kd.R_base ho0) hb); have n3_ := Aside0.mk (Kd.R_below HO843.out hb); have n4_ := Aside0.mk (Kd.R_lower (Kd.R_new' (Kd.R_newM (M := fun k_ => (w.heap.size ≤ k_)) ho0 (below_size HB.out) (fun k_ h_ => h_)) (Kd.R_lt HO840.out)) (below_size HB.out)); have n5_ := Aside0.mk (below_step HB.out hb); clear HO1 HO836 HO840 HO843 HB; have HO1 := n0_; have HO836 := n1_; have HO840 := n2_; have HO843 := n3_; have HO846 := n4_; have HB := n5_; clear n0_ n1_ n2_ n3_ n4_ n5_; (try clear hb); (try clear hb2); (try clear hk); (try clear hi); (try clear ho0); obtain ⟨Ao30, co30, eo30⟩ := Kd.R_slice HO843.out; subst eo30; obtain ⟨Ao31, co31, eo31⟩ := Kd.R_slice HO846.out; subst eo31) | ((with_reducible refine gate_callee (f := 24) rfl ?_); refine goesL_ (some 36) rfl rfl Try.func24 (by kernel_rfl) rfl #[.slice Ao30 t841.length co30, .slice Ao31 t844.length co31] rfl (by (try simp only [List.map_toArray, List.map_cons, List.map_nil]); first | done | rfl | (simp only [List.length_drop, List.length_take]; rfl)) ?_; (with_reducible refine (delta_Apply.calls _ _ t841 _ _ t844 t847 t848 _ ?side1 ?side2 ?side3 ?side4 A10.out).mono ?_); (case side1 => repeat (first | exact (Kd.R_reads' HO843.out).2.2 | (with_reducible refine Kd.C_alloc ?_ _) | (with_reducible refine Kd.C_drewN ?_ _) | (with_reducible refine Kd.C_drew ?_))); (case side2 => exact (Kd.R_reads' HO843.out).2.1); (case side3 => repeat (first | exact (Kd.R_reads' HO846.out).2.2 | (with_reducible refine Kd.C_alloc ?_ _) | (with_reducible refine Kd.C_drewN ?_ _) | (with_reducible refine Kd.C_drew ?_))); (case side4 => exact (Kd.R_reads' HO846.out).2.1); rintro e w32 ⟨v849, rfl, ho0, hb⟩; refine ⟨_, rfl, ?_⟩; have n0_ := Aside0.mk (Kd.V_elder' HO1.out (Kd.R_base ho0) hb); have n1_ := Aside0.mk (Kd.N_elder' HO836.out (Kd.R_base ho0) hb); have n2_ := Aside0.mk (Kd.R_below HO840.out hb); have n3_ := Aside0.mk (Kd.R_elder' HO843.out (Kd.R_base ho0) hb); have n4_ := Aside0.mk (Kd.R_below HO846.out hb); have n5_ := Aside0.mk (Kd.R_lower (Kd.R_new' (Kd.R_newM (M := fun k_ => (w.heap.size ≤ k_)) ho0 (below_size HB.out) (fun k_ h_ => h_)) (Kd.R_lt HO843.out)) (below_size HB.out)); have n6_ := Aside0.mk (below_step HB.out hb); clear HO1 HO836 HO840 HO843 HO846 HB; have HO1 := n0_; have HO836 := n1_; have HO840 := n2_; have HO843 := n3_; have HO846 := n4_; have HO850 := n5_; have HB := n6_; clear n0_ n1_ n2_ n3_ n4_ n5_ n6_; (try clear hb); (try clear hb2); (try clear hk); (try clear hi); (try clear ho0)) | ((with_reducible refine gate_callee (f := 25) rfl ?_); refine goesL_ (some 41) rfl rfl Try.func25 (by kernel_rfl) rfl #[.slice A0 l0.length c0] rfl (by (try simp only [List.map_toArray, List.map_cons, List.map_nil]); first | done | rfl | (simp only [List.length_drop, List.length_take]; rfl)) ?_; (with_reducible refine (galleylaw13_bytes.calls _ _ l0 t851 _ ?side1 ?side2 A11.out).mono ?_); (case side1 => exact (Kd.C_below HR0.out HB.out)); (case side2 => exact HC0.out); rintro e w33 ⟨v852, rfl, ho0, hb⟩; refine ⟨_, rfl, ?_⟩; have n0_ := Aside0.mk (Kd.V_elder' HO1.out (Kd.R_base ho0) hb); have n1_ := Aside0.mk (Kd.N_elder' HO836.out (Kd.R_base ho0) hb); have n2_ := Aside0.mk (Kd.R_below HO840.out hb); have n3_ := Aside0.mk (Kd.R_elder' HO843.out (Kd.R_base ho0) hb); have n4_ := Aside0.mk (Kd.R_below HO846.out hb); have n5_ := Aside0.mk (Kd.R_elder' HO850.out (Kd.R_base ho0) hb); have n6_ := Aside0.mk (Kd.R_lower (Kd.R_new' (Kd.R_new' (Kd.R_newM (M := fun k_ => (w.heap.size ≤ k_)) ho0 (below_size HB.out) (fun k_ h_ => h_)) (Kd.R_lt HO843.out)) (Kd.R_lt HO850.out)) (below_size HB.out)); have n7_ := Aside0.mk (below_step HB.out hb); clear HO1 HO836 HO840 HO843 HO846 HO850 HB; have HO1 := n0_; have HO836 := n1_; have HO840 := n2_; have HO843 := n3_; have HO846 := n4_; have HO850 := n5_; have HO853 := n6_; have HB := n7_; clear n0_ n1_ n2_ n3_ n4_ n5_ n6_ n7_; (try clear hb); (try clear hb2); (try clear hk); (try clear hi); (try clear ho0)) | ((with_reducible refine gate_callee (f := 26) rfl ?_); refine goesL_ (some 43) rfl rfl Try.func26 (by kernel_rfl) rfl #[.slice Ao28 t838.length co28] rfl (by (try simp only [List.map_toArray, List.map_cons, List.map_nil]); first | done | rfl | (simp only [List.length_drop, List.length_take]; rfl)) ?_; (with_reducible refine (galleylaw13_own.calls _ _ t838 t854 _ ?side1 ?side2 A12.out).mono ?_); (case side1 => repeat (first | exact (Kd.R_reads' HO840.out).2.2 | (with_reducible refine Kd.C_alloc ?_ _) | (with_reducible refine Kd.C_drewN ?_ _) | (with_reducible refine Kd.C_drew ?_))); (case side2 => exact (Kd.R_reads' HO840.out).2.1); rintro e w34 ⟨v855, rfl, ho0, hb⟩; refine ⟨_, rfl, ?_⟩; have n0_ := Aside0.mk (Kd.V_elder' HO1.out (Kd.R_base ho0) hb); have n1_ := Aside0.mk (Kd.N_elder' HO836.out (Kd.R_base ho0) hb); have n2_ := Aside0.mk (Kd.R_elder' HO840.out (Kd.R_base ho0) hb); have n3_ := Aside0.mk (Kd.R_below HO843.out hb); have n4_ := Aside0.mk (Kd.R_elder' HO846.out (Kd.R_base ho0) hb); have n5_ := Aside0.mk (Kd.R_below HO850.out hb); have n6_ := Aside0.mk (Kd.R_below HO853.out hb); have n7_ := Aside0.mk (Kd.R_lower (Kd.R_new' (Kd.R_new' (Kd.R_newM (M := fun k_ => (w.heap.size ≤ k_)) ho0 (below_size HB.out) (fun k_ h_ => h_)) (Kd.R_lt HO840.out)) (Kd.R_lt HO846.out)) (below_size HB.out)); have n8_ := Aside0.mk (below_step HB.out hb); clear HO1 HO836 HO840 HO843 HO846 HO850 HO853 HB; have HO1 := n0_; have HO836 := n1_; have HO840 := n2_; have HO843 := n3_; have HO846 := n4_; have HO850 := n5_; have HO853 := n6_; have HO856 := n7_; have HB := n8_; clear n0_ n1_ n2_ n3_ n4_ n5_ n6_ n7_ n8_; (try clear hb); (try clear hb2); (try clear hk); (try clear hi); (try clear ho0); obtain ⟨Ao35, co35, eo35⟩ := Kd.R_slice HO853.out; subst eo35; obtain ⟨Ao36, co36, eo36⟩ := Kd.R_slice HO856.out; subst eo36) | ((with_reducible refine gate_callee (f := 27) rfl ?_); refine goesL_ (some 44) rfl rfl Try.func27 (by kernel_rfl) rfl #[.slice Ao35 t851.length co35, .slice Ao36 t854.length co36] rfl (by (try simp only [List.map_toArray, List.map_cons, List.map_nil]); first | done | rfl | (simp only [List.length_drop, List.length_take]; rfl)) ?_; (with_reducible refine (delta_Invert.calls _ _ t851 _ _ t854 t857 t858 _ ?side1 ?side2 ?side3 ?side4 A13.out).mono ?_); (case side1 => repeat (first | exact (Kd.R_reads' HO853.out).2.2 | (with_reducible refine Kd.C_alloc ?_ _) | (with_reducible refine Kd.C_drewN ?_ _) | (with_reducible refine Kd.C_drew ?_))); (case side2 => exact (Kd.R_reads' HO853.out).2.1); (case side3 => repeat (first | exact (Kd.R_reads' HO856.out).2.2 | (with_reducible refine Kd.C_alloc ?_ _) | (with_reducible refine Kd.C_drewN ?_ _) | (with_reducible refine Kd.C_drew ?_))); (case side4 => exact (Kd.R_reads' HO856.out).2.1); rintro e w37 ⟨v859, rfl, ho0, hb⟩; refine ⟨_, rfl, ?_⟩; have n0_ := Aside0.mk (Kd.V_elder' HO1.out (Kd.R_base ho0) hb); have n1_ := Aside0.mk (Kd.N_elder' HO836.out (Kd.R_base ho0) hb); have n2_ := Aside0.mk (Kd.R_elder' HO840.out (Kd.R_base ho0) hb); have n3_ := Aside0.mk (Kd.R_below HO843.out hb); have n4_ := Aside0.mk (Kd.R_elder' HO846.out (Kd.R_base ho0) hb); have n5_ := Aside0.mk (Kd.R_below HO850.out hb); have n6_ := Aside0.mk (Kd.R_below HO853.out hb); have n7_ := Aside0.mk (Kd.R_elder' HO856.out (Kd.R_base ho0) hb); have n8_ := Aside0.mk (Kd.R_lower (Kd.R_new' (Kd.R_new' (Kd.R_new' (Kd.R_newM (M := fun k_ => (w.heap.size ≤ k_)) ho0 (below_size HB.out) (fun k_ h_ => h_)) (Kd.R_lt HO840.out)) (Kd.R_lt HO846.out)) (Kd.R_lt HO856.out)) (below_size HB.out)); have n9_ := Aside0.mk (below_step HB.out hb); clear HO1 HO836 HO840 HO843 HO846 HO850 HO853 HO856 HB; have HO1 := n0_; have HO836 := n1_; have HO840 := n2_; have HO843 := n3_; have HO846 := n4_; have HO850 := n5_; have HO853 := n6_; have HO856 := n7_; have HO860 := n8_; have HB := n9_; clear n0_ n1_ n2_ n3_ n4_ n5_ n6_ n7_ n8_ n9_; (try clear hb); (try clear hb2); (try clear hk); (try clear hi); (try clear ho0); obtain ⟨Ao38, co38, eo38⟩ := Kd.R_slice HO850.out; subst eo38) | ((with_reducible refine gate_callee (f := 25) rfl ?_); refine goesL_ (some 49) rfl rfl Try.func25 (by kernel_rfl) rfl #[.slice Ao38 t847.length co38] rfl (by (try simp only [List.map_toArray, List.map_cons, List.map_nil]); first | done | rfl | (simp only [List.length_drop, List.length_take]; rfl)) ?_; (with_reducible refine (galleylaw13_bytes.calls _ _ t847 t861 _ ?side1 ?side2 A14.out).mono ?_); (case side1 => repeat (first | exact (Kd.R_reads' HO850.out).2.2 | (with_reducible refine Kd.C_alloc ?_ _) | (with_reducible refine Kd.C_drewN ?_ _) | (with_reducible refine Kd.C_drew ?_))); (case side2 => exact (Kd.R_reads' HO850.out).2.1); rintro e w39 ⟨v862, rfl, ho0, hb⟩; refine ⟨_, rfl, ?_⟩; have n0_ := Aside0.mk (Kd.V_elder' HO1.out (Kd.R_base ho0) hb); have n1_ := Aside0.mk (Kd.N_elder' HO836.out (Kd.R_base ho0) hb); have n2_ := Aside0.mk (Kd.R_below HO840.out hb); have n3_ := Aside0.mk (Kd.R_elder' HO843.out (Kd.R_base ho0) hb); have n4_ := Aside0.mk (Kd.R_below HO846.out hb); have n5_ := Aside0.mk (Kd.R_elder' HO850.out (Kd.R_base ho0) hb); have n6_ := Aside0.mk (Kd.R_elder' HO853.out (Kd.R_base ho0) hb); have n7_ := Aside0.mk (Kd.R_below HO856.out hb); have n8_ := Aside0.mk (Kd.R_below HO860.out hb); have n9_ := Aside0.mk (Kd.R_lower (Kd.R_new' (Kd.R_new' (Kd.R_new' (Kd.R_newM (M := fun k_ => (w.heap.size ≤ k_)) ho0 (below_size HB.out) (fun k_ h_ => h_)) (Kd.R_lt HO843.out)) (Kd.R_lt HO850.out)) (Kd.R_lt HO853.out)) (below_size HB.out)); have n10_ := Aside0.mk (below_step HB.out hb); clear HO1 HO836 HO840 HO843 HO846 HO850 HO853 HO856 HO860 HB; have HO1 := n0_; have HO836 := n1_; have HO840 := n2_; have HO843 := n3_; have HO846 := n4_; have HO850 := n5_; have HO853 := n6_; have HO856 := n7_; have HO860 := n8_; have HO863 := n9_; have HB := n10_; clear n0_ n1_ n2_ n3_ n4_ n5_ n6_ n7_ n8_ n9_ n10_; (try clear hb); (try clear hb2); (try clear hk); (try clear hi); (try clear ho0); obtain ⟨Ao40, co40, eo40⟩ := Kd.R_slice HO860.out; subst eo40) | ((with_reducible refine gate_callee (f := 26) rfl ?_); refine goesL_ (some 51) rfl rfl Try.func26 (by kernel_rfl) rfl #[.slice Ao40 t857.length co40] rfl (by (try simp only [List.map_toArray, List.map_cons, List.map_nil]); first | done | rfl | (simp only [List.length_drop, List.length_take]; rfl)) ?_; (with_reducible refine (galleylaw13_own.calls _ _ t857 t864 _ ?side1 ?side2 A15.out).mono ?_); (case side1 => repeat (first | exact (Kd.R_reads' HO860.out).2.2 | (with_reducible refine Kd.C_alloc ?_ _) | (with_reducible refine Kd.C_drewN ?_ _) | (with_reducible refine Kd.C_drew ?_))); (case side2 => exact (Kd.R_reads' HO860.out).2.1); rintro e w41 ⟨v865, rfl, ho0, hb⟩; refine ⟨_, rfl, ?_⟩; have n0_ := Aside0.mk (Kd.V_elder' HO1.out (Kd.R_base ho0) hb); have n1_ := Aside0.mk (Kd.N_elder' HO836.out (Kd.R_base ho0) hb); have n2_ := Aside0.mk (Kd.R_elder' HO840.out (Kd.R_base ho0) hb); have n3_ := Aside0.mk (Kd.R_below HO843.out hb); have n4_ := Aside0.mk (Kd.R_elder' HO846.out (Kd.R_base ho0) hb); have n5_ := Aside0.mk (Kd.R_below HO850.out hb); have n6_ := Aside0.mk (Kd.R_below HO853.out hb); have n7_ := Aside0.mk (Kd.R_elder' HO856.out (Kd.R_base ho0) hb); have n8_ := Aside0.mk (Kd.R_elder' HO860.out (Kd.R_base ho0) hb); have n9_ := Aside0.mk (Kd.R_below HO863.out hb); have n10_ := Aside0.mk (Kd.R_lower (Kd.R_new' (Kd.R_new' (Kd.R_new' (Kd.R_new' (Kd.R_newM (M := fun k_ => (w.heap.size ≤ k_)) ho0 (below_size HB.out) (fun k_ h_ => h_)) (Kd.R_lt HO840.out)) (Kd.R_lt HO846.out)) (Kd.R_lt HO856.out)) (Kd.R_lt HO860.out)) (below_size HB.out)); have n11_ := Aside0.mk (below_step HB.out hb); clear HO1 HO836 HO840 HO843 HO846 HO850 HO853 HO856 HO860 HO863 HB; have HO1 := n0_; have HO836 := n1_; have HO840 := n2_; have HO843 := n3_; have HO846 := n4_; have HO850 := n5_; have HO853 := n6_; have HO856 := n7_; have HO860 := n8_; have HO863 := n9_; have HO866 := n10_; have HB := n11_; clear n0_ n1_ n2_ n3_ n4_ n5_ n6_ n7_ n8_ n9_ n10_ n11_; (try clear hb); (try clear hb2); (try clear hk); (try clear hi); (try clear ho0); obtain ⟨Ao42, co42, eo42⟩ := Kd.R_slice HO863.out; subst eo42; obtain ⟨Ao43, co43, eo43⟩ := Kd.R_slice HO866.out; subst eo43) | ((with_reducible refine gate_callee (f := 24) rfl ?_); refine goesL_ (some 52) rfl rfl Try.func24 (by kernel_rfl) rfl #[.slice Ao42 t861.length co42, .slice Ao43 t864.length co43] rfl (by (try simp only [List.map_toArray, List.map_cons, List.map_nil]); first | done | rfl | (simp only [List.length_drop, List.length_take]; rfl)) ?_; (with_reducible refine (delta_Apply.calls _ _ t861 _ _ t864 t867 t868 _ ?side1 ?side2 ?side3 ?side4 A16.out).mono ?_); (case side1 => repeat (first | exact (Kd.R_reads' HO863.out).2.2 | (with_reducible refine Kd.C_alloc ?_ _) | (with_reducible refine Kd.C_drewN ?_ _) | (with_reducible refine Kd.C_drew ?_))); (case side2 => exact (Kd.R_reads' HO863.out).2.1); (case side3 => repeat (first | exact (Kd.R_reads' HO866.out).2.2 | (with_reducible refine Kd.C_alloc ?_ _) | (with_reducible refine Kd.C_drewN ?_ _) | (with_reducible refine Kd.C_drew ?_))); (case side4 => exact (Kd.R_reads' HO866.out).2.1); rintro e w44 ⟨v869, rfl, ho0, hb⟩; refine ⟨_, rfl, ?_⟩; have n0_ := Aside0.mk (Kd.V_elder' HO1.out (Kd.R_base ho0) hb); have n1_ := Aside0.mk (Kd.N_elder' HO836.out (Kd.R_base ho0) hb); have n2_ := Aside0.mk (Kd.R_below HO840.out hb); have n3_ := Aside0.mk (Kd.R_elder' HO843.out (Kd.R_base ho0) hb); have n4_ := Aside0.mk (Kd.R_below HO846.out hb); have n5_ := Aside0.mk (Kd.R_elder' HO850.out (Kd.R_base ho0) hb); have n6_ := Aside0.mk (Kd.R_elder' HO853.out (Kd.R_base ho0) hb); have n7_ := Aside0.mk (Kd.R_below HO856.out hb); have n8_ := Aside0.mk (Kd.R_below HO860.out hb); have n9_ := Aside0.mk (Kd.R_elder' HO863.out (Kd.R_base ho0) hb); have n10_ := Aside0.mk (Kd.R_below HO866.out hb); have n11_ := Aside0.mk (Kd.R_lower (Kd.R_new' (Kd.R_new' (Kd.R_new' (Kd.R_new' (Kd.R_newM (M := fun k_ => (w.heap.size ≤ k_)) ho0 (below_size HB.out) (fun k_ h_ => h_)) (Kd.R_lt HO843.out)) (Kd.R_lt HO850.out)) (Kd.R_lt HO853.out)) (Kd.R_lt HO863.out)) (below_size HB.out)); have n12_ := Aside0.mk (below_step HB.out hb); clear HO1 HO836 HO840 HO843 HO846 HO850 HO853 HO856 HO860 HO863 HO866 HB; have HO1 := n0_; have HO836 := n1_; have HO840 := n2_; have HO843 := n3_; have HO846 := n4_; have HO850 := n5_; have HO853 := n6_; have HO856 := n7_; have HO860 := n8_; have HO863 := n9_; have HO866 := n10_; have HO870 := n11_; have HB := n12_; clear n0_ n1_ n2_ n3_ n4_ n5_ n6_ n7_ n8_ n9_ n10_ n11_ n12_; (try clear hb); (try clear hb2); (try clear hk); (try clear hi); (try clear ho0)) | ((with_reducible refine gate_callee (f := 25) rfl ?_); refine goesL_ (some 57) rfl rfl Try.func25 (by kernel_rfl) rfl #[.slice Ao38 t847.length co38] rfl (by (try simp only [List.map_toArray, List.map_cons, List.map_nil]); first | done | rfl | (simp only [List.length_drop, List.length_take]; rfl)) ?_; (with_reducible refine (galleylaw13_bytes.calls _ _ t847 t871 _ ?side1 ?side2 A17.out).mono ?_); (case side1 => repeat (first | exact (Kd.R_reads' HO850.out).2.2 | (with_reducible refine Kd.C_alloc ?_ _) | (with_reducible refine Kd.C_drewN ?_ _) | (with_reducible refine Kd.C_drew ?_))); (case side2 => exact (Kd.R_reads' HO850.out).2.1); rintro e w45 ⟨v872, rfl, ho0, hb⟩; refine ⟨_, rfl, ?_⟩; have n0_ := Aside0.mk (Kd.V_elder' HO1.out (Kd.R_base ho0) hb); have n1_ := Aside0.mk (Kd.N_elder' HO836.out (Kd.R_base ho0) hb); have n2_ := Aside0.mk (Kd.R_below HO840.out hb); have n3_ := Aside0.mk (Kd.R_elder' HO843.out (Kd.R_base ho0) hb); have n4_ := Aside0.mk (Kd.R_below HO846.out hb); have n5_ := Aside0.mk (Kd.R_elder' HO850.out (Kd.R_base ho0) hb); have n6_ := Aside0.mk (Kd.R_elder' HO853.out (Kd.R_base ho0) hb); have n7_ := Aside0.mk (Kd.R_below HO856.out hb); have n8_ := Aside0.mk (Kd.R_below HO860.out hb); have n9_ := Aside0.mk (Kd.R_elder' HO863.out (Kd.R_base ho0) hb); have n10_ := Aside0.mk (Kd.R_below HO866.out hb); have n11_ := Aside0.mk (Kd.R_elder' HO870.out (Kd.R_base ho0) hb); have n12_ := Aside0.mk (Kd.R_lower (Kd.R_new' (Kd.R_new' (Kd.R_new' (Kd.R_new' (Kd.R_new' (Kd.R_newM (M := fun k_ => (w.heap.size ≤ k_)) ho0 (below_size HB.out) (fun k_ h_ => h_)) (Kd.R_lt HO843.out)) (Kd.R_lt HO850.out)) (Kd.R_lt HO853.out)) (Kd.R_lt HO863.out)) (Kd.R_lt HO870.out)) (below_size HB.out)); have n13_ := Aside0.mk (below_step HB.out hb); clear HO1 HO836 HO840 HO843 HO846 HO850 HO853 HO856 HO860 HO863 HO866 HO870 HB; have HO1 := n0_; have HO836 := n1_; have HO840 := n2_; have HO843 := n3_; have HO846 := n4_; have HO850 := n5_; have HO853 := n6_; have HO856 := n7_; have HO860 := n8_; have HO863 := n9_; have HO866 := n10_; have HO870 := n11_; have HO873 := n12_; have HB := n13_; clear n0_ n1_ n2_ n3_ n4_ n5_ n6_ n7_ n8_ n9_ n10_ n11_ n12_ n13_; (try clear hb); (try clear hb2); (try clear hk); (try clear hi); (try clear ho0)) | ((with_reducible refine gate_callee (f := 26) rfl ?_); refine goesL_ (some 59) rfl rfl Try.func26 (by kernel_rfl) rfl #[.slice Ao40 t857.length co40] rfl (by (try simp only [List.map_toArray, List.map_cons, List.map_nil]); first | done | rfl | (simp only [List.length_drop, List.length_take]; rfl)) ?_; (with_reducible refine (galleylaw13_own.calls _ _ t857 t874 _ ?side1 ?side2 A18.out).mono ?_); (case side1 => repeat (first | exact (Kd.R_reads' HO860.out).2.2 | (with_reducible refine Kd.C_alloc ?_ _) | (with_reducible refine Kd.C_drewN ?_ _) | (with_reducible refine Kd.C_drew ?_))); (case side2 => exact (Kd.R_reads' HO860.out).2.1); rintro e w46 ⟨v875, rfl, ho0, hb⟩; refine ⟨_, rfl, ?_⟩; have n0_ := Aside0.mk (Kd.V_elder' HO1.out (Kd.R_base ho0) hb); have n1_ := Aside0.mk (Kd.N_elder' HO836.out (Kd.R_base ho0) hb); have n2_ := Aside0.mk (Kd.R_elder' HO840.out (Kd.R_base ho0) hb); have n3_ := Aside0.mk (Kd.R_below HO843.out hb); have n4_ := Aside0.mk (Kd.R_elder' HO846.out (Kd.R_base ho0) hb); have n5_ := Aside0.mk (Kd.R_below HO850.out hb); have n6_ := Aside0.mk (Kd.R_below HO853.out hb); have n7_ := Aside0.mk (Kd.R_elder' HO856.out (Kd.R_base ho0) hb); have n8_ := Aside0.mk (Kd.R_elder' HO860.out (Kd.R_base ho0) hb); have n9_ := Aside0.mk (Kd.R_below HO863.out hb); have n10_ := Aside0.mk (Kd.R_elder' HO866.out (Kd.R_base ho0) hb); have n11_ := Aside0.mk (Kd.R_below HO870.out hb); have n12_ := Aside0.mk (Kd.R_below HO873.out hb); have n13_ := Aside0.mk (Kd.R_lower (Kd.R_new' (Kd.R_new' (Kd.R_new' (Kd.R_new' (Kd.R_new' (Kd.R_newM (M := fun k_ => (w.heap.size ≤ k_)) ho0 (below_size HB.out) (fun k_ h_ => h_)) (Kd.R_lt HO840.out)) (Kd.R_lt HO846.out)) (Kd.R_lt HO856.out)) (Kd.R_lt HO860.out)) (Kd.R_lt HO866.out)) (below_size HB.out)); have n14_ := Aside0.mk (below_step HB.out hb); clear HO1 HO836 HO840 HO843 HO846 HO850 HO853 HO856 HO860 HO863 HO866 HO870 HO873 HB; have HO1 := n0_; have HO836 := n1_; have HO840 := n2_; have HO843 := n3_; have HO846 := n4_; have HO850 := n5_; have HO853 := n6_; have HO856 := n7_; have HO860 := n8_; have HO863 := n9_; have HO866 := n10_; have HO870 := n11_; have HO873 := n12_; have HO876 := n13_; have HB := n14_; clear n0_ n1_ n2_ n3_ n4_ n5_ n6_ n7_ n8_ n9_ n10_ n11_ n12_ n13_ n14_; (try clear hb); (try clear hb2); (try clear hk); (try clear hi); (try clear ho0); obtain ⟨Ao47, co47, eo47⟩ := Kd.R_slice HO873.out; subst eo47; obtain ⟨Ao48, co48, eo48⟩ := Kd.R_slice HO876.out; subst eo48) | ((with_reducible refine gate_callee (f := 27) rfl ?_); refine goesL_ (some 60) rfl rfl Try.func27 (by kernel_rfl) rfl #[.slice Ao47 t871.length co47, .slice Ao48 t874.length co48] rfl (by (try simp only [List.map_toArray, List.map_cons, List.map_nil]); first | done | rfl | (simp only [List.length_drop, List.length_take]; rfl)) ?_; (with_reducible refine (delta_Invert.calls _ _ t871 _ _ t874 t877 t878 _ ?side1 ?side2 ?side3 ?side4 A19.out).mono ?_); (case side1 => repeat (first | exact (Kd.R_reads' HO873.out).2.2 | (with_reducible refine Kd.C_alloc ?_ _) | (with_reducible refine Kd.C_drewN ?_ _) | (with_reducible refine Kd.C_drew ?_))); (case side2 => exact (Kd.R_reads' HO873.out).2.1); (case side3 => repeat (first | exact (Kd.R_reads' HO876.out).2.2 | (with_reducible refine Kd.C_alloc ?_ _) | (with_reducible refine Kd.C_drewN ?_ _) | (with_reducible refine Kd.C_drew ?_))); (case side4 => exact (Kd.R_reads' HO876.out).2.1); rintro e w49 ⟨v879, rfl, ho0, hb⟩; refine ⟨_, rfl, ?_⟩; have n0_ := Aside0.mk (Kd.V_elder' HO1.out (Kd.R_base ho0) hb); have n1_ := Aside0.mk (Kd.N_elder' HO836.out (Kd.R_base ho0) hb); have n2_ := Aside0.mk (Kd.R_elder' HO840.out (Kd.R_base ho0) hb); have n3_ := Aside0.mk (Kd.R_below HO843.out hb); have n4_ := Aside0.mk (Kd.R_elder' HO846.out (Kd.R_base ho0) hb); have n5_ := Aside0.mk (Kd.R_below HO850.out hb); have n6_ := Aside0.mk (Kd.R_below HO853.out hb); have n7_ := Aside0.mk (Kd.R_elder' HO856.out (Kd.R_base ho0) hb); have n8_ := Aside0.mk (Kd.R_elder' HO860.out (Kd.R_base ho0) hb); have n9_ := Aside0.mk (Kd.R_below HO863.out hb); have n10_ := Aside0.mk (Kd.R_elder' HO866.out (Kd.R_base ho0) hb); have n11_ := Aside0.mk (Kd.R_below HO870.out hb); have n12_ := Aside0.mk (Kd.R_below HO873.out hb); have n13_ := Aside0.mk (Kd.R_elder' HO876.out (Kd.R_base ho0) hb); have n14_ := Aside0.mk (Kd.R_lower (Kd.R_new' (Kd.R_new' (Kd.R_new' (Kd.R_new' (Kd.R_new' (Kd.R_new' (Kd.R_newM (M := fun k_ => (w.heap.size ≤ k_)) ho0 (below_size HB.out) (fun k_ h_ => h_)) (Kd.R_lt HO840.out)) (Kd.R_lt HO846.out)) (Kd.R_lt HO856.out)) (Kd.R_lt HO860.out)) (Kd.R_lt HO866.out)) (Kd.R_lt HO876.out)) (below_size HB.out)); have n15_ := Aside0.mk (below_step HB.out hb); clear HO1 HO836 HO840 HO843 HO846 HO850 HO853 HO856 HO860 HO863 HO866 HO870 HO873 HO876 HB; have HO1 := n0_; have HO836 := n1_; have HO840 := n2_; have HO843 := n3_; have HO846 := n4_; have HO850 := n5_; have HO853 := n6_; have HO856 := n7_; have HO860 := n8_; have HO863 := n9_; have HO866 := n10_; have HO870 := n11_; have HO873 := n12_; have HO876 := n13_; have HO880 := n14_; have HB := n15_; clear n0_ n1_ n2_ n3_ n4_ n5_ n6_ n7_ n8_ n9_ n10_ n11_ n12_ n13_ n14_ n15_; (try clear hb); (try clear hb2); (try clear hk); (try clear hi); (try clear ho0)))
   (try simp only [Act.put, List.setIfInBounds_toArray, List.set_cons_zero, List.set_cons_succ])
   go_cut [89] (fun v89 wc => ∃ (kq : Nat) (x89_19 : Bool), v89 = .bool x89_19 ∧ Aside0 (galleylaw13_DeltaBack.j0 kq l0 t838 t857 x89_19 = some r) ∧ Aside0 (kq ≤ k) ∧ Aside0 (Kd.R k70 70 wc w.heap.size (fun k_ => (w.heap.size ≤ k_) ∧ some k_ ≠ ((.slice Ao40 t857.length co40) : Value).ownBlock) (.slice Ao28 t838.length co28) t838) ∧ Aside0 (Kd.R k70 70 wc w.heap.size (fun k_ => (w.heap.size ≤ k_) ∧ some k_ ≠ ((.slice Ao28 t838.length co28) : Value).ownBlock) (.slice Ao40 t857.length co40) t857) ∧ Aside0 (Below w.heap.size w wc))
   case first =>
    have H := HC20.out
    clear HC20
    by_cases c50 : t848 = 0
    ·
     rw [if_pos c50] at H
     have c50b0 : (t848 == 0) = true := beq_iff_eq.mpr c50
     have c50b1 : (t848 != 0) = false := bne_eq_false_iff_eq.mpr c50
     clear c50
     (first | rw [c50b0] | (simp only [i64_w, i32_w]; rw [c50b0]) | skip)
     by_cases c51 : t858 = 0
     ·
      rw [if_pos c51] at H
      have c51b0 : (t858 == 0) = true := beq_iff_eq.mpr c51
      have c51b1 : (t858 != 0) = false := bne_eq_false_iff_eq.mpr c51
      clear c51
      by_cases c52 : t868 = 0
      ·
       rw [if_pos c52] at H
       have c52b0 : (t868 == 0) = true := beq_iff_eq.mpr c52
       have c52b1 : (t868 != 0) = false := bne_eq_false_iff_eq.mpr c52
       clear c52
       by_cases c53 : t878 = 0
       ·
        rw [if_pos c53] at H
        have c53b0 : (t878 == 0) = true := beq_iff_eq.mpr c53
        have c53b1 : (t878 != 0) = false := bne_eq_false_iff_eq.mpr c53
        clear c53
        by_cases c54 : (strOfNums t867).toList = (strOfNums l0).toList
        ·
         rw [if_pos c54] at H
         have c54b0 : ((strOfNums t867).toList == (strOfNums l0).toList) = true := beq_iff_eq.mpr c54
         have c54b1 : ((strOfNums t867).toList != (strOfNums l0).toList) = false := bne_eq_false_iff_eq.mpr c54
         clear c54
         replace H := Option.bind_eq_some_iff.mp H
         obtain ⟨t881, A550, H⟩ := H
         try dsimp only at H
         have A55 := Aside0.mk A550
         clear A550
         have H' := Aside0.mk H
         clear H
         have hcv56 := own_string (P := Try.prog) Try.underlying23 Try.underlying5 Try.underlying9 (Kd.own_of_R HO870.out)
         have hcv57 := Kd.C_string (P := Try.prog) (A := A0) (c := c0) Try.underlying23 Try.underlying5 Try.underlying9 (Kd.C_below HR0.out HB.out)
         obtain ⟨Ao58, co58, eo58⟩ := Kd.R_slice HO880.out
         subst eo58
         go_wp2_with (first | (go_at_call 31; (with_reducible refine (galleylaw13_same.calls k _ _ t877 _ _ t838 t881 _ ?side1 ?side2 ?side3 ?side4 A55.out).mono ?_); (case side1 => repeat (first | exact (Kd.R_reads' HO880.out).2.2 | (with_reducible refine Kd.C_alloc ?_ _) | (with_reducible refine Kd.C_drewN ?_ _) | (with_reducible refine Kd.C_drew ?_))); (case side2 => exact (Kd.R_reads' HO880.out).2.1); (case side3 => repeat (first | exact (Kd.R_reads' HO840.out).2.2 | (with_reducible refine Kd.C_alloc ?_ _) | (with_reducible refine Kd.C_drewN ?_ _) | (with_reducible refine Kd.C_drew ?_))); (case side4 => exact (Kd.R_reads' HO840.out).2.1); rintro e w' ⟨rfl, ⟨nd, rfl⟩⟩))
         go_meet
         case rel => exact ⟨_, (!t881), (by first | rfl | (simp; done) | (simp [*]; done) | (simp; exact isEmpty_bne _)), H', ⟨by first | omega | exact Nat.le_refl _⟩, ⟨by (with_reducible repeat (first | apply Kd.R_alloc | apply Kd.R_drewN | apply Kd.R_drew)); exact Kd.R_mono HO840.out (fun _ hk => ⟨hk.1.1.1.1.1.1.1, hk.1.1.1.2⟩)⟩, ⟨by (with_reducible repeat (first | apply Kd.R_alloc | apply Kd.R_drewN | apply Kd.R_drew)); exact Kd.R_mono HO860.out (fun _ hk => ⟨hk.1.1.1.1.1.1.1, hk.1.1.1.1.1.2⟩)⟩, ⟨by repeat (first | (with_reducible first | exact HB.out | apply below_alloc | apply pw_below_drewN | apply below_drew1) | exact HB.out)⟩⟩
        ·
         rw [if_neg c54] at H
         have c54b0 : ((strOfNums t867).toList == (strOfNums l0).toList) = false := beq_eq_false_iff_ne.mpr c54
         have c54b1 : ((strOfNums t867).toList != (strOfNums l0).toList) = true := bne_iff_ne.mpr c54
         have H' := Aside0.mk H
         clear H
         have hcv59 := own_string (P := Try.prog) Try.underlying23 Try.underlying5 Try.underlying9 (Kd.own_of_R HO870.out)
         have hcv60 := Kd.C_string (P := Try.prog) (A := A0) (c := c0) Try.underlying23 Try.underlying5 Try.underlying9 (Kd.C_below HR0.out HB.out)
         go_wp2
         go_meet
         case rel => exact ⟨_, (true), (by first | rfl | (simp; done) | (simp [*]; done) | (simp; exact isEmpty_bne _)), H', ⟨by first | omega | exact Nat.le_refl _⟩, ⟨by (with_reducible repeat (first | apply Kd.R_alloc | apply Kd.R_drewN | apply Kd.R_drew)); exact Kd.R_mono HO840.out (fun _ hk => ⟨hk.1.1.1.1.1.1.1, hk.1.1.1.2⟩)⟩, ⟨by (with_reducible repeat (first | apply Kd.R_alloc | apply Kd.R_drewN | apply Kd.R_drew)); exact Kd.R_mono HO860.out (fun _ hk => ⟨hk.1.1.1.1.1.1.1, hk.1.1.1.1.1.2⟩)⟩, ⟨by repeat (first | (with_reducible first | exact HB.out | apply below_alloc | apply pw_below_drewN | apply below_drew1) | exact HB.out)⟩⟩
       ·
        rw [if_neg c53] at H
        have c53b0 : (t878 == 0) = false := beq_eq_false_iff_ne.mpr c53
        have c53b1 : (t878 != 0) = true := bne_iff_ne.mpr c53
        have H' := Aside0.mk H
        clear H
        go_wp2
        go_meet
        case rel => exact ⟨_, (true), (by first | rfl | (simp; done) | (simp [*]; done) | (simp; exact isEmpty_bne _)), H', ⟨by first | omega | exact Nat.le_refl _⟩, ⟨by (with_reducible repeat (first | apply Kd.R_alloc | apply Kd.R_drewN | apply Kd.R_drew)); exact Kd.R_mono HO840.out (fun _ hk => ⟨hk.1.1.1.1.1.1.1, hk.1.1.1.2⟩)⟩, ⟨by (with_reducible repeat (first | apply Kd.R_alloc | apply Kd.R_drewN | apply Kd.R_drew)); exact Kd.R_mono HO860.out (fun _ hk => ⟨hk.1.1.1.1.1.1.1, hk.1.1.1.1.1.2⟩)⟩, ⟨by repeat (first | (with_reducible first | exact HB.out | apply below_alloc | apply pw_below_drewN | apply below_drew1) | exact HB.out)⟩⟩
      ·
       rw [if_neg c52] at H
       have c52b0 : (t868 == 0) = false := beq_eq_false_iff_ne.mpr c52
       have c52b1 : (t868 != 0) = true := bne_iff_ne.mpr c52
       have H' := Aside0.mk H
       clear H
       go_wp2
       go_meet
       case rel => exact ⟨_, (true), (by first | rfl | (simp; done) | (simp [*]; done) | (simp; exact isEmpty_bne _)), H', ⟨by first | omega | exact Nat.le_refl _⟩, ⟨by (with_reducible repeat (first | apply Kd.R_alloc | apply Kd.R_drewN | apply Kd.R_drew)); exact Kd.R_mono HO840.out (fun _ hk => ⟨hk.1.1.1.1.1.1.1, hk.1.1.1.2⟩)⟩, ⟨by (with_reducible repeat (first | apply Kd.R_alloc | apply Kd.R_drewN | apply Kd.R_drew)); exact Kd.R_mono HO860.out (fun _ hk => ⟨hk.1.1.1.1.1.1.1, hk.1.1.1.1.1.2⟩)⟩, ⟨by repeat (first | (with_reducible first | exact HB.out | apply below_alloc | apply pw_below_drewN | apply below_drew1) | exact HB.out)⟩⟩
     ·
      rw [if_neg c51] at H
      have c51b0 : (t858 == 0) = false := beq_eq_false_iff_ne.mpr c51
      have c51b1 : (t858 != 0) = true := bne_iff_ne.mpr c51
      have H' := Aside0.mk H
      clear H
      go_wp2
      go_meet
      case rel => exact ⟨_, (true), (by first | rfl | (simp; done) | (simp [*]; done) | (simp; exact isEmpty_bne _)), H', ⟨by first | omega | exact Nat.le_refl _⟩, ⟨by (with_reducible repeat (first | apply Kd.R_alloc | apply Kd.R_drewN | apply Kd.R_drew)); exact Kd.R_mono HO840.out (fun _ hk => ⟨hk.1.1.1.1.1.1.1, hk.1.1.1.2⟩)⟩, ⟨by (with_reducible repeat (first | apply Kd.R_alloc | apply Kd.R_drewN | apply Kd.R_drew)); exact Kd.R_mono HO860.out (fun _ hk => ⟨hk.1.1.1.1.1.1.1, hk.1.1.1.1.1.2⟩)⟩, ⟨by repeat (first | (with_reducible first | exact HB.out | apply below_alloc | apply pw_below_drewN | apply below_drew1) | exact HB.out)⟩⟩
    ·
     rw [if_neg c50] at H
     have c50b0 : (t848 == 0) = false := beq_eq_false_iff_ne.mpr c50
     have c50b1 : (t848 != 0) = true := bne_iff_ne.mpr c50
     (first | rw [c50b0] | (simp only [i64_w, i32_w]; rw [c50b0]) | skip)
     have H' := Aside0.mk H
     clear H
     go_wp2
     go_meet
     case rel => exact ⟨_, (true), (by first | rfl | (simp; done) | (simp [*]; done) | (simp; exact isEmpty_bne _)), H', ⟨by first | omega | exact Nat.le_refl _⟩, ⟨by (with_reducible repeat (first | apply Kd.R_alloc | apply Kd.R_drewN | apply Kd.R_drew)); exact Kd.R_mono HO840.out (fun _ hk => ⟨hk.1.1.1.1.1.1.1, hk.1.1.1.2⟩)⟩, ⟨by (with_reducible repeat (first | apply Kd.R_alloc | apply Kd.R_drewN | apply Kd.R_drew)); exact Kd.R_mono HO860.out (fun _ hk => ⟨hk.1.1.1.1.1.1.1, hk.1.1.1.1.1.2⟩)⟩, ⟨by repeat (first | (with_reducible first | exact HB.out | apply below_alloc | apply pw_below_drewN | apply below_drew1) | exact HB.out)⟩⟩
   case rest =>
    clear HC20
    (try clear c1); (try clear c2); (try clear p2); (try clear c4); (try clear c5); (try clear hcv5); (try clear c6); (try clear hcv6); (try clear c12); (try clear c23); (try clear c24); (try clear c25); (try clear c26); (try clear c27); (try clear c47); (try clear c48); (try clear c50); (try clear c50b0); (try clear c50b1); (try clear c51); (try clear c51b0); (try clear c51b1); (try clear c52); (try clear c52b0); (try clear c52b1); (try clear c53); (try clear c53b0); (try clear c53b1); (try clear c54); (try clear c54b0); (try clear c54b1); (try clear hcv56); (try clear hcv57); (try clear hcv59); (try clear hcv60)
    obtain ⟨kq, x89_19, rfl, HA, HJ19, HO_5, HO_8, HB⟩ := hcut
    cases kq with
    | zero => exact absurd HA.out (by simp [galleylaw13_DeltaBack.j0])
    | succ kj19 =>
     have H := HA.out
     clear HA
     simp only [galleylaw13_DeltaBack.j0] at H
     by_cases c61 : x89_19 = true
     ·
      subst c61
      rw [if_pos rfl] at H
      obtain rfl := Option.some.inj H
      go_wp2
      go_ret
      exact ⟨by first | rfl | (simp [errW_none, errW_some] <;> rfl) | (simp [*, errW_none, errW_some] <;> rfl), by repeat (first | (with_reducible first | exact HB.out | apply below_alloc | apply pw_below_drewN | apply below_drew1) | exact HB.out)⟩
     ·
      replace c61 := Bool.eq_false_iff.mpr c61
      subst c61
      rw [if_neg (show ¬ (false = true) by decide)] at H
      replace H := Option.bind_eq_some_iff.mp H
      obtain ⟨t882, A620, H⟩ := H
      try dsimp only at H
      have A62 := Aside0.mk A620
      clear A620
      replace H := Option.bind_eq_some_iff.mp H
      obtain ⟨t885, A630, H⟩ := H
      try dsimp only at H
      have A63 := Aside0.mk A630
      clear A630
      replace H := Option.bind_eq_some_iff.mp H
      obtain ⟨⟨t888, t889⟩, A640, H⟩ := H
      try dsimp only at H
      have A64 := Aside0.mk A640
      clear A640
      have H' := Aside0.mk H
      clear H
      go_wp2_with (first | ((with_reducible refine gate_callee (f := 26) rfl ?_); refine goesL_ (some 92) rfl rfl Try.func26 (by kernel_rfl) rfl #[.slice Ao28 t838.length co28] rfl (by (try simp only [List.map_toArray, List.map_cons, List.map_nil]); first | done | rfl | (simp only [List.length_drop, List.length_take]; rfl)) ?_; (with_reducible refine (galleylaw13_own.calls _ _ t838 t882 _ ?side1 ?side2 A62.out).mono ?_); (case side1 => repeat (first | exact (Kd.R_reads' HO_5.out).2.2 | (with_reducible refine Kd.C_alloc ?_ _) | (with_reducible refine Kd.C_drewN ?_ _) | (with_reducible refine Kd.C_drew ?_))); (case side2 => exact (Kd.R_reads' HO_5.out).2.1); rintro e w65 ⟨v883, rfl, ho0, hb⟩; refine ⟨_, rfl, ?_⟩; have n0_ := Aside0.mk (Kd.R_elder' HO_5.out (Kd.R_base ho0) hb); have n1_ := Aside0.mk (Kd.R_elder' HO_8.out (Kd.R_base ho0) hb); have n2_ := Aside0.mk (Kd.R_lower (Kd.R_new' (Kd.R_new' (Kd.R_newM (M := fun k_ => (w.heap.size ≤ k_)) ho0 (below_size HB.out) (fun k_ h_ => h_)) (Kd.R_lt HO_5.out)) (Kd.R_lt HO_8.out)) (below_size HB.out)); have n3_ := Aside0.mk (below_step HB.out hb); clear HO_5 HO_8 HB; have HO_5 := n0_; have HO_8 := n1_; have HO884 := n2_; have HB := n3_; clear n0_ n1_ n2_ n3_; (try clear hb); (try clear hb2); (try clear hk); (try clear hi); (try clear ho0)) | ((with_reducible refine gate_callee (f := 26) rfl ?_); refine goesL_ (some 94) rfl rfl Try.func26 (by kernel_rfl) rfl #[.slice Ao40 t857.length co40] rfl (by (try simp only [List.map_toArray, List.map_cons, List.map_nil]); first | done | rfl | (simp only [List.length_drop, List.length_take]; rfl)) ?_; (with_reducible refine (galleylaw13_own.calls _ _ t857 t885 _ ?side1 ?side2 A63.out).mono ?_); (case side1 => repeat (first | exact (Kd.R_reads' HO_8.out).2.2 | (with_reducible refine Kd.C_alloc ?_ _) | (with_reducible refine Kd.C_drewN ?_ _) | (with_reducible refine Kd.C_drew ?_))); (case side2 => exact (Kd.R_reads' HO_8.out).2.1); rintro e w66 ⟨v886, rfl, ho0, hb⟩; refine ⟨_, rfl, ?_⟩; have n0_ := Aside0.mk (Kd.R_elder' HO_5.out (Kd.R_base ho0) hb); have n1_ := Aside0.mk (Kd.R_elder' HO_8.out (Kd.R_base ho0) hb); have n2_ := Aside0.mk (Kd.R_elder' HO884.out (Kd.R_base ho0) hb); have n3_ := Aside0.mk (Kd.R_lower (Kd.R_new' (Kd.R_new' (Kd.R_new' (Kd.R_newM (M := fun k_ => (w.heap.size ≤ k_)) ho0 (below_size HB.out) (fun k_ h_ => h_)) (Kd.R_lt HO_5.out)) (Kd.R_lt HO_8.out)) (Kd.R_lt HO884.out)) (below_size HB.out)); have n4_ := Aside0.mk (below_step HB.out hb); clear HO_5 HO_8 HO884 HB; have HO_5 := n0_; have HO_8 := n1_; have HO884 := n2_; have HO887 := n3_; have HB := n4_; clear n0_ n1_ n2_ n3_ n4_; (try clear hb); (try clear hb2); (try clear hk); (try clear hi); (try clear ho0); obtain ⟨Ao67, co67, eo67⟩ := Kd.R_slice HO884.out; subst eo67; obtain ⟨Ao68, co68, eo68⟩ := Kd.R_slice HO887.out; subst eo68) | ((with_reducible refine gate_callee (f := 42) rfl ?_); refine goesL_ (some 95) rfl rfl Try.func42 (by kernel_rfl) rfl #[.slice Ao67 t882.length co67, .slice Ao68 t885.length co68] rfl (by (try simp only [List.map_toArray, List.map_cons, List.map_nil]); first | done | rfl | (simp only [List.length_drop, List.length_take]; rfl)) ?_; (with_reducible refine (delta_Compose.calls _ _ t882 _ _ t885 t888 t889 _ ?side1 ?side2 ?side3 ?side4 A64.out).mono ?_); (case side1 => repeat (first | exact (Kd.R_reads' HO884.out).2.2 | (with_reducible refine Kd.C_alloc ?_ _) | (with_reducible refine Kd.C_drewN ?_ _) | (with_reducible refine Kd.C_drew ?_))); (case side2 => exact (Kd.R_reads' HO884.out).2.1); (case side3 => repeat (first | exact (Kd.R_reads' HO887.out).2.2 | (with_reducible refine Kd.C_alloc ?_ _) | (with_reducible refine Kd.C_drewN ?_ _) | (with_reducible refine Kd.C_drew ?_))); (case side4 => exact (Kd.R_reads' HO887.out).2.1); rintro e w69 ⟨v890, rfl, ho0, hb⟩; refine ⟨_, rfl, ?_⟩; have n0_ := Aside0.mk (Kd.R_elder' HO_5.out (Kd.R_base ho0) hb); have n1_ := Aside0.mk (Kd.R_elder' HO_8.out (Kd.R_base ho0) hb); have n2_ := Aside0.mk (Kd.R_elder' HO884.out (Kd.R_base ho0) hb); have n3_ := Aside0.mk (Kd.R_elder' HO887.out (Kd.R_base ho0) hb); have n4_ := Aside0.mk (Kd.R_lower (Kd.R_new' (Kd.R_new' (Kd.R_new' (Kd.R_new' (Kd.R_newM (M := fun k_ => (w.heap.size ≤ k_)) ho0 (below_size HB.out) (fun k_ h_ => h_)) (Kd.R_lt HO_5.out)) (Kd.R_lt HO_8.out)) (Kd.R_lt HO884.out)) (Kd.R_lt HO887.out)) (below_size HB.out)); have n5_ := Aside0.mk (below_step HB.out hb); clear HO_5 HO_8 HO884 HO887 HB; have HO_5 := n0_; have HO_8 := n1_; have HO884 := n2_; have HO887 := n3_; have HO891 := n4_; have HB := n5_; clear n0_ n1_ n2_ n3_ n4_ n5_; (try clear hb); (try clear hb2); (try clear hk); (try clear hi); (try clear ho0)))
      go_loopg [16, 17, 100] kj19 (fun kq v16 v17 v100 w' => ∃ (x16_2 : List (S70)) (x17_2 : Int) (x100_2 : Int), v17 = .int .i64 x17_2 ∧ v100 = .int .i64 x100_2 ∧ Aside0 (galleylaw13_DeltaBack.l0 kq l0 t888 t889 x16_2 x17_2 t838 (t838.length : Int) x100_2 = some r) ∧ Aside0 (kq ≤ kj19) ∧ Aside0 (Kd.R k70 70 w' w.heap.size (fun k_ => (w.heap.size ≤ k_) ∧ some k_ ≠ (v16 : Value).ownBlock ∧ some k_ ≠ ((.slice Ao28 t838.length co28) : Value).ownBlock) v890 t888) ∧ Aside0 (Kd.R k70 70 w' w.heap.size (fun k_ => (w.heap.size ≤ k_) ∧ some k_ ≠ (v890 : Value).ownBlock ∧ some k_ ≠ ((.slice Ao28 t838.length co28) : Value).ownBlock) v16 x16_2) ∧ Aside0 (Kd.R k70 70 w' w.heap.size (fun k_ => (w.heap.size ≤ k_) ∧ some k_ ≠ (v890 : Value).ownBlock ∧ some k_ ≠ (v16 : Value).ownBlock) (.slice Ao28 t838.length co28) t838) ∧ Aside0 (Below w.heap.size w w'))
      case atStart => exact ⟨(([] : List (S70))), (0), (0), (by first | rfl | (simp; done) | (simp [*]; done) | (simp; exact isEmpty_bne _)), (by first | rfl | (simp; done) | (simp [*]; done) | (simp; exact isEmpty_bne _)), H', ⟨Nat.le_refl _⟩, ⟨by (with_reducible repeat (first | apply Kd.R_alloc | apply Kd.R_drewN | apply Kd.R_drew)); exact Kd.R_mono HO891.out (fun _ hk => ⟨hk.1.1.1.1.1, ⟨(by simp [Value.ownBlock]), hk.1.1.1.2⟩⟩)⟩, ⟨by first | exact Kd.R_nil _ _ _ _ _ | exact Kd.N_nil _ _ _ _ _ | exact Kd.V_nil _ _ _ _ _ | exact Kd.Q_nil _ _ _ _ _ | exact Kd.S_nil _ _ _ _ _⟩, ⟨by (with_reducible repeat (first | apply Kd.R_alloc | apply Kd.R_drewN | apply Kd.R_drew)); exact Kd.R_mono HO_5.out (fun _ hk => ⟨hk.1.1.1.1, ⟨hk.2, (by simp [Value.ownBlock])⟩⟩)⟩, ⟨by repeat (first | (with_reducible first | exact HB.out | apply below_alloc | apply pw_below_drewN | apply below_drew1) | exact HB.out)⟩⟩
      case round =>
       clear H'
       (try clear c1); (try clear c2); (try clear p2); (try clear c4); (try clear c5); (try clear hcv5); (try clear c6); (try clear hcv6); (try clear c12); (try clear c23); (try clear c24); (try clear c25); (try clear c26); (try clear c27); (try clear c42); (try clear c47); (try clear c48); (try clear c50); (try clear c50b0); (try clear c50b1); (try clear c51); (try clear c51b0); (try clear c51b1); (try clear c52); (try clear c52b0); (try clear c52b1); (try clear c53); (try clear c53b0); (try clear c53b1); (try clear c54); (try clear c54b0); (try clear c54b1); (try clear hcv56); (try clear hcv57); (try clear hcv59); (try clear hcv60); (try clear c61); (try clear p2)
       obtain ⟨x16_2, x17_2, x100_2, rfl, rfl, HA, HK2, HO_14, HO_16, HO_98, HB⟩ := hrel
       cases gk with
       | zero => exact absurd HA.out (by simp [galleylaw13_DeltaBack.l0])
       | succ k2 =>
        have H := HA.out
        clear HA
        simp only [galleylaw13_DeltaBack.l0] at H
        by_cases c70 : x100_2 < (t838.length : Int)
        ·
         rw [if_pos c70] at H
         have c70b0 : decide (x100_2 < (t838.length : Int)) = true := decide_eq_true c70
         clear c70
         by_cases c71 : 0 ≤ x100_2
         ·
          rw [if_pos c71] at H
          have c71b0 : decide (0 ≤ x100_2) = true := decide_eq_true c71
          clear c71
          by_cases c72 : x100_2 < (t838.length : Int)
          ·
           rw [if_pos c72] at H
           have c72b0 : decide (x100_2 < (t838.length : Int)) = true := decide_eq_true c72
           clear c72
           by_cases c73 : ((rd_T70 t838 x100_2).f0) = 1
           ·
            rw [if_pos c73] at H
            have c73b0 : (((rd_T70 t838 x100_2).f0) == 1) = true := beq_iff_eq.mpr c73
            have c73b1 : (((rd_T70 t838 x100_2).f0) != 1) = false := bne_eq_false_iff_eq.mpr c73
            clear c73
            by_cases c74 : x16_2.length < 4398046511104
            ·
             rw [if_pos c74] at H
             have LMc74 := Aside0.mk c74
             clear c74
             obtain ⟨y899, hy899⟩ : ∃ y_ : List (S70), y_ = (x16_2 ++ [(⟨(rd_T70 t838 x100_2).f0, (rd_T70 t838 x100_2).f1, (rd_T70 t838 x100_2).f2⟩ : S70)]) := ⟨_, rfl⟩
             replace H : (galleylaw13_DeltaBack.l0 k2 l0 t888 t889 y899 (wrap64 (x17_2 + ((rd_T70 t838 x100_2).f1))) t838 (t838.length : Int) (wrap64 (x100_2 + 1))) = some r := by first | (rw [hy899]; with_reducible exact H) | (have H2_ := (Option.bind_some _ _).symm.trans H; rw [hy899]; with_reducible exact H2_) | (have H2_ := (Option.bind_some _ _).symm.trans H; with_reducible exact H2_) | with_reducible exact H | (rw [hy899]; exact H) | exact H
             have Ny899 := Aside0.mk hy899
             clear hy899
             have H' := Aside0.mk H
             clear H
             have p897 : 0 ≤ (x100_2 : Int) := of_decide_eq_true (by first | (with_reducible assumption) | assumption)
             have q897 : x100_2 < (t838.length : Int) := of_decide_eq_true (by first | (with_reducible assumption) | assumption)
             obtain ⟨ad897, e897, hx897_0, hx897_1, hx897_2⟩ := at_T70 (Kd.R_reads' HO_98.out).2.2 x100_2 p897 q897
             cases e897
             replace p897 := eq_true p897
             replace q897 := eq_true q897
             go_wp2_with (first | ((with_reducible refine gate_dst (N := 19) rfl ?_); refine box_event ?hg (N := 19) ?hd (cs := #[.int .i64 0, .int .i64 0, .string (⟨#[]⟩ : ByteArray)]) (t := 70) ?hr ?_; (case hd => rfl); (case hg => rfl); (case hr => first | (go_simp; done) | (go_simp; rfl)); intro gb898 hg w75 hbox hb; have n0_ := Aside0.mk (Kd.R_below (Kd.R_elderB HO_14.out gb898 (Nat.le_of_eq hg.symm)) hb); have n1_ := Aside0.mk (Kd.R_below (Kd.R_elderB HO_16.out gb898 (Nat.le_of_eq hg.symm)) hb); have n2_ := Aside0.mk (Kd.R_below (Kd.R_elderB HO_98.out gb898 (Nat.le_of_eq hg.symm)) hb); have n3_ := Aside0.mk (below_step HB.out hb); have n4_ := Aside0.mk (hbox); have n5_ := Aside0.mk ((by rw [hg]; exact (below_size HB.out) : w.heap.size ≤ gb898)); have n6_ := Aside0.mk ((by rw [hg]; exact (below_size HB.out) : w.heap.size ≤ gb898)); clear HO_14 HO_16 HO_98 HB; have HO_14 := n0_; have HO_16 := n1_; have HO_98 := n2_; have HB := n3_; have BK898 := n4_; have GW898 := n5_; have GE898 := n6_; clear n0_ n1_ n2_ n3_ n4_ n5_ n6_; clear hb hbox hg; have hcz76_0 : w75.cell? ⟨gb898, 0, none⟩ = some (.int .i64 0) := (blk_cell BK898.out 0).trans rfl; have hcz76_1 : w75.cell? ⟨gb898, 1, none⟩ = some (.int .i64 0) := (blk_cell BK898.out 1).trans rfl; have hcz76_2 : w75.cell? ⟨gb898, 2, none⟩ = some (.string (⟨#[]⟩ : ByteArray)) := (blk_cell BK898.out 2).trans rfl; have hfz76_0 := blk_frozen BK898.out 0; have hfz76_1 := blk_frozen BK898.out 1; have hfz76_2 := blk_frozen BK898.out 2) | ((with_reducible refine gate_builtin (b := .append) (xs := #[.tmp 108, .tmp 110]) rfl ?_); at_builtin; refine Kd.R_append k70 (w0 := w) w.heap.size rfl (.tmp 108) (.tmp 110) 25 70 (.agg #[(.int .i64 0), (.int .i64 0), (.string ⟨#[]⟩)]) 32 rfl Try.underlying25 info70 rfl (by decide) (by omega) u16 x16_2 (⟨(rd_T70 t838 x100_2).f0, (rd_T70 t838 x100_2).f1, (rd_T70 t838 x100_2).f2⟩ : S70) [.int .i64 ((rd_T70 t838 x100_2).f0), .int .i64 ((rd_T70 t838 x100_2).f1), .string ((rd_T70 t838 x100_2).f2)] (fun k_ => (w.heap.size ≤ k_) ∧ some k_ ≠ (v890 : Value).ownBlock ∧ some k_ ≠ (.slice (some ad897) t838.length co28 : Value).ownBlock ∧ k_ ≠ gb898) (fun _ => False) rfl (by first | (go_simp; done) | (go_simp; rfl)) ?aP (fun _ hk => hk.elim) ?aF ?aO ?aB ?aS ?aL ?_; (case aP => exact k70_mkM _ _ _ (⟨(rd_T70 t838 x100_2).f0, (rd_T70 t838 x100_2).f1, (rd_T70 t838 x100_2).f2⟩ : S70)); (case aB => exact (by repeat (first | (with_reducible first | exact HB.out | apply below_alloc | apply pw_below_drewN | apply below_drew1 | refine below_set ?_ GE898.out) | exact HB.out))); (case aF => exact (fun k_ hk => ⟨(Nat.le_trans (below_size (by repeat (first | (with_reducible first | exact HB.out | apply below_alloc | apply pw_below_drewN | apply below_drew1 | refine below_set ?_ GE898.out) | exact HB.out))) hk), Kd.fresh' (Kd.R_lt (by (with_reducible repeat (first | apply Kd.R_alloc | apply Kd.R_drewN | apply Kd.R_drew)); exact (Kd.R_mono (Kd.R_far (p := ⟨gb898, 2, none⟩) (Kd.R_far (p := ⟨gb898, 1, none⟩) (Kd.R_far (p := ⟨gb898, 0, none⟩) (Kd.R_mono HO_14.out (fun k_ hk => (⟨hk, hk.2⟩ : _ ∧ k_ ≠ gb898))) (fun _ hk => hk.2) (.int .i64 ((rd_T70 t838 x100_2).f0))) (fun _ hk => hk.2) (.int .i64 ((rd_T70 t838 x100_2).f1))) (fun _ hk => hk.2) (.string ((rd_T70 t838 x100_2).f2))) (fun _ h_ => h_.1)))) k_ hk, Kd.fresh' (Kd.R_lt (by (with_reducible repeat (first | apply Kd.R_alloc | apply Kd.R_drewN | apply Kd.R_drew)); exact (Kd.R_mono (Kd.R_far (p := ⟨gb898, 2, none⟩) (Kd.R_far (p := ⟨gb898, 1, none⟩) (Kd.R_far (p := ⟨gb898, 0, none⟩) (Kd.R_mono HO_98.out (fun k_ hk => (⟨hk, hk.2⟩ : _ ∧ k_ ≠ gb898))) (fun _ hk => hk.2) (.int .i64 ((rd_T70 t838 x100_2).f0))) (fun _ hk => hk.2) (.int .i64 ((rd_T70 t838 x100_2).f1))) (fun _ hk => hk.2) (.string ((rd_T70 t838 x100_2).f2))) (fun _ h_ => h_.1)))) k_ hk, Kd.freshB (g := gb898) (o := .cells #[.int .i64 ((rd_T70 t838 x100_2).f0), .int .i64 ((rd_T70 t838 x100_2).f1), .string ((rd_T70 t838 x100_2).f2)] 70 (0, 0)) (by (with_reducible repeat (first | refine blk_drewN ?_ _ | refine blk_drew ?_ | refine blk_alloc ?_ _)); refine blk_put (cs := #[.int .i64 ((rd_T70 t838 x100_2).f0), .int .i64 ((rd_T70 t838 x100_2).f1), .string (⟨#[]⟩ : ByteArray)]) ?_ 2 _ rfl; (with_reducible repeat (first | refine blk_drewN ?_ _ | refine blk_drew ?_ | refine blk_alloc ?_ _)); refine blk_put (cs := #[.int .i64 ((rd_T70 t838 x100_2).f0), .int .i64 0, .string (⟨#[]⟩ : ByteArray)]) ?_ 1 _ rfl; (with_reducible repeat (first | refine blk_drewN ?_ _ | refine blk_drew ?_ | refine blk_alloc ?_ _)); refine blk_put (cs := #[.int .i64 0, .int .i64 0, .string (⟨#[]⟩ : ByteArray)]) ?_ 0 _ rfl; (with_reducible repeat (first | refine blk_drewN ?_ _ | refine blk_drew ?_ | refine blk_alloc ?_ _)); exact BK898.out) k_ hk⟩)); (case aO => exact (by (with_reducible repeat (first | apply Kd.R_alloc | apply Kd.R_drewN | apply Kd.R_drew)); exact Kd.R_mono (Kd.R_far (p := ⟨gb898, 2, none⟩) (Kd.R_far (p := ⟨gb898, 1, none⟩) (Kd.R_far (p := ⟨gb898, 0, none⟩) (Kd.R_mono HO_16.out (fun k_ hk => (⟨hk, hk.2⟩ : _ ∧ k_ ≠ gb898))) (fun _ hk => hk.2) (.int .i64 ((rd_T70 t838 x100_2).f0))) (fun _ hk => hk.2) (.int .i64 ((rd_T70 t838 x100_2).f1))) (fun _ hk => hk.2) (.string ((rd_T70 t838 x100_2).f2))) (fun _ hk => ⟨hk.1.1.1, ⟨hk.1.1.2.1, ⟨hk.1.1.2.2, hk.1.2⟩⟩⟩))); (case aS => exact (below_size (by repeat (first | (with_reducible first | exact HB.out | apply below_alloc | apply pw_below_drewN | apply below_drew1 | refine below_set ?_ GE898.out) | exact HB.out)))); (case aL => have := LMc74.out; omega); intro v900 w77 ho hb hg hat; rw [← Ny899.out] at ho; have n0_ := Aside0.mk (Kd.R_after (ok := (fun k_ => (w.heap.size ≤ k_) ∧ some k_ ≠ (.slice (some ad897) t838.length co28 : Value).ownBlock ∧ k_ ≠ gb898)) (by (with_reducible repeat (first | apply Kd.R_alloc | apply Kd.R_drewN | apply Kd.R_drew)); exact Kd.R_mono (Kd.R_far (p := ⟨gb898, 2, none⟩) (Kd.R_far (p := ⟨gb898, 1, none⟩) (Kd.R_far (p := ⟨gb898, 0, none⟩) (Kd.R_mono HO_14.out (fun k_ hk => (⟨hk, hk.2⟩ : _ ∧ k_ ≠ gb898))) (fun _ hk => hk.2) (.int .i64 ((rd_T70 t838 x100_2).f0))) (fun _ hk => hk.2) (.int .i64 ((rd_T70 t838 x100_2).f1))) (fun _ hk => hk.2) (.string ((rd_T70 t838 x100_2).f2))) (fun _ hk => ⟨⟨hk.1.1.1, ⟨hk.1.1.2.2, hk.1.2⟩⟩, hk.1.1.2.1⟩)) hg hat); have n1_ := Aside0.mk (Kd.R_after (ok := (fun k_ => (w.heap.size ≤ k_) ∧ some k_ ≠ (v890 : Value).ownBlock ∧ k_ ≠ gb898)) (by (with_reducible repeat (first | apply Kd.R_alloc | apply Kd.R_drewN | apply Kd.R_drew)); exact Kd.R_mono (Kd.R_far (p := ⟨gb898, 2, none⟩) (Kd.R_far (p := ⟨gb898, 1, none⟩) (Kd.R_far (p := ⟨gb898, 0, none⟩) (Kd.R_mono HO_98.out (fun k_ hk => (⟨hk, hk.2⟩ : _ ∧ k_ ≠ gb898))) (fun _ hk => hk.2) (.int .i64 ((rd_T70 t838 x100_2).f0))) (fun _ hk => hk.2) (.int .i64 ((rd_T70 t838 x100_2).f1))) (fun _ hk => hk.2) (.string ((rd_T70 t838 x100_2).f2))) (fun _ hk => ⟨⟨hk.1.1.1, ⟨hk.1.1.2.1, hk.1.2⟩⟩, hk.1.1.2.2⟩)) hg hat); have n2_ := Aside0.mk (blk_grown (g := gb898) (o := .cells #[.int .i64 ((rd_T70 t838 x100_2).f0), .int .i64 ((rd_T70 t838 x100_2).f1), .string ((rd_T70 t838 x100_2).f2)] 70 (0, 0)) (by (with_reducible repeat (first | refine blk_drewN ?_ _ | refine blk_drew ?_ | refine blk_alloc ?_ _)); refine blk_put (cs := #[.int .i64 ((rd_T70 t838 x100_2).f0), .int .i64 ((rd_T70 t838 x100_2).f1), .string (⟨#[]⟩ : ByteArray)]) ?_ 2 _ rfl; (with_reducible repeat (first | refine blk_drewN ?_ _ | refine blk_drew ?_ | refine blk_alloc ?_ _)); refine blk_put (cs := #[.int .i64 ((rd_T70 t838 x100_2).f0), .int .i64 0, .string (⟨#[]⟩ : ByteArray)]) ?_ 1 _ rfl; (with_reducible repeat (first | refine blk_drewN ?_ _ | refine blk_drew ?_ | refine blk_alloc ?_ _)); refine blk_put (cs := #[.int .i64 0, .int .i64 0, .string (⟨#[]⟩ : ByteArray)]) ?_ 0 _ rfl; (with_reducible repeat (first | refine blk_drewN ?_ _ | refine blk_drew ?_ | refine blk_alloc ?_ _)); exact BK898.out) hg (Kd.R_away HO_16.out (fun _ hk => hk.2))); have n3_ := Aside0.mk (hb); have n4_ := Aside0.mk (ho); clear HO_14 HO_98 BK898 HB HO_16; have HO_14 := n0_; have HO_98 := n1_; have BK898 := n2_; have HB := n3_; have HO901 := n4_; clear n0_ n1_ n2_ n3_ n4_; clear ho hb hg hat; have hcz78_0 : w77.cell? ⟨gb898, 0, none⟩ = some (.int .i64 ((rd_T70 t838 x100_2).f0)) := (blk_cell BK898.out 0).trans rfl; have hcz78_1 : w77.cell? ⟨gb898, 1, none⟩ = some (.int .i64 ((rd_T70 t838 x100_2).f1)) := (blk_cell BK898.out 1).trans rfl; have hcz78_2 : w77.cell? ⟨gb898, 2, none⟩ = some (.string ((rd_T70 t838 x100_2).f2)) := (blk_cell BK898.out 2).trans rfl; have hfz78_0 := blk_frozen BK898.out 0; have hfz78_1 := blk_frozen BK898.out 1; have hfz78_2 := blk_frozen BK898.out 2))
             go_roundg k2
             case measure => have := HJ19.out; have := HK2.out; omega
             case rel => exact ⟨(y899), (wrap64 (x17_2 + ((rd_T70 t838 x100_2).f1))), (wrap64 (x100_2 + 1)), (by first | rfl | (simp; done) | (simp [*]; done) | (simp; exact isEmpty_bne _)), (by first | rfl | (simp; done) | (simp [*]; done) | (simp; exact isEmpty_bne _)), H', ⟨by have := HJ19.out; have := HK2.out; omega⟩, ⟨by (with_reducible repeat (first | apply Kd.R_alloc | apply Kd.R_drewN | apply Kd.R_drew)); exact Kd.R_mono HO_14.out (fun _ hk => ⟨hk.1.1, ⟨hk.2, hk.1.2.1⟩⟩)⟩, ⟨by (with_reducible repeat (first | apply Kd.R_alloc | apply Kd.R_drewN | apply Kd.R_drew)); exact Kd.R_mono HO901.out (fun _ hk => ⟨hk.1, ⟨hk.2.1, hk.2.2.1⟩⟩)⟩, ⟨by (with_reducible repeat (first | apply Kd.R_alloc | apply Kd.R_drewN | apply Kd.R_drew)); exact Kd.R_mono HO_98.out (fun _ hk => ⟨hk.1.1, ⟨hk.1.2.1, hk.2⟩⟩)⟩, ⟨by repeat (first | (with_reducible first | exact HB.out | apply below_alloc | apply pw_below_drewN | apply below_drew1 | refine below_set ?_ GE898.out) | exact HB.out)⟩⟩
            ·
             rw [if_neg c74] at H
             exact absurd H (by simp)
           ·
            rw [if_neg c73] at H
            have c73b0 : (((rd_T70 t838 x100_2).f0) == 1) = false := beq_eq_false_iff_ne.mpr c73
            have c73b1 : (((rd_T70 t838 x100_2).f0) != 1) = true := bne_iff_ne.mpr c73
            by_cases c79 : ((rd_T70 t838 x100_2).f0) = 3
            ·
             rw [if_pos c79] at H
             have c79b0 : (((rd_T70 t838 x100_2).f0) == 3) = true := beq_iff_eq.mpr c79
             have c79b1 : (((rd_T70 t838 x100_2).f0) != 3) = false := bne_eq_false_iff_eq.mpr c79
             clear c79
             by_cases c80 : 0 ≤ x17_2
             ·
              rw [if_pos c80] at H
              have c80b0 := eq_true c80
              have c80b1 : decide (0 ≤ x17_2) = true := decide_eq_true c80
              clear c80
              by_cases c81 : x17_2 ≤ (wrap64 (x17_2 + ((rd_T70 t838 x100_2).f1)))
              ·
               rw [if_pos c81] at H
               have c81b0 := eq_true c81
               have c81b1 : decide (x17_2 ≤ (wrap64 (x17_2 + ((rd_T70 t838 x100_2).f1)))) = true := decide_eq_true c81
               by_cases c82 : (wrap64 (x17_2 + ((rd_T70 t838 x100_2).f1))) ≤ (l0.length : Int)
               ·
                rw [if_pos c82] at H
                have c82b0 := eq_true c82
                have c82b1 : decide ((wrap64 (x17_2 + ((rd_T70 t838 x100_2).f1))) ≤ (l0.length : Int)) = true := decide_eq_true c82
                obtain ⟨y903, hy903⟩ : ∃ y_ : List (S70), y_ = (([(⟨2, 0, strOfNums ((l0.take ((wrap64 (x17_2 + ((rd_T70 t838 x100_2).f1))) : Int).toNat).drop (x17_2 : Int).toNat)⟩ : S70), (⟨(rd_T70 t838 x100_2).f0, (rd_T70 t838 x100_2).f1, (rd_T70 t838 x100_2).f2⟩ : S70)] : List (S70))) := ⟨_, rfl⟩
                replace H : (if x16_2.length + y903.length < 4398046511104 then (galleylaw13_DeltaBack.l0 k2 l0 t888 t889 (x16_2 ++ y903) (wrap64 (x17_2 + ((rd_T70 t838 x100_2).f1))) t838 (t838.length : Int) (wrap64 (x100_2 + 1))) else (none)) = some r := by first | (rw [hy903]; with_reducible exact H) | (have H2_ := (Option.bind_some _ _).symm.trans H; rw [hy903]; with_reducible exact H2_) | (have H2_ := (Option.bind_some _ _).symm.trans H; with_reducible exact H2_) | with_reducible exact H | (rw [hy903]; exact H) | exact H
                have Ny903 := Aside0.mk hy903
                clear hy903
                by_cases c83 : x16_2.length + y903.length < 4398046511104
                ·
                 rw [if_pos c83] at H
                 have LMc83 := Aside0.mk c83
                 clear c83
                 obtain ⟨y906, hy906⟩ : ∃ y_ : List (S70), y_ = (x16_2 ++ y903) := ⟨_, rfl⟩
                 replace H : (galleylaw13_DeltaBack.l0 k2 l0 t888 t889 y906 (wrap64 (x17_2 + ((rd_T70 t838 x100_2).f1))) t838 (t838.length : Int) (wrap64 (x100_2 + 1))) = some r := by first | (rw [hy906]; with_reducible exact H) | (have H2_ := (Option.bind_some _ _).symm.trans H; rw [hy906]; with_reducible exact H2_) | (have H2_ := (Option.bind_some _ _).symm.trans H; with_reducible exact H2_) | with_reducible exact H | (rw [hy906]; exact H) | exact H
                 have Ny906 := Aside0.mk hy906
                 clear hy906
                 have H' := Aside0.mk H
                 clear H
                 have p897 : 0 ≤ (x100_2 : Int) := of_decide_eq_true (by first | (with_reducible assumption) | assumption)
                 have q897 : x100_2 < (t838.length : Int) := of_decide_eq_true (by first | (with_reducible assumption) | assumption)
                 obtain ⟨ad897, e897, hx897_0, hx897_1, hx897_2⟩ := at_T70 (Kd.R_reads' HO_98.out).2.2 x100_2 p897 q897
                 cases e897
                 replace p897 := eq_true p897
                 replace q897 := eq_true q897
                 try go_wp2_with (first | ((with_reducible refine gate_dst (N := 19) rfl ?_); refine box_event ?hg (N := 19) ?hd (cs := #[.int .i64 0, .int .i64 0, .string (⟨#[]⟩ : ByteArray)]) (t := 70) ?hr ?_; (case hd => rfl); (case hg => rfl); (case hr => first | (go_simp; done) | (go_simp; rfl)); intro gb898 hg w84 hbox hb; have n0_ := Aside0.mk (Kd.R_below (Kd.R_elderB HO_14.out gb898 (Nat.le_of_eq hg.symm)) hb); have n1_ := Aside0.mk (Kd.R_below (Kd.R_elderB HO_16.out gb898 (Nat.le_of_eq hg.symm)) hb); have n2_ := Aside0.mk (Kd.R_below (Kd.R_elderB HO_98.out gb898 (Nat.le_of_eq hg.symm)) hb); have n3_ := Aside0.mk (below_step HB.out hb); have n4_ := Aside0.mk (hbox); have n5_ := Aside0.mk ((by rw [hg]; exact (below_size HB.out) : w.heap.size ≤ gb898)); have n6_ := Aside0.mk ((by rw [hg]; exact (below_size HB.out) : w.heap.size ≤ gb898)); clear HO_14 HO_16 HO_98 HB; have HO_14 := n0_; have HO_16 := n1_; have HO_98 := n2_; have HB := n3_; have BK898 := n4_; have GW898 := n5_; have GE898 := n6_; clear n0_ n1_ n2_ n3_ n4_ n5_ n6_; clear hb hbox hg; have hcz85_0 : w84.cell? ⟨gb898, 0, none⟩ = some (.int .i64 0) := (blk_cell BK898.out 0).trans rfl; have hcz85_1 : w84.cell? ⟨gb898, 1, none⟩ = some (.int .i64 0) := (blk_cell BK898.out 1).trans rfl; have hcz85_2 : w84.cell? ⟨gb898, 2, none⟩ = some (.string (⟨#[]⟩ : ByteArray)) := (blk_cell BK898.out 2).trans rfl; have hfz85_0 := blk_frozen BK898.out 0; have hfz85_1 := blk_frozen BK898.out 1; have hfz85_2 := blk_frozen BK898.out 2))
                 have n0_ : Aside0 (Kd.R k70 70 (((w84.setCell ⟨gb898, 0, none⟩ (.int .i64 ((rd_T70 t838 x100_2).f0))).setCell ⟨gb898, 1, none⟩ (.int .i64 ((rd_T70 t838 x100_2).f1))).setCell ⟨gb898, 2, none⟩ (.string ((rd_T70 t838 x100_2).f2))) w.heap.size (fun k_ => (w.heap.size ≤ k_) ∧ some k_ ≠ (u16 : Value).ownBlock ∧ some k_ ≠ (.slice (some ad897) t838.length co28 : Value).ownBlock ∧ k_ ≠ gb898) v890 t888) := ⟨by (with_reducible repeat (first | apply Kd.R_alloc | apply Kd.R_drewN | apply Kd.R_drew)); exact Kd.R_mono (Kd.R_far (p := ⟨gb898, 2, none⟩) (Kd.R_far (p := ⟨gb898, 1, none⟩) (Kd.R_far (p := ⟨gb898, 0, none⟩) (Kd.R_mono HO_14.out (fun k_ hk => (⟨hk, hk.2⟩ : _ ∧ k_ ≠ gb898))) (fun _ hk => hk.2) (.int .i64 ((rd_T70 t838 x100_2).f0))) (fun _ hk => hk.2) (.int .i64 ((rd_T70 t838 x100_2).f1))) (fun _ hk => hk.2) (.string ((rd_T70 t838 x100_2).f2))) (fun _ hk => ⟨hk.1.1.1, ⟨hk.1.1.2.1, ⟨hk.1.1.2.2, hk.1.2⟩⟩⟩)⟩
                 have n1_ : Aside0 (Kd.R k70 70 (((w84.setCell ⟨gb898, 0, none⟩ (.int .i64 ((rd_T70 t838 x100_2).f0))).setCell ⟨gb898, 1, none⟩ (.int .i64 ((rd_T70 t838 x100_2).f1))).setCell ⟨gb898, 2, none⟩ (.string ((rd_T70 t838 x100_2).f2))) w.heap.size (fun k_ => (w.heap.size ≤ k_) ∧ some k_ ≠ (v890 : Value).ownBlock ∧ some k_ ≠ (.slice (some ad897) t838.length co28 : Value).ownBlock ∧ k_ ≠ gb898) u16 x16_2) := ⟨by (with_reducible repeat (first | apply Kd.R_alloc | apply Kd.R_drewN | apply Kd.R_drew)); exact Kd.R_mono (Kd.R_far (p := ⟨gb898, 2, none⟩) (Kd.R_far (p := ⟨gb898, 1, none⟩) (Kd.R_far (p := ⟨gb898, 0, none⟩) (Kd.R_mono HO_16.out (fun k_ hk => (⟨hk, hk.2⟩ : _ ∧ k_ ≠ gb898))) (fun _ hk => hk.2) (.int .i64 ((rd_T70 t838 x100_2).f0))) (fun _ hk => hk.2) (.int .i64 ((rd_T70 t838 x100_2).f1))) (fun _ hk => hk.2) (.string ((rd_T70 t838 x100_2).f2))) (fun _ hk => ⟨hk.1.1.1, ⟨hk.1.1.2.1, ⟨hk.1.1.2.2, hk.1.2⟩⟩⟩)⟩
                 have n2_ : Aside0 (Kd.R k70 70 (((w84.setCell ⟨gb898, 0, none⟩ (.int .i64 ((rd_T70 t838 x100_2).f0))).setCell ⟨gb898, 1, none⟩ (.int .i64 ((rd_T70 t838 x100_2).f1))).setCell ⟨gb898, 2, none⟩ (.string ((rd_T70 t838 x100_2).f2))) w.heap.size (fun k_ => (w.heap.size ≤ k_) ∧ some k_ ≠ (v890 : Value).ownBlock ∧ some k_ ≠ (u16 : Value).ownBlock ∧ k_ ≠ gb898) (.slice (some ad897) t838.length co28) t838) := ⟨by (with_reducible repeat (first | apply Kd.R_alloc | apply Kd.R_drewN | apply Kd.R_drew)); exact Kd.R_mono (Kd.R_far (p := ⟨gb898, 2, none⟩) (Kd.R_far (p := ⟨gb898, 1, none⟩) (Kd.R_far (p := ⟨gb898, 0, none⟩) (Kd.R_mono HO_98.out (fun k_ hk => (⟨hk, hk.2⟩ : _ ∧ k_ ≠ gb898))) (fun _ hk => hk.2) (.int .i64 ((rd_T70 t838 x100_2).f0))) (fun _ hk => hk.2) (.int .i64 ((rd_T70 t838 x100_2).f1))) (fun _ hk => hk.2) (.string ((rd_T70 t838 x100_2).f2))) (fun _ hk => ⟨hk.1.1.1, ⟨hk.1.1.2.1, ⟨hk.1.1.2.2, hk.1.2⟩⟩⟩)⟩
                 have n3_ : Aside0 ((((w84.setCell ⟨gb898, 0, none⟩ (.int .i64 ((rd_T70 t838 x100_2).f0))).setCell ⟨gb898, 1, none⟩ (.int .i64 ((rd_T70 t838 x100_2).f1))).setCell ⟨gb898, 2, none⟩ (.string ((rd_T70 t838 x100_2).f2))).heap[gb898]? = some (.cells #[.int .i64 ((rd_T70 t838 x100_2).f0), .int .i64 ((rd_T70 t838 x100_2).f1), .string ((rd_T70 t838 x100_2).f2)] 70 (0, 0))) := ⟨by (with_reducible repeat (first | refine blk_drewN ?_ _ | refine blk_drew ?_ | refine blk_alloc ?_ _)); refine blk_put (cs := #[.int .i64 ((rd_T70 t838 x100_2).f0), .int .i64 ((rd_T70 t838 x100_2).f1), .string (⟨#[]⟩ : ByteArray)]) ?_ 2 _ rfl; (with_reducible repeat (first | refine blk_drewN ?_ _ | refine blk_drew ?_ | refine blk_alloc ?_ _)); refine blk_put (cs := #[.int .i64 ((rd_T70 t838 x100_2).f0), .int .i64 0, .string (⟨#[]⟩ : ByteArray)]) ?_ 1 _ rfl; (with_reducible repeat (first | refine blk_drewN ?_ _ | refine blk_drew ?_ | refine blk_alloc ?_ _)); refine blk_put (cs := #[.int .i64 0, .int .i64 0, .string (⟨#[]⟩ : ByteArray)]) ?_ 0 _ rfl; (with_reducible repeat (first | refine blk_drewN ?_ _ | refine blk_drew ?_ | refine blk_alloc ?_ _)); exact BK898.out⟩
                 have n4_ : Aside0 (Below w.heap.size w (((w84.setCell ⟨gb898, 0, none⟩ (.int .i64 ((rd_T70 t838 x100_2).f0))).setCell ⟨gb898, 1, none⟩ (.int .i64 ((rd_T70 t838 x100_2).f1))).setCell ⟨gb898, 2, none⟩ (.string ((rd_T70 t838 x100_2).f2)))) := ⟨by repeat (first | (with_reducible first | exact HB.out | apply below_alloc | apply pw_below_drewN | apply below_drew1 | refine below_set ?_ GE898.out) | exact HB.out)⟩
                 (try clear HO_14)
                 (try clear HO_16)
                 (try clear HO_98)
                 (try clear BK898)
                 (try clear HB)
                 generalize (((w84.setCell ⟨gb898, 0, none⟩ (.int .i64 ((rd_T70 t838 x100_2).f0))).setCell ⟨gb898, 1, none⟩ (.int .i64 ((rd_T70 t838 x100_2).f1))).setCell ⟨gb898, 2, none⟩ (.string ((rd_T70 t838 x100_2).f2))) = w86 at n0_ n1_ n2_ n3_ n4_ ⊢
                 have HO_14 := n0_
                 have HO_16 := n1_
                 have HO_98 := n2_
                 have BK898 := n3_
                 have HB := n4_
                 clear n0_ n1_ n2_ n3_ n4_
                 have n0_ := Aside0.mk (Kd.R_drew HO_14.out)
                 have n1_ := Aside0.mk (Kd.R_drew HO_16.out)
                 have n2_ := Aside0.mk (Kd.R_drew HO_98.out)
                 have n3_ := Aside0.mk (blk_drew BK898.out)
                 have n4_ := Aside0.mk (below_drew1 HB.out)
                 clear HO_14
                 clear HO_16
                 clear HO_98
                 clear BK898
                 clear HB
                 have HO_14 := n0_
                 have HO_16 := n1_
                 have HO_98 := n2_
                 have BK898 := n3_
                 have HB := n4_
                 clear n0_ n1_ n2_ n3_ n4_
                 obtain ⟨i088, hi088, _, hsz88, _⟩ := info_parts info5
                 obtain ⟨A88, hcut88, hA88, hC88⟩ := print_mid_of (P := Try.prog) (Value.int .u8) 0 23 5 .i64 .i64 Try.underlying23 hi088 hsz88 A0 c0 l0 x17_2 (wrap64 (x17_2 + ((rd_T70 t838 x100_2).f1))) (of_decide_eq_true (by first | (with_reducible assumption) | assumption)) (by first | omega | exact of_decide_eq_true (by first | (with_reducible assumption) | assumption)) (of_decide_eq_true (by first | (with_reducible assumption) | assumption)) HC0.out
                 have HR902 := Aside0.mk (Kd.C_of_reads (h1 := fun _ => rfl) (hA88 _ (Kd.reads_of_C HR0.out)))
                 have HC902 := Aside0.mk hC88
                 clear hA88 hC88 hi088 hsz88
                 have hcv89 := Kd.C_string (P := Try.prog) (A := A88) (c := (c0 - x17_2.toNat)) Try.underlying23 Try.underlying5 Try.underlying9 (Kd.C_below HR902.out HB.out)
                 have hq89 : (wrap64 (x17_2 + (rd_T70 t838 x100_2).f1)) ≤ (l0.length : Int) := of_decide_eq_true (by first | (with_reducible assumption) | assumption)
                 have hlen89 : (List.drop x17_2.toNat (List.take (wrap64 (x17_2 + (rd_T70 t838 x100_2).f1)).toNat l0)).length = (wrap64 (x17_2 + (rd_T70 t838 x100_2).f1)).toNat - x17_2.toNat := by rw [List.length_drop, List.length_take]; omega
                 rw [hlen89] at hcv89
                 replace hq89 := eq_true hq89
                 refine start_ (n := 14) (S := fun w' => w'.cell? ⟨gb898, 0, none⟩ = some (.int .i64 ((rd_T70 t838 x100_2).f0)) ∧ w'.cell? ⟨gb898, 1, none⟩ = some (.int .i64 ((rd_T70 t838 x100_2).f1)) ∧ w'.cell? ⟨gb898, 2, none⟩ = some (.string ((rd_T70 t838 x100_2).f2)) ∧ (convert 23 9 (Value.slice A88 ((wrap64 (x17_2 + (rd_T70 t838 x100_2).f1)).toNat - x17_2.toNat) (c0 - x17_2.toNat))).run Try.prog w' = .ok (.string (strOfNums ((l0.take ((wrap64 (x17_2 + ((rd_T70 t838 x100_2).f1))) : Int).toNat).drop (x17_2 : Int).toNat))) w') (ds := []) #[false, false, false, false, false, false, false, false, false, false, false, false, false, false] (by kernel_rfl) rfl rfl ⟨(blk_cell BK898.out 0).trans rfl, (blk_cell BK898.out 1).trans rfl, (blk_cell BK898.out 2).trans rfl, hcv89⟩ (fun hHeld => ?_); refine with_tabW galleylaw13_DeltaBack.tab23 galleylaw13_DeltaBack.bits23 (fun HT_ HW_ => ?_)
                 generalize w86.drew = w87 at HO_14 HO_16 HO_98 BK898 HB HR902 hHeld ⊢
                 refine pure_ (i := 0) (N := some 118) (v := ?_) (a' := ?_) #[true, false, false, false, false, false, false, false, false, false, false, false, false, false] rfl rfl (any_of HT_.out (by kernel_rfl)) (fun _ _ _ h => h) (Or.inl ⟨by rfl, ?_⟩) ?_ ?_
                 rotate_left
                 ·
                  intro w'
                  go_simp
                  with_reducible rfl
                 rotate_left
                 ·
                  simp only [Act.put, List.setIfInBounds_toArray, List.set_cons_zero, List.set_cons_succ, i64_w, i32_w]
                  rfl
                 refine pure_ (i := 1) (N := some 119) (v := ?_) (a' := ?_) #[true, true, false, false, false, false, false, false, false, false, false, false, false, false] rfl rfl (any_of HT_.out (by kernel_rfl)) (fun _ _ _ h => h) (Or.inl ⟨by rfl, ?_⟩) ?_ ?_
                 rotate_left
                 ·
                  intro w'
                  go_simp
                  with_reducible rfl
                 rotate_left
                 ·
                  simp only [Act.put, List.setIfInBounds_toArray, List.set_cons_zero, List.set_cons_succ, i64_w, i32_w]
                  rfl
                 refine pure_ (i := 2) (N := some 120) (v := ?_) (a' := ?_) #[true, true, true, false, false, false, false, false, false, false, false, false, false, false] rfl rfl (any_of HT_.out (by kernel_rfl)) (fun _ _ _ h => h) (Or.inl ⟨by rfl, ?_⟩) ?_ ?_
                 rotate_left
                 ·
                  intro w'
                  go_simp
                  with_reducible rfl
                 rotate_left
                 ·
                  simp only [Act.put, List.setIfInBounds_toArray, List.set_cons_zero, List.set_cons_succ, i64_w, i32_w]
                  rfl
                 refine pure_ (i := 3) (N := some 121) (v := ?_) (a' := ?_) #[true, true, true, true, false, false, false, false, false, false, false, false, false, false] rfl rfl (any_of HT_.out (by kernel_rfl)) (fun _ _ _ h => h) (Or.inl ⟨by rfl, ?_⟩) ?_ ?_
                 rotate_left
                 ·
                  intro w'
                  go_simp
                  with_reducible rfl
                 rotate_left
                 ·
                  simp only [Act.put, List.setIfInBounds_toArray, List.set_cons_zero, List.set_cons_succ, i64_w, i32_w]
                  rfl
                 refine pure_ (i := 4) (N := some 122) (v := ?_) (a' := ?_) #[true, true, true, true, true, false, false, false, false, false, false, false, false, false] rfl rfl (any_of HT_.out (by kernel_rfl)) (fun _ _ _ h => h) (Or.inl ⟨by rfl, ?_⟩) ?_ ?_
                 rotate_left
                 ·
                  intro w'
                  go_simp
                  with_reducible rfl
                 rotate_left
                 ·
                  simp only [Act.put, List.setIfInBounds_toArray, List.set_cons_zero, List.set_cons_succ, i64_w, i32_w]
                  rfl
                 refine take_ (i := 5) (N := some 123) (v := ?_) (a' := ?_) #[true, true, true, true, true, true, false, false, false, false, false, false, false, false] rfl rfl (take_ofW HT_.out HW_.out (by kernel_rfl)) (fun _ _ _ h => h) (Or.inl ⟨by rfl, ?_⟩) hHeld ?_ ?_
                 rotate_left
                 ·
                  rintro w' ⟨s0, s1, s2, s3⟩
                  go_simp
                  with_reducible rfl
                 rotate_left
                 ·
                  simp only [Act.put, List.setIfInBounds_toArray, List.set_cons_zero, List.set_cons_succ, i64_w, i32_w]
                  rfl
                 refine pure_ (i := 6) (N := some 124) (v := ?_) (a' := ?_) #[true, true, true, true, true, true, true, false, false, false, false, false, false, false] rfl rfl (any_of HT_.out (by kernel_rfl)) (fun _ _ _ h => h) (Or.inl ⟨by rfl, ?_⟩) ?_ ?_
                 rotate_left
                 ·
                  intro w'
                  go_simp
                  with_reducible rfl
                 rotate_left
                 ·
                  simp only [Act.put, List.setIfInBounds_toArray, List.set_cons_zero, List.set_cons_succ, i64_w, i32_w]
                  rfl
                 refine pure_ (i := 7) (N := some 125) (v := ?_) (a' := ?_) #[true, true, true, true, true, true, true, true, false, false, false, false, false, false] rfl rfl (any_of HT_.out (by kernel_rfl)) (fun _ _ _ h => h) (Or.inl ⟨by rfl, ?_⟩) ?_ ?_
                 rotate_left
                 ·
                  intro w'
                  go_simp
                  with_reducible rfl
                 rotate_left
                 ·
                  simp only [Act.put, List.setIfInBounds_toArray, List.set_cons_zero, List.set_cons_succ, i64_w, i32_w]
                  rfl
                 refine take_ (i := 8) (N := some 126) (v := ?_) (a' := ?_) #[true, true, true, true, true, true, true, true, true, false, false, false, false, false] rfl rfl (take_ofW HT_.out HW_.out (by kernel_rfl)) (fun _ _ _ h => h) (Or.inl ⟨by rfl, ?_⟩) hHeld ?_ ?_
                 rotate_left
                 ·
                  rintro w' ⟨s0, s1, s2, s3⟩
                  go_simp
                  with_reducible rfl
                 rotate_left
                 ·
                  simp only [Act.put, List.setIfInBounds_toArray, List.set_cons_zero, List.set_cons_succ, i64_w, i32_w]
                  rfl
                 refine pure_ (i := 9) (N := some 127) (v := ?_) (a' := ?_) #[true, true, true, true, true, true, true, true, true, true, false, false, false, false] rfl rfl (any_of HT_.out (by kernel_rfl)) (fun _ _ _ h => h) (Or.inl ⟨by rfl, ?_⟩) ?_ ?_
                 rotate_left
                 ·
                  intro w'
                  go_simp
                  with_reducible rfl
                 rotate_left
                 ·
                  simp only [Act.put, List.setIfInBounds_toArray, List.set_cons_zero, List.set_cons_succ, i64_w, i32_w]
                  rfl
                 refine take_ (i := 10) (N := some 128) (v := ?_) (a' := ?_) #[true, true, true, true, true, true, true, true, true, true, true, false, false, false] rfl rfl (take_ofW HT_.out HW_.out (by kernel_rfl)) (fun _ _ _ h => h) (Or.inl ⟨by rfl, ?_⟩) hHeld ?_ ?_
                 rotate_left
                 ·
                  rintro w' ⟨s0, s1, s2, s3⟩
                  go_simp
                  with_reducible rfl
                 rotate_left
                 ·
                  simp only [Act.put, List.setIfInBounds_toArray, List.set_cons_zero, List.set_cons_succ, i64_w, i32_w]
                  rfl
                 refine one_ (i := 11) (N := some 129) #[true, true, true, true, true, true, true, true, true, true, true, true, false, false] rfl rfl (one_of HT_.out (by kernel_rfl)) (by decide) (fun K hK => ?_)
                 refine Kd.R_lit_step k70 _ 70 ?hg (N := 129) ?hd (xs := ([(⟨2, 0, strOfNums ((l0.take ((wrap64 (x17_2 + ((rd_T70 t838 x100_2).f1))) : Int).toNat).drop (x17_2 : Int).toNat)⟩ : S70), (⟨(rd_T70 t838 x100_2).f0, (rd_T70 t838 x100_2).f1, (rd_T70 t838 x100_2).f2⟩ : S70)] : List (S70))) (inner := [.int .i64 2, .int .i64 0, .string (strOfNums ((l0.take ((wrap64 (x17_2 + ((rd_T70 t838 x100_2).f1))) : Int).toNat).drop (x17_2 : Int).toNat)), .int .i64 ((rd_T70 t838 x100_2).f0), .int .i64 ((rd_T70 t838 x100_2).f1), .string ((rd_T70 t838 x100_2).f2)]) (ok := fun _ => True) (okp := fun _ => True) ?hr ?hp (fun _ hk => hk) trivial (Below.refl _ _) (Nat.le_refl _) (by simp) ?_; (case hd => rfl); (case hg => rfl); (case hr => first | (go_simp; done) | (go_simp; rfl)); (case hp => exact (Reps.c3 (show Kd.M k70 _ _ _ (⟨2, 0, strOfNums ((l0.take ((wrap64 (x17_2 + ((rd_T70 t838 x100_2).f1))) : Int).toNat).drop (x17_2 : Int).toNat)⟩ : S70) [.int .i64 2, .int .i64 0, .string (strOfNums ((l0.take ((wrap64 (x17_2 + ((rd_T70 t838 x100_2).f1))) : Int).toNat).drop (x17_2 : Int).toNat))] from (k70_mkM _ _ _ (⟨2, 0, strOfNums ((l0.take ((wrap64 (x17_2 + ((rd_T70 t838 x100_2).f1))) : Int).toNat).drop (x17_2 : Int).toNat)⟩ : S70) )) (Reps.c3 (show Kd.M k70 _ _ _ (⟨(rd_T70 t838 x100_2).f0, (rd_T70 t838 x100_2).f1, (rd_T70 t838 x100_2).f2⟩ : S70) [.int .i64 ((rd_T70 t838 x100_2).f0), .int .i64 ((rd_T70 t838 x100_2).f1), .string ((rd_T70 t838 x100_2).f2)] from (k70_mkM _ _ _ (⟨(rd_T70 t838 x100_2).f0, (rd_T70 t838 x100_2).f1, (rd_T70 t838 x100_2).f2⟩ : S70) )) (Reps.none _ _))))
                 intro v904 w90 ho91 hb hg_ hnew_
                 clear hg_ hnew_
                 (first | rw [← Ny903.out] at ho91 | (simp only [Int.reduceToNat] at ho91; rw [← Ny903.out] at ho91))
                 have n0_ := Aside0.mk (Kd.R_elder' HO_14.out (Kd.R_base ho91) hb)
                 have n1_ := Aside0.mk (Kd.R_elder' HO_16.out (Kd.R_base ho91) hb)
                 have n2_ := Aside0.mk (Kd.R_elder' HO_98.out (Kd.R_base ho91) hb)
                 have n3_ := Aside0.mk (Kd.R_lower (Kd.R_newB (Kd.R_new' (Kd.R_new' (Kd.R_new' (Kd.R_newM (M := fun k_ => (w.heap.size ≤ k_)) ho91 (below_size (by repeat (first | (with_reducible first | exact HB.out | apply below_alloc | apply pw_below_drewN | apply below_drew1 | refine below_set ?_ GE898.out) | exact HB.out))) (fun k_ h_ => h_)) (Kd.R_lt HO_14.out)) (Kd.R_lt HO_16.out)) (Kd.R_lt HO_98.out)) (g := gb898) (o := .cells #[.int .i64 ((rd_T70 t838 x100_2).f0), .int .i64 ((rd_T70 t838 x100_2).f1), .string ((rd_T70 t838 x100_2).f2)] 70 (0, 0)) (by (with_reducible repeat (first | refine blk_drewN ?_ _ | refine blk_drew ?_ | refine blk_alloc ?_ _)); exact BK898.out)) (below_size (by repeat (first | (with_reducible first | exact HB.out | apply below_alloc | apply pw_below_drewN | apply below_drew1 | refine below_set ?_ GE898.out) | exact HB.out))))
                 have n4_ := Aside0.mk (blk_below (g := gb898) (o := .cells #[.int .i64 ((rd_T70 t838 x100_2).f0), .int .i64 ((rd_T70 t838 x100_2).f1), .string ((rd_T70 t838 x100_2).f2)] 70 (0, 0)) (by (with_reducible repeat (first | refine blk_drewN ?_ _ | refine blk_drew ?_ | refine blk_alloc ?_ _)); exact BK898.out) hb)
                 have n5_ := Aside0.mk (below_step (by repeat (first | (with_reducible first | exact HB.out | apply below_alloc | apply pw_below_drewN | apply below_drew1 | refine below_set ?_ GE898.out) | exact HB.out)) hb)
                 clear HO_14
                 clear HO_16
                 clear HO_98
                 clear BK898
                 clear HB
                 have HO_14 := n0_
                 have HO_16 := n1_
                 have HO_98 := n2_
                 have HO905 := n3_
                 have BK898 := n4_
                 have HB := n5_
                 clear n0_ n1_ n2_ n3_ n4_ n5_
                 clear hb ho91
                 obtain ⟨Ao93, co93, eo93⟩ := Kd.R_slice HO905.out
                 (first | subst eo93 | (injection eo93 with f1_ f2_ f3_; have f4_ := f1_.symm; have f5_ := f3_.symm; clear f1_ f2_ f3_; subst f4_; subst f5_))
                 refine hK.out _ _ ⟨(blk_cell BK898.out 0).trans rfl, (blk_cell BK898.out 1).trans rfl, (blk_cell BK898.out 2).trans rfl, by rw [← hlen89]; exact Kd.C_string (P := Try.prog) (A := A88) (c := (c0 - x17_2.toNat)) Try.underlying23 Try.underlying5 Try.underlying9 (Kd.C_below HR902.out HB.out)⟩ (fun hHeld => ?_)
                 clear hK K
                 refine norm_ (a' := ?_) ?_ ?_
                 rotate_left
                 ·
                  show Act.put _ (some 129) _ = _
                  simp only [Act.put, List.setIfInBounds_toArray, List.set_cons_zero, List.set_cons_succ, i64_w, i32_w]
                  rfl
                 refine one_ (i := 12) (N := some 130) #[true, true, true, true, true, true, true, true, true, true, true, true, true, false] rfl rfl (one_of HT_.out (by kernel_rfl)) (by decide) (fun K hK => ?_)
                 refine Kd.R_append_rows_step k70 (w0 := w) w.heap.size (by rfl) (.tmp 118) (.tmp 129) 25 70 (.agg #[(.int .i64 0), (.int .i64 0), (.string ⟨#[]⟩)]) 32 rfl Try.underlying25 info70 rfl (by decide) (by omega) u16 x16_2 y903 _ _ _ (fun k_ => (w.heap.size ≤ k_) ∧ some k_ ≠ (v890 : Value).ownBlock ∧ some k_ ≠ (.slice (some ad897) t838.length co28 : Value).ownBlock ∧ some k_ ≠ (.slice Ao93 y903.length co93 : Value).ownBlock ∧ k_ ≠ gb898) (fun _ => False) rfl rfl ?aO ?aR (fun _ _ h => h) (fun _ h => h.elim) ?aF ?aB ?aS ?aL ?_
                 (case aR => repeat (first | exact (Kd.R_reads' HO905.out).2.2 | (with_reducible refine Kd.C_alloc ?_ _) | (with_reducible refine Kd.C_drewN ?_ _) | (with_reducible refine Kd.C_drew ?_)))
                 (case aB => exact (by repeat (first | (with_reducible first | exact HB.out | apply below_alloc | apply pw_below_drewN | apply below_drew1 | refine below_set ?_ GE898.out) | exact HB.out)))
                 (case aF => exact (fun k_ hk => ⟨(Nat.le_trans (below_size (by repeat (first | (with_reducible first | exact HB.out | apply below_alloc | apply pw_below_drewN | apply below_drew1 | refine below_set ?_ GE898.out) | exact HB.out))) hk), Kd.fresh' (Kd.R_lt HO_14.out) k_ hk, Kd.fresh' (Kd.R_lt HO_98.out) k_ hk, Kd.fresh' (Kd.R_lt HO905.out) k_ hk, Kd.freshB (g := gb898) (o := .cells #[.int .i64 ((rd_T70 t838 x100_2).f0), .int .i64 ((rd_T70 t838 x100_2).f1), .string ((rd_T70 t838 x100_2).f2)] 70 (0, 0)) (by (with_reducible repeat (first | refine blk_drewN ?_ _ | refine blk_drew ?_ | refine blk_alloc ?_ _)); exact BK898.out) k_ hk⟩))
                 (case aO => exact (by (with_reducible repeat (first | apply Kd.R_alloc | apply Kd.R_drewN | apply Kd.R_drew)); exact Kd.R_mono HO_16.out (fun _ hk => ⟨hk.1.1, ⟨hk.1.2.1, ⟨hk.1.2.2.1, ⟨hk.2, hk.1.2.2.2⟩⟩⟩⟩)))
                 (case aS => exact (below_size (by repeat (first | (with_reducible first | exact HB.out | apply below_alloc | apply pw_below_drewN | apply below_drew1 | refine below_set ?_ GE898.out) | exact HB.out))))
                 (case aL => have := LMc83.out; omega)
                 intro v907 w92 ho hb hg hat
                 rw [← Ny906.out] at ho
                 have n0_ := Aside0.mk (Kd.R_after (ok := (fun k_ => (w.heap.size ≤ k_) ∧ some k_ ≠ (.slice (some ad897) t838.length co28 : Value).ownBlock ∧ some k_ ≠ (.slice Ao93 y903.length co93 : Value).ownBlock ∧ k_ ≠ gb898)) (by (with_reducible repeat (first | apply Kd.R_alloc | apply Kd.R_drewN | apply Kd.R_drew)); exact Kd.R_mono HO_14.out (fun _ hk => ⟨⟨hk.1.1, ⟨hk.1.2.2.1, ⟨hk.2, hk.1.2.2.2⟩⟩⟩, hk.1.2.1⟩)) hg hat)
                 have n1_ := Aside0.mk (Kd.R_after (ok := (fun k_ => (w.heap.size ≤ k_) ∧ some k_ ≠ (v890 : Value).ownBlock ∧ some k_ ≠ (.slice Ao93 y903.length co93 : Value).ownBlock ∧ k_ ≠ gb898)) (by (with_reducible repeat (first | apply Kd.R_alloc | apply Kd.R_drewN | apply Kd.R_drew)); exact Kd.R_mono HO_98.out (fun _ hk => ⟨⟨hk.1.1, ⟨hk.1.2.1, ⟨hk.2, hk.1.2.2.2⟩⟩⟩, hk.1.2.2.1⟩)) hg hat)
                 have n2_ := Aside0.mk (blk_grown (g := gb898) (o := .cells #[.int .i64 ((rd_T70 t838 x100_2).f0), .int .i64 ((rd_T70 t838 x100_2).f1), .string ((rd_T70 t838 x100_2).f2)] 70 (0, 0)) (by (with_reducible repeat (first | refine blk_drewN ?_ _ | refine blk_drew ?_ | refine blk_alloc ?_ _)); exact BK898.out) hg (Kd.R_away HO_16.out (fun _ hk => hk.1.2.2.2)))
                 have n3_ := Aside0.mk (Kd.R_after (ok := (fun k_ => (w.heap.size ≤ k_) ∧ some k_ ≠ (v890 : Value).ownBlock ∧ some k_ ≠ (.slice (some ad897) t838.length co28 : Value).ownBlock ∧ k_ ≠ gb898)) (by (with_reducible repeat (first | apply Kd.R_alloc | apply Kd.R_drewN | apply Kd.R_drew)); exact Kd.R_mono HO905.out (fun _ hk => ⟨⟨hk.1.1.1.1.1, ⟨hk.1.1.1.2, ⟨hk.1.2, hk.2⟩⟩⟩, hk.1.1.2⟩)) hg hat)
                 have n4_ := Aside0.mk (hb)
                 have n5_ := Aside0.mk (ho)
                 clear HO_14
                 clear HO_98
                 clear BK898
                 clear HO905
                 clear HB
                 clear HO_16
                 have HO_14 := n0_
                 have HO_98 := n1_
                 have BK898 := n2_
                 have HO905 := n3_
                 have HB := n4_
                 have HO908 := n5_
                 clear n0_ n1_ n2_ n3_ n4_ n5_
                 clear ho hb hg hat
                 refine hK.out _ _ ⟨(blk_cell BK898.out 0).trans rfl, (blk_cell BK898.out 1).trans rfl, (blk_cell BK898.out 2).trans rfl, by rw [← hlen89]; exact Kd.C_string (P := Try.prog) (A := A88) (c := (c0 - x17_2.toNat)) Try.underlying23 Try.underlying5 Try.underlying9 (Kd.C_below HR902.out HB.out)⟩ (fun hHeld => ?_)
                 clear hK K
                 refine norm_ (a' := ?_) ?_ ?_
                 rotate_left
                 ·
                  show Act.put _ (some 130) _ = _
                  simp only [Act.put, List.setIfInBounds_toArray, List.set_cons_zero, List.set_cons_succ, i64_w, i32_w]
                  rfl
                 refine pure_ (i := 13) (N := some 16) (v := ?_) (a' := ?_) #[true, true, true, true, true, true, true, true, true, true, true, true, true, true] rfl rfl (any_of HT_.out (by kernel_rfl)) (fun _ _ _ h => h) (Or.inl ⟨by rfl, ?_⟩) ?_ ?_
                 rotate_left
                 ·
                  intro w'
                  go_simp
                  with_reducible rfl
                 rotate_left
                 ·
                  simp only [Act.put, List.setIfInBounds_toArray, List.set_cons_zero, List.set_cons_succ, i64_w, i32_w]
                  rfl
                 refine done_ (done_of HT_.out (by kernel_rfl)) ?_
                 have hcz94_0 : w92.cell? ⟨gb898, 0, none⟩ = some (.int .i64 ((rd_T70 t838 x100_2).f0)) := (blk_cell BK898.out 0).trans rfl
                 have hcz94_1 : w92.cell? ⟨gb898, 1, none⟩ = some (.int .i64 ((rd_T70 t838 x100_2).f1)) := (blk_cell BK898.out 1).trans rfl
                 have hcz94_2 : w92.cell? ⟨gb898, 2, none⟩ = some (.string ((rd_T70 t838 x100_2).f2)) := (blk_cell BK898.out 2).trans rfl
                 have hfz94_0 := blk_frozen BK898.out 0
                 have hfz94_1 := blk_frozen BK898.out 1
                 have hfz94_2 := blk_frozen BK898.out 2
                 try go_wp2
                 go_roundg k2
                 case measure => have := HJ19.out; have := HK2.out; omega
                 case rel => exact ⟨(y906), (wrap64 (x17_2 + ((rd_T70 t838 x100_2).f1))), (wrap64 (x100_2 + 1)), (by first | rfl | (simp; done) | (simp [*]; done) | (simp; exact isEmpty_bne _)), (by first | rfl | (simp; done) | (simp [*]; done) | (simp; exact isEmpty_bne _)), H', ⟨by have := HJ19.out; have := HK2.out; omega⟩, ⟨by (with_reducible repeat (first | apply Kd.R_alloc | apply Kd.R_drewN | apply Kd.R_drew)); exact Kd.R_mono HO_14.out (fun _ hk => ⟨hk.1.1, ⟨hk.2, hk.1.2.1⟩⟩)⟩, ⟨by (with_reducible repeat (first | apply Kd.R_alloc | apply Kd.R_drewN | apply Kd.R_drew)); exact Kd.R_mono HO908.out (fun _ hk => ⟨hk.1, ⟨hk.2.1, hk.2.2.1⟩⟩)⟩, ⟨by (with_reducible repeat (first | apply Kd.R_alloc | apply Kd.R_drewN | apply Kd.R_drew)); exact Kd.R_mono HO_98.out (fun _ hk => ⟨hk.1.1, ⟨hk.1.2.1, hk.2⟩⟩)⟩, ⟨by repeat (first | (with_reducible first | exact HB.out | apply below_alloc | apply pw_below_drewN | apply below_drew1 | refine below_set ?_ GE898.out) | exact HB.out)⟩⟩
                ·
                 rw [if_neg c83] at H
                 exact absurd H (by simp)
               ·
                rw [if_neg c82] at H
                exact absurd H (by simp)
              ·
               rw [if_neg c81] at H
               exact absurd H (by simp)
             ·
              rw [if_neg c80] at H
              exact absurd H (by simp)
            ·
             rw [if_neg c79] at H
             have c79b0 : (((rd_T70 t838 x100_2).f0) == 3) = false := beq_eq_false_iff_ne.mpr c79
             have c79b1 : (((rd_T70 t838 x100_2).f0) != 3) = true := bne_iff_ne.mpr c79
             have H' := Aside0.mk H
             clear H
             have p897 : 0 ≤ (x100_2 : Int) := of_decide_eq_true (by first | (with_reducible assumption) | assumption)
             have q897 : x100_2 < (t838.length : Int) := of_decide_eq_true (by first | (with_reducible assumption) | assumption)
             obtain ⟨ad897, e897, hx897_0, hx897_1, hx897_2⟩ := at_T70 (Kd.R_reads' HO_98.out).2.2 x100_2 p897 q897
             cases e897
             replace p897 := eq_true p897
             replace q897 := eq_true q897
             go_wp2_with (first | ((with_reducible refine gate_dst (N := 19) rfl ?_); refine box_event ?hg (N := 19) ?hd (cs := #[.int .i64 0, .int .i64 0, .string (⟨#[]⟩ : ByteArray)]) (t := 70) ?hr ?_; (case hd => rfl); (case hg => rfl); (case hr => first | (go_simp; done) | (go_simp; rfl)); intro gb898 hg w95 hbox hb; have n0_ := Aside0.mk (Kd.R_below (Kd.R_elderB HO_14.out gb898 (Nat.le_of_eq hg.symm)) hb); have n1_ := Aside0.mk (Kd.R_below (Kd.R_elderB HO_16.out gb898 (Nat.le_of_eq hg.symm)) hb); have n2_ := Aside0.mk (Kd.R_below (Kd.R_elderB HO_98.out gb898 (Nat.le_of_eq hg.symm)) hb); have n3_ := Aside0.mk (below_step HB.out hb); have n4_ := Aside0.mk (hbox); have n5_ := Aside0.mk ((by rw [hg]; exact (below_size HB.out) : w.heap.size ≤ gb898)); have n6_ := Aside0.mk ((by rw [hg]; exact (below_size HB.out) : w.heap.size ≤ gb898)); clear HO_14 HO_16 HO_98 HB; have HO_14 := n0_; have HO_16 := n1_; have HO_98 := n2_; have HB := n3_; have BK898 := n4_; have GW898 := n5_; have GE898 := n6_; clear n0_ n1_ n2_ n3_ n4_ n5_ n6_; clear hb hbox hg; have hcz96_0 : w95.cell? ⟨gb898, 0, none⟩ = some (.int .i64 0) := (blk_cell BK898.out 0).trans rfl; have hcz96_1 : w95.cell? ⟨gb898, 1, none⟩ = some (.int .i64 0) := (blk_cell BK898.out 1).trans rfl; have hcz96_2 : w95.cell? ⟨gb898, 2, none⟩ = some (.string (⟨#[]⟩ : ByteArray)) := (blk_cell BK898.out 2).trans rfl; have hfz96_0 := blk_frozen BK898.out 0; have hfz96_1 := blk_frozen BK898.out 1; have hfz96_2 := blk_frozen BK898.out 2))
             go_roundg k2
             case measure => have := HJ19.out; have := HK2.out; omega
             case rel => exact ⟨(x16_2), (x17_2), (wrap64 (x100_2 + 1)), (by first | rfl | (simp; done) | (simp [*]; done) | (simp; exact isEmpty_bne _)), (by first | rfl | (simp; done) | (simp [*]; done) | (simp; exact isEmpty_bne _)), H', ⟨by have := HJ19.out; have := HK2.out; omega⟩, ⟨by (with_reducible repeat (first | apply Kd.R_alloc | apply Kd.R_drewN | apply Kd.R_drew)); exact Kd.R_mono (Kd.R_far (p := ⟨gb898, 2, none⟩) (Kd.R_far (p := ⟨gb898, 1, none⟩) (Kd.R_far (p := ⟨gb898, 0, none⟩) (Kd.R_mono HO_14.out (fun k_ hk => (⟨hk, hk.2⟩ : _ ∧ k_ ≠ gb898))) (fun _ hk => hk.2) (.int .i64 ((rd_T70 t838 x100_2).f0))) (fun _ hk => hk.2) (.int .i64 ((rd_T70 t838 x100_2).f1))) (fun _ hk => hk.2) (.string ((rd_T70 t838 x100_2).f2))) (fun _ hk => ⟨hk.1.1.1, ⟨hk.1.1.2.1, hk.1.1.2.2⟩⟩)⟩, ⟨by (with_reducible repeat (first | apply Kd.R_alloc | apply Kd.R_drewN | apply Kd.R_drew)); exact Kd.R_mono (Kd.R_far (p := ⟨gb898, 2, none⟩) (Kd.R_far (p := ⟨gb898, 1, none⟩) (Kd.R_far (p := ⟨gb898, 0, none⟩) (Kd.R_mono HO_16.out (fun k_ hk => (⟨hk, hk.2⟩ : _ ∧ k_ ≠ gb898))) (fun _ hk => hk.2) (.int .i64 ((rd_T70 t838 x100_2).f0))) (fun _ hk => hk.2) (.int .i64 ((rd_T70 t838 x100_2).f1))) (fun _ hk => hk.2) (.string ((rd_T70 t838 x100_2).f2))) (fun _ hk => ⟨hk.1.1.1, ⟨hk.1.1.2.1, hk.1.1.2.2⟩⟩)⟩, ⟨by (with_reducible repeat (first | apply Kd.R_alloc | apply Kd.R_drewN | apply Kd.R_drew)); exact Kd.R_mono (Kd.R_far (p := ⟨gb898, 2, none⟩) (Kd.R_far (p := ⟨gb898, 1, none⟩) (Kd.R_far (p := ⟨gb898, 0, none⟩) (Kd.R_mono HO_98.out (fun k_ hk => (⟨hk, hk.2⟩ : _ ∧ k_ ≠ gb898))) (fun _ hk => hk.2) (.int .i64 ((rd_T70 t838 x100_2).f0))) (fun _ hk => hk.2) (.int .i64 ((rd_T70 t838 x100_2).f1))) (fun _ hk => hk.2) (.string ((rd_T70 t838 x100_2).f2))) (fun _ hk => ⟨hk.1.1.1, ⟨hk.1.1.2.1, hk.1.1.2.2⟩⟩)⟩, ⟨by repeat (first | (with_reducible first | exact HB.out | apply below_alloc | apply pw_below_drewN | apply below_drew1 | refine below_set ?_ GE898.out) | exact HB.out)⟩⟩
          ·
           rw [if_neg c72] at H
           exact absurd H (by simp)
         ·
          rw [if_neg c71] at H
          exact absurd H (by simp)
        ·
         rw [if_neg c70] at H
         have c70b0 : decide (x100_2 < (t838.length : Int)) = false := decide_eq_false c70
         clear c70
         replace H := Option.bind_eq_some_iff.mp H
         obtain ⟨⟨t892, t893⟩, A970, H⟩ := H
         try dsimp only at H
         have A97 := Aside0.mk A970
         clear A970
         by_cases c98 : t889 = 0
         ·
          rw [if_pos c98] at H
          have c98b0 : (t889 == 0) = true := beq_iff_eq.mpr c98
          have c98b1 : (t889 != 0) = false := bne_eq_false_iff_eq.mpr c98
          clear c98
          replace H := Option.bind_eq_some_iff.mp H
          obtain ⟨t896, A990, H⟩ := H
          try dsimp only at H
          have A99 := Aside0.mk A990
          clear A990
          obtain rfl := Option.some.inj H
          obtain ⟨Ao100, co100, eo100⟩ := Kd.R_slice HO_16.out
          subst eo100
          go_wp2_with (first | ((with_reducible refine gate_callee (f := 37) rfl ?_); refine goesL_ (some 138) rfl rfl Try.func37 (by kernel_rfl) rfl #[.slice Ao100 x16_2.length co100] rfl (by (try simp only [List.map_toArray, List.map_cons, List.map_nil]); first | done | rfl | (simp only [List.length_drop, List.length_take]; rfl)) ?_; (with_reducible refine (galleyref13_Canon.calls k2 _ _ x16_2 t892 t893 _ ?side1 ?side2 A97.out).mono ?_); (case side1 => repeat (first | exact (Kd.R_reads' HO_16.out).2.2 | (with_reducible refine Kd.C_alloc ?_ _) | (with_reducible refine Kd.C_drewN ?_ _) | (with_reducible refine Kd.C_drew ?_))); (case side2 => exact (Kd.R_reads' HO_16.out).2.1); rintro e w101 ⟨v894, rfl, ho0, hb⟩; refine ⟨_, rfl, ?_⟩; have n0_ := Aside0.mk (Kd.R_elder' HO_14.out (Kd.R_base ho0) hb); have n1_ := Aside0.mk (Kd.R_elder' HO_16.out (Kd.R_base ho0) hb); have n2_ := Aside0.mk (Kd.R_elder' HO_98.out (Kd.R_base ho0) hb); have n3_ := Aside0.mk (Kd.R_lower (Kd.R_new' (Kd.R_new' (Kd.R_new' (Kd.R_newM (M := fun k_ => (w.heap.size ≤ k_)) ho0 (below_size HB.out) (fun k_ h_ => h_)) (Kd.R_lt HO_14.out)) (Kd.R_lt HO_16.out)) (Kd.R_lt HO_98.out)) (below_size HB.out)); have n4_ := Aside0.mk (below_step HB.out hb); clear HO_14 HO_16 HO_98 HB; have HO_14 := n0_; have HO_16 := n1_; have HO_98 := n2_; have HO895 := n3_; have HB := n4_; clear n0_ n1_ n2_ n3_ n4_; (try clear hb); (try clear hb2); (try clear hk); (try clear hi); (try clear ho0); obtain ⟨Ao102, co102, eo102⟩ := Kd.R_slice HO_14.out; subst eo102; obtain ⟨Ao103, co103, eo103⟩ := Kd.R_slice HO895.out; subst eo103) | (go_at_call 31; (with_reducible refine (galleylaw13_same.calls k2 _ _ t888 _ _ t892 t896 _ ?side1 ?side2 ?side3 ?side4 A99.out).mono ?_); (case side1 => repeat (first | exact (Kd.R_reads' HO_14.out).2.2 | (with_reducible refine Kd.C_alloc ?_ _) | (with_reducible refine Kd.C_drewN ?_ _) | (with_reducible refine Kd.C_drew ?_))); (case side2 => exact (Kd.R_reads' HO_14.out).2.1); (case side3 => repeat (first | exact (Kd.R_reads' HO895.out).2.2 | (with_reducible refine Kd.C_alloc ?_ _) | (with_reducible refine Kd.C_drewN ?_ _) | (with_reducible refine Kd.C_drew ?_))); (case side4 => exact (Kd.R_reads' HO895.out).2.1); rintro e w' ⟨rfl, ⟨nd, rfl⟩⟩))
          go_ret
          exact ⟨by first | rfl | (simp [errW_none, errW_some] <;> rfl) | (simp [*, errW_none, errW_some] <;> rfl), by repeat (first | (with_reducible first | exact HB.out | apply below_alloc | apply pw_below_drewN | apply below_drew1) | exact HB.out)⟩
         ·
          rw [if_neg c98] at H
          have c98b0 : (t889 == 0) = false := beq_eq_false_iff_ne.mpr c98
          have c98b1 : (t889 != 0) = true := bne_iff_ne.mpr c98
          obtain rfl := Option.some.inj H
          obtain ⟨Ao104, co104, eo104⟩ := Kd.R_slice HO_16.out
          subst eo104
          go_wp2_with (first | ((with_reducible refine gate_callee (f := 37) rfl ?_); refine goesL_ (some 138) rfl rfl Try.func37 (by kernel_rfl) rfl #[.slice Ao104 x16_2.length co104] rfl (by (try simp only [List.map_toArray, List.map_cons, List.map_nil]); first | done | rfl | (simp only [List.length_drop, List.length_take]; rfl)) ?_; (with_reducible refine (galleyref13_Canon.calls k2 _ _ x16_2 t892 t893 _ ?side1 ?side2 A97.out).mono ?_); (case side1 => repeat (first | exact (Kd.R_reads' HO_16.out).2.2 | (with_reducible refine Kd.C_alloc ?_ _) | (with_reducible refine Kd.C_drewN ?_ _) | (with_reducible refine Kd.C_drew ?_))); (case side2 => exact (Kd.R_reads' HO_16.out).2.1); rintro e w105 ⟨v894, rfl, ho0, hb⟩; refine ⟨_, rfl, ?_⟩; have n0_ := Aside0.mk (Kd.R_elder' HO_14.out (Kd.R_base ho0) hb); have n1_ := Aside0.mk (Kd.R_elder' HO_16.out (Kd.R_base ho0) hb); have n2_ := Aside0.mk (Kd.R_elder' HO_98.out (Kd.R_base ho0) hb); have n3_ := Aside0.mk (Kd.R_lower (Kd.R_new' (Kd.R_new' (Kd.R_new' (Kd.R_newM (M := fun k_ => (w.heap.size ≤ k_)) ho0 (below_size HB.out) (fun k_ h_ => h_)) (Kd.R_lt HO_14.out)) (Kd.R_lt HO_16.out)) (Kd.R_lt HO_98.out)) (below_size HB.out)); have n4_ := Aside0.mk (below_step HB.out hb); clear HO_14 HO_16 HO_98 HB; have HO_14 := n0_; have HO_16 := n1_; have HO_98 := n2_; have HO895 := n3_; have HB := n4_; clear n0_ n1_ n2_ n3_ n4_; (try clear hb); (try clear hb2); (try clear hk); (try clear hi); (try clear ho0)))
          go_ret
          exact ⟨by first | rfl | (simp [errW_none, errW_some] <;> rfl) | (simp [*, errW_none, errW_some] <;> rfl), by repeat (first | (with_reducible first | exact HB.out | apply below_alloc | apply pw_below_drewN | apply below_drew1) | exact HB.out)⟩
  ·
   replace c6 := Bool.eq_false_iff.mpr c6
   subst c6
   rw [if_neg (show ¬ (false = true) by decide)] at H
   obtain rfl := Option.some.inj H
   go_enter Try.func12, Try.ntmps12
   go_wp2_with (first | ((with_reducible refine gate_callee (f := 23) rfl ?_); refine goesL_ (some 20) rfl rfl Try.func23 (by kernel_rfl) rfl #[] rfl (by (try simp only [List.map_toArray, List.map_cons, List.map_nil]); first | done | rfl | (simp only [List.length_drop, List.length_take]; rfl)) ?_; (with_reducible refine (galleylaw13_awake.calls  true _ A3.out).mono ?_); rintro e w106 ⟨rfl, hb⟩; refine ⟨_, rfl, ?_⟩; have n0_ := Aside0.mk (Kd.V_below HO1.out hb); have n1_ := Aside0.mk (below_step HB.out hb); clear HO1 HB; have HO1 := n0_; have HB := n1_; clear n0_ n1_; (try clear hb); (try clear hb2); (try clear hk); (try clear hi)) | ((with_reducible refine gate_dst (N := 24) rfl ?_); refine Kd.N_lit (Kd.slice 70 k70) _ 25 ?hg (N' := 24) ?hd (xs := ([l1] : List (List (S70)))) (inner := [.slice A1 l1.length c1]) (ok := (fun k_ => (P1_ k_ ∨ w.heap.size ≤ k_))) (okp := (fun k_ => (P1_ k_ ∨ w.heap.size ≤ k_))) ?hr ?hp (fun _ hk => hk) ((show ∀ k_, w106.heap.size ≤ k_ → (fun k_ => (P1_ k_ ∨ w.heap.size ≤ k_)) k_ from fun k_ hk => (.inr (Nat.le_trans (below_size HB.out) hk))) _ (Nat.le_refl _)) (Below.refl _ _) (Nat.le_refl _) (by simp) ?_; (case hd => rfl); (case hg => rfl); (case hr => first | (go_simp; done) | (go_simp; rfl)); (case hp => exact (Reps.one (show Kd.FK (Kd.slice 70 k70) _ _ l1 [.slice A1 l1.length c1] from (Kd.FK_slice_mk (Kd.V_reads' (Kd.V_mono (ok' := (fun k_ => (P1_ k_ ∨ w.heap.size ≤ k_))) (HO1.out) (fun k_ hk => hk))).2.1 (Kd.V_F (Kd.V_mono (ok' := (fun k_ => (P1_ k_ ∨ w.heap.size ≤ k_))) (HO1.out) (fun k_ hk => hk))))) (Reps.none _ _))); intro v835 w107 ho108 hb hg_ hnew_; clear hg_ hnew_; (first | rw [← Ny834.out] at ho108 | (simp only [Int.reduceToNat] at ho108; rw [← Ny834.out] at ho108)); have n0_ := Aside0.mk (Kd.V_elder' HO1.out (Kd.N_base ho108) hb); have n1_ := Aside0.mk (Kd.N_lower ho108 (below_size HB.out)); have n2_ := Aside0.mk (below_step HB.out hb); clear HO1 HB; have HO1 := n0_; have HO836 := n1_; have HB := n2_; clear n0_ n1_ n2_; clear hb ho108; obtain ⟨Ao109, co109, eo109⟩ := Kd.N_slice HO836.out; subst eo109) | ((with_reducible refine gate_callee (f := 47) rfl ?_); refine goesL_ (some 25) rfl rfl Try.func47 (by kernel_rfl) rfl #[.slice A0 l0.length c0, .slice Ao109 y834.length co109] rfl (by (try simp only [List.map_toArray, List.map_cons, List.map_nil]); first | done | rfl | (simp only [List.length_drop, List.length_take]; rfl)) ?_; (with_reducible refine (galleylaw13_short.calls k _ _ l0 _ _ y834 false _ ?side1 ?side2 ?side3 ?side4 A5.out).mono ?_); (case side1 => exact (Kd.C_below HR0.out HB.out)); (case side2 => exact HC0.out); (case side3 => repeat (first | exact (Kd.N_reads' HO836.out).2.2 | (with_reducible refine Kd.C_alloc ?_ _) | (with_reducible refine Kd.C_drewN ?_ _) | (with_reducible refine Kd.C_drew ?_))); (case side4 => exact (Kd.N_reads' HO836.out).2.1); rintro e w110 ⟨rfl, hb⟩; refine ⟨_, rfl, ?_⟩; have n0_ := Aside0.mk (Kd.V_below HO1.out hb); have n1_ := Aside0.mk (Kd.N_below HO836.out hb); have n2_ := Aside0.mk (below_step HB.out hb); clear HO1 HO836 HB; have HO1 := n0_; have HO836 := n1_; have HB := n2_; clear n0_ n1_ n2_; (try clear hb); (try clear hb2); (try clear hk); (try clear hi)))
   go_ret
   exact ⟨by first | rfl | (simp [errW_none, errW_some] <;> rfl) | (simp [*, errW_none, errW_some] <;> rfl), by repeat (first | (with_reducible first | exact HB.out | apply below_alloc | apply pw_below_drewN | apply below_drew1) | exact HB.out)⟩
 ·
  replace c4 := Bool.eq_false_iff.mpr c4
  subst c4
  rw [if_neg (show ¬ (false = true) by decide)] at H
  obtain rfl := Option.some.inj H
  go_enter Try.func12, Try.ntmps12
  go_wp2_with (first | ((with_reducible refine gate_callee (f := 23) rfl ?_); refine goesL_ (some 20) rfl rfl Try.func23 (by kernel_rfl) rfl #[] rfl (by (try simp only [List.map_toArray, List.map_cons, List.map_nil]); first | done | rfl | (simp only [List.length_drop, List.length_take]; rfl)) ?_; (with_reducible refine (galleylaw13_awake.calls  false _ A3.out).mono ?_); rintro e w111 ⟨rfl, hb⟩; refine ⟨_, rfl, ?_⟩; have n0_ := Aside0.mk (Kd.V_below HO1.out hb); have n1_ := Aside0.mk (below_step HB.out hb); clear HO1 HB; have HO1 := n0_; have HB := n1_; clear n0_ n1_; (try clear hb); (try clear hb2); (try clear hk); (try clear hi)))
  go_ret
  exact ⟨by first | rfl | (simp [errW_none, errW_some] <;> rfl) | (simp [*, errW_none, errW_some] <;> rfl), by repeat (first | (with_reducible first | exact HB.out | apply below_alloc | apply pw_below_drewN | apply below_drew1) | exact HB.out)⟩

-- NOT PRINTED: function 13 (galleylaw13_DeltaSame)

end Go.Proofs.Ytidihnnkcmeaeaa.A
