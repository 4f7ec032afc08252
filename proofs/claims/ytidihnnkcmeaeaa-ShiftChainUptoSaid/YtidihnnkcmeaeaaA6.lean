/- Part of a claim: theorems about the program's functions, written by a program over the translation. No condition. -/
import Derived.Test.YtidihnnkcmeaeaaA0
import Derived.Test.YtidihnnkcmeaeaaMG1
import Derived.Test.YtidihnnkcmeaeaaA5
namespace Go.Proofs.Ytidihnnkcmeaeaa.A
open Go.RowKit Go.Proofs.YtidihnnkcmeaeaaW.PrintWords Go.Proofs.YtidihnnkcmeaeaaW.PrintLast Go.Proofs.YtidihnnkcmeaeaaW.PrintMore
attribute [local go_sem] max2_int min2_int max_two min_two max_three min_three max_four min_four
set_option linter.unusedVariables false
set_option linter.unusedSimpArgs false
mutual
def galleyref14_Read.l0 : Nat → List (S70) → Int → Int → List ByteArray → List Bool → Option (List ByteArray × List Bool)
 | 0, _, _, _, _, _ => none
 | k + 1, x0, x6, x7, x143000, x143001 => if x7 < (x0.length : Int) then (if 0 ≤ x7 then (if ((rd_T70 x0 x7).f0) = 2 then (if 0 ≤ x6 then (if x6 < (x143000.length : Int) then (galleyref14_Read.l0 k x0 x6 (wrap64 (x7 + 1)) (x143000.set (x6 : Int).toNat ((rd_T70 x0 x7).f2)) x143001) else (none)) else (none)) else (if ((rd_T70 x0 x7).f0) = 3 then (galleyref14_Read.l1 k x0 x6 x7 0 x143000 x143001) else (galleyref14_Read.l0 k x0 (wrap64 (x6 + ((rd_T70 x0 x7).f1))) (wrap64 (x7 + 1)) x143000 x143001))) else (none)) else (some (x143000, x143001))
def galleyref14_Read.l1 : Nat → List (S70) → Int → Int → Int → List ByteArray → List Bool → Option (List ByteArray × List Bool)
 | 0, _, _, _, _, _, _ => none
 | k + 1, x0, x6, x7, x8, x143000, x143001 => if 0 ≤ x7 then (if x7 < (x0.length : Int) then (if x8 < ((rd_T70 x0 x7).f1) then (if 0 ≤ (wrap64 (x6 + x8)) then (if (wrap64 (x6 + x8)) < (x143001.length : Int) then (galleyref14_Read.l1 k x0 x6 x7 (wrap64 (x8 + 1)) x143000 (x143001.set ((wrap64 (x6 + x8)) : Int).toNat true)) else (none)) else (none)) else (galleyref14_Read.l0 k x0 (wrap64 (x6 + ((rd_T70 x0 x7).f1))) (wrap64 (x7 + 1)) x143000 x143001)) else (none)) else (none)
end
def galleyref14_Read.f (k : Nat) (l0 : List (S70)) : Option (List ByteArray × List Bool) := (galleyref14_lens.f k l0).bind fun bt134 => (if 0 ≤ (wrap64 (bt134.1 + 1)) then (if (wrap64 (bt134.1 + 1) : Int).toNat ≤ 17592186044416 then (if 0 ≤ bt134.1 then (if (bt134.1 : Int).toNat ≤ 281474976710656 then (galleyref14_Read.l0 k l0 0 0 (List.replicate (wrap64 (bt134.1 + 1) : Int).toNat (⟨#[]⟩ : ByteArray)) (List.replicate (bt134.1 : Int).toNat false)) else (none)) else (none)) else (none)) else (none))
def galleyref14_Read.T2 : Bool × List (List Nat × List Nat) := (true, [([], []), ([0], [0]), ([1, 1], [1]), ([], []), ([3, 3], [3]), ([2, 4], [2, 4]), ([], []), ([6, 5, 0, 1, 2, 3, 4, 5, 6], [5, 6])])
def galleyref14_Read.B2 : List Nat := [0, 1, 3, 0, 8, 31, 0, 127]
theorem galleyref14_Read.tab2 : rtab .any (opsOf Try.f92 2) = galleyref14_Read.T2 := by kernel_rfl
theorem galleyref14_Read.bits2 : waitsOk galleyref14_Read.T2.2 galleyref14_Read.B2 = true := by kernel_rfl
def galleyref14_Read.T10 : Bool × List (List Nat × List Nat) := (true, [([], []), ([0], [0]), ([], []), ([], []), ([], []), ([3, 4], [3, 4]), ([5], [5]), ([6], [6]), ([1, 2, 0, 1, 2, 3, 4, 5, 6, 7], [1, 2]), ([8, 7, 0, 1, 2, 3, 4, 5, 6, 7], [7, 8])])
def galleyref14_Read.B10 : List Nat := [0, 1, 0, 0, 0, 24, 56, 120, 255, 511]
theorem galleyref14_Read.tab10 : rtab .any (opsOf Try.f92 10) = galleyref14_Read.T10 := by kernel_rfl
theorem galleyref14_Read.bits10 : waitsOk galleyref14_Read.T10.2 galleyref14_Read.B10 = true := by kernel_rfl
set_option maxHeartbeats 8000000 in
set_option maxRecDepth 100000 in
theorem galleyref14_Read.calls (k : Nat) (A0 : Option Addr) (c0 : Nat) (l0 : List (S70)) (r1 : List ByteArray) (r2 : List Bool) (w : World) (hr0 : Kd.C k70 w A0 l0.length l0) (hc0 : l0.length ≤ c0) (h : galleyref14_Read.f k l0 = some (r1, r2)) :
  Calls Try.prog 92 #[.slice A0 l0.length c0] w fun e w' => ∃ v0_ v1_ : Value, e = .returned (.agg #[v0_, v1_]) ∧ Kd.R Kd.string 9 w' w.heap.size (fun _ => True) v0_ r1 ∧ Kd.R Kd.bool 4 w' w.heap.size (fun _ => True) v1_ r2 ∧ Below w.heap.size w w' := by
 have hu113 := Try.underlying113
 have HR0 := Aside0.mk hr0
 have HC0 := Aside0.mk hc0
 clear hr0 hc0
 have HB := Aside0.mk (Below.refl w.heap.size w)
 have H : ((galleyref14_lens.f k l0).bind fun bt134 => (if 0 ≤ (wrap64 (bt134.1 + 1)) then (if (wrap64 (bt134.1 + 1) : Int).toNat ≤ 17592186044416 then (if 0 ≤ bt134.1 then (if (bt134.1 : Int).toNat ≤ 281474976710656 then (galleyref14_Read.l0 k l0 0 0 (List.replicate (wrap64 (bt134.1 + 1) : Int).toNat (⟨#[]⟩ : ByteArray)) (List.replicate (bt134.1 : Int).toNat false)) else (none)) else (none)) else (none)) else (none))) = some (r1, r2) := h
 clear h
 replace H := Option.bind_eq_some_iff.mp H
 obtain ⟨⟨t134, t135⟩, A20, H⟩ := H
 replace H : (if 0 ≤ (wrap64 (t134 + 1)) then (if (wrap64 (t134 + 1) : Int).toNat ≤ 17592186044416 then (if 0 ≤ t134 then (if (t134 : Int).toNat ≤ 281474976710656 then (galleyref14_Read.l0 k l0 0 0 (List.replicate (wrap64 (t134 + 1) : Int).toNat (⟨#[]⟩ : ByteArray)) (List.replicate (t134 : Int).toNat false)) else (none)) else (none)) else (none)) else (none)) = some (r1, r2) := H
 have A2 := Aside0.mk A20
 clear A20
 obtain ⟨ji3, hji3⟩ : ∃ j_ : Int, (wrap64 (t134 + 1)) = j_ := ⟨_, rfl⟩
 replace H : (if 0 ≤ (ji3) then (if (ji3 : Int).toNat ≤ 17592186044416 then (if 0 ≤ t134 then (if (t134 : Int).toNat ≤ 281474976710656 then (galleyref14_Read.l0 k l0 0 0 (List.replicate (ji3 : Int).toNat (⟨#[]⟩ : ByteArray)) (List.replicate (t134 : Int).toNat false)) else (none)) else (none)) else (none)) else (none)) = some (r1, r2) := by first | (rw [hji3] at H; exact H) | (simp only [hji3] at H ⊢; exact H)
 (try rw [hji3] at A2)
 have hji3w : (IntKind.i64.wrap (t134 + 1)) = ji3 := (i64_w _).trans hji3
 by_cases c4 : 0 ≤ (ji3)
 ·
  rw [if_pos c4] at H
  have c4b0 := eq_true c4
  have c4b1 : decide (0 ≤ (ji3)) = true := decide_eq_true c4
  clear c4
  by_cases c5 : (ji3 : Int).toNat ≤ 17592186044416
  ·
   rw [if_pos c5] at H
   have c5b0 := eq_true c5
   have c5b1 : decide ((ji3 : Int).toNat ≤ 17592186044416) = true := decide_eq_true c5
   clear c5
   obtain ⟨y136, hy136⟩ : ∃ y_ : List ByteArray, y_ = (List.replicate (ji3 : Int).toNat (⟨#[]⟩ : ByteArray)) := ⟨_, rfl⟩
   replace H : (if 0 ≤ t134 then (if (t134 : Int).toNat ≤ 281474976710656 then (galleyref14_Read.l0 k l0 0 0 y136 (List.replicate (t134 : Int).toNat false)) else (none)) else (none)) = some (r1, r2) := by first | (rw [hy136]; with_reducible exact H) | (have H2_ := (Option.bind_some _ _).symm.trans H; rw [hy136]; with_reducible exact H2_) | (have H2_ := (Option.bind_some _ _).symm.trans H; with_reducible exact H2_) | with_reducible exact H | (rw [hy136]; exact H) | exact H
   have Ny136 := Aside0.mk hy136
   clear hy136
   by_cases c6 : 0 ≤ t134
   ·
    rw [if_pos c6] at H
    have c6b0 := eq_true c6
    have c6b1 : decide (0 ≤ t134) = true := decide_eq_true c6
    clear c6
    by_cases c7 : (t134 : Int).toNat ≤ 281474976710656
    ·
     rw [if_pos c7] at H
     have c7b0 := eq_true c7
     have c7b1 : decide ((t134 : Int).toNat ≤ 281474976710656) = true := decide_eq_true c7
     clear c7
     obtain ⟨y139, hy139⟩ : ∃ y_ : List Bool, y_ = (List.replicate (t134 : Int).toNat false) := ⟨_, rfl⟩
     replace H : (galleyref14_Read.l0 k l0 0 0 y136 y139) = some (r1, r2) := by first | (rw [hy139]; with_reducible exact H) | (have H2_ := (Option.bind_some _ _).symm.trans H; rw [hy139]; with_reducible exact H2_) | (have H2_ := (Option.bind_some _ _).symm.trans H; with_reducible exact H2_) | with_reducible exact H | (rw [hy139]; exact H) | exact H
     have Ny139 := Aside0.mk hy139
     clear hy139
     have H' := Aside0.mk H
     clear H
     go_enter Try.func92, Try.ntmps92
     try go_wp2_with (first | ((with_reducible refine gate_dst (N := 2) rfl ?_); refine box_event ?hg (N := 2) ?hd (cs := #[.slice none 0 0, .slice none 0 0]) (t := 113) ?hr ?_; (case hd => rfl); (case hg => rfl); (case hr => first | (go_simp; done) | (go_simp; rfl)); intro gb133 hg w8 hbox hb; have n0_ := Aside0.mk (below_step (by repeat (first | (with_reducible first | exact HB.out | apply below_alloc | apply pw_below_drewN | apply below_drew1) | exact HB.out)) hb); have n1_ := Aside0.mk (hbox); have n2_ := Aside0.mk ((by rw [hg]; exact (below_size (by repeat (first | (with_reducible first | exact HB.out | apply below_alloc | apply pw_below_drewN | apply below_drew1) | exact HB.out))) : w.heap.size ≤ gb133)); have n3_ := Aside0.mk ((by rw [hg]; exact (below_size (by repeat (first | (with_reducible first | exact HB.out | apply below_alloc | apply pw_below_drewN | apply below_drew1) | exact HB.out))) : w.heap.size ≤ gb133)); clear HB; have HB := n0_; have BK133 := n1_; have GW133 := n2_; have GE133 := n3_; clear n0_ n1_ n2_ n3_; clear hb hbox hg) | ((with_reducible refine gate_callee (f := 89) rfl ?_); refine goesL_ (some 11) rfl rfl Try.func89 (by kernel_rfl) rfl #[.slice A0 l0.length c0] rfl (by (try simp only [List.map_toArray, List.map_cons, List.map_nil]); first | done | rfl | (simp only [List.length_drop, List.length_take]; rfl)) ?_; (with_reducible refine (galleyref14_lens.calls k _ _ l0 t134 t135 _ ?side1 ?side2 A2.out).mono ?_); (case side1 => repeat (first | exact (Kd.C_below HR0.out HB.out) | (with_reducible refine Kd.C_alloc ?_ _) | (with_reducible refine Kd.C_drewN ?_ _) | (with_reducible refine Kd.C_drew ?_))); (case side2 => exact HC0.out); rintro e w' ⟨rfl, ⟨nd, rfl⟩⟩; refine ⟨_, rfl, ?_⟩; (try (rw [drewN_self w8]; generalize hq_ : World.drewN w8 _ = w8; have n0_ : Aside0 (w8.heap[gb133]? = some (.cells #[.slice none 0 0, .slice none 0 0] 113 (0, 0))) := ⟨by rw [← hq_]; exact (by (with_reducible repeat (first | refine blk_drewN ?_ _ | refine blk_drew ?_ | refine blk_alloc ?_ _)); exact BK133.out)⟩; have n1_ : Aside0 (Below w.heap.size w w8) := ⟨by rw [← hq_]; exact (by repeat (first | (with_reducible first | exact HB.out | apply below_alloc | apply pw_below_drewN | apply below_drew1 | refine below_set ?_ GE133.out) | exact HB.out))⟩; clear BK133 HB hq_; have BK133 := n0_; have HB := n1_; clear n0_ n1_))))
     have n0_ := Aside0.mk (blk_drew BK133.out)
     have n1_ := Aside0.mk (below_drew1 HB.out)
     clear BK133
     clear HB
     have BK133 := n0_
     have HB := n1_
     clear n0_ n1_
     refine start_ (n := 8) (S := fun w' => True) (ds := []) #[false, false, false, false, false, false, false, false] (by kernel_rfl) rfl rfl trivial (fun hHeld => ?_); refine with_tabW galleyref14_Read.tab2 galleyref14_Read.bits2 (fun HT_ HW_ => ?_)
     generalize w8.drew = w9 at BK133 HB hHeld ⊢
     refine pure_ (i := 0) (N := some 14) (v := ?_) (a' := ?_) #[true, false, false, false, false, false, false, false] rfl rfl (any_of HT_.out (by kernel_rfl)) (fun _ _ _ h => h) (Or.inl ⟨by rfl, ?_⟩) ?_ ?_
     rotate_left
     ·
      intro w'
      go_simp
      with_reducible rfl
     rotate_left
     ·
      simp only [Act.put, List.setIfInBounds_toArray, List.set_cons_zero, List.set_cons_succ, i64_w, i32_w]
      rfl
     refine pure_ (i := 1) (N := some 15) (v := ?_) (a' := ?_) #[true, true, false, false, false, false, false, false] rfl rfl (any_of HT_.out (by kernel_rfl)) (fun _ _ _ h => h) (Or.inl ⟨by rfl, ?_⟩) ?_ ?_
     rotate_left
     ·
      intro w'
      go_simp
      with_reducible rfl
     rotate_left
     ·
      simp only [Act.put, List.setIfInBounds_toArray, List.set_cons_zero, List.set_cons_succ, i64_w, i32_w]
      rfl
     refine pure_ (i := 3) (N := some 17) (v := ?_) (a' := ?_) #[true, true, false, true, false, false, false, false] rfl rfl (any_of HT_.out (by kernel_rfl)) (fun _ _ _ h => h) (Or.inl ⟨by rfl, ?_⟩) ?_ ?_
     rotate_left
     ·
      intro w'
      go_simp
      with_reducible rfl
     rotate_left
     ·
      simp only [Act.put, List.setIfInBounds_toArray, List.set_cons_zero, List.set_cons_succ, i64_w, i32_w]
      rfl
     refine join_ (σ := Value × Value × Nat) 1 #[true, true, true, true, true, true, true, false] (fun s_ => [(16, s_.1), (18, s_.2.1), (5, .pointer (some ⟨s_.2.2, 0, none⟩)), (19, .agg #[s_.1, s_.2.1])]) (fun s_ w' => (Kd.R Kd.string 9 w' w.heap.size (fun _ => True) s_.1 y136) ∧ (Kd.R Kd.bool 4 w' w.heap.size (fun _ => True) s_.2.1 y139) ∧ (w'.heap[gb133]? = some (.cells #[.slice none 0 0, .slice none 0 0] 113 (0, 0))) ∧ (w'.heap[s_.2.2]? = some (.cells #[.slice none 0 0, .slice none 0 0] 113 (0, 0))) ∧ (w.heap.size ≤ s_.2.2) ∧ (w.heap.size ≤ s_.2.2) ∧ (gb133 ≠ s_.2.2) ∧ (s_.2.2 ≠ gb133) ∧ (Below w.heap.size w w')) ?_ ?_
     rotate_left
     ·
      intro hJ2_4_6
      refine join_ (σ := Value × Value) 2 #[true, true, true, true, true, true, false, false] (fun s_ => [(16, s_.1), (18, s_.2), (19, .agg #[s_.1, s_.2])]) (fun s_ w' => (Kd.R Kd.string 9 w' w.heap.size (fun _ => True) s_.1 y136) ∧ (Kd.R Kd.bool 4 w' w.heap.size (fun _ => True) s_.2 y139) ∧ (w'.heap[gb133]? = some (.cells #[.slice none 0 0, .slice none 0 0] 113 (0, 0))) ∧ (Below w.heap.size w w')) ?_ ?_
      rotate_left
      ·
       intro hJ2_4
       refine join_ (σ := Value × Nat) 3 #[true, true, true, true, false, false, true, false] (fun s_ => [(16, s_.1), (5, .pointer (some ⟨s_.2, 0, none⟩))]) (fun s_ w' => (Kd.R Kd.string 9 w' w.heap.size (fun _ => True) s_.1 y136) ∧ (w'.heap[gb133]? = some (.cells #[.slice none 0 0, .slice none 0 0] 113 (0, 0))) ∧ (w'.heap[s_.2]? = some (.cells #[.slice none 0 0, .slice none 0 0] 113 (0, 0))) ∧ (w.heap.size ≤ s_.2) ∧ (w.heap.size ≤ s_.2) ∧ (gb133 ≠ s_.2) ∧ (s_.2 ≠ gb133) ∧ (Below w.heap.size w w')) ?_ ?_
       rotate_left
       ·
        intro hJ2_6
        refine join_ (σ := Value × Nat) 3 #[true, true, false, true, true, false, true, false] (fun s_ => [(18, s_.1), (5, .pointer (some ⟨s_.2, 0, none⟩))]) (fun s_ w' => (Kd.R Kd.bool 4 w' w.heap.size (fun _ => True) s_.1 y139) ∧ (w'.heap[gb133]? = some (.cells #[.slice none 0 0, .slice none 0 0] 113 (0, 0))) ∧ (w'.heap[s_.2]? = some (.cells #[.slice none 0 0, .slice none 0 0] 113 (0, 0))) ∧ (w.heap.size ≤ s_.2) ∧ (w.heap.size ≤ s_.2) ∧ (gb133 ≠ s_.2) ∧ (s_.2 ≠ gb133) ∧ (Below w.heap.size w w')) ?_ ?_
        rotate_left
        ·
         intro hJ4_6
         refine join_ (σ := Value) 4 #[true, true, true, true, false, false, false, false] (fun s_ => [(16, s_)]) (fun s_ w' => (Kd.R Kd.string 9 w' w.heap.size (fun _ => True) s_ y136) ∧ (w'.heap[gb133]? = some (.cells #[.slice none 0 0, .slice none 0 0] 113 (0, 0))) ∧ (Below w.heap.size w w')) ?_ ?_
         rotate_left
         ·
          intro hJ2
          refine join_ (σ := Value) 4 #[true, true, false, true, true, false, false, false] (fun s_ => [(18, s_)]) (fun s_ w' => (Kd.R Kd.bool 4 w' w.heap.size (fun _ => True) s_ y139) ∧ (w'.heap[gb133]? = some (.cells #[.slice none 0 0, .slice none 0 0] 113 (0, 0))) ∧ (Below w.heap.size w w')) ?_ ?_
          rotate_left
          ·
           intro hJ4
           refine join_ (σ := Nat) 4 #[true, true, false, true, false, false, true, false] (fun s_ => [(5, .pointer (some ⟨s_, 0, none⟩))]) (fun s_ w' => (w'.heap[gb133]? = some (.cells #[.slice none 0 0, .slice none 0 0] 113 (0, 0))) ∧ (w'.heap[s_]? = some (.cells #[.slice none 0 0, .slice none 0 0] 113 (0, 0))) ∧ (w.heap.size ≤ s_) ∧ (w.heap.size ≤ s_) ∧ (gb133 ≠ s_) ∧ (s_ ≠ gb133) ∧ (Below w.heap.size w w')) ?_ ?_
           rotate_left
           ·
            intro hJ6
            refine three_ (i := 2) (j := 4) (k := 6) (Ni := some 16) (Nj := some 18) (Nk := some 5) #[true, true, true, true, false, false, false, false] #[true, true, false, true, true, false, false, false] #[true, true, false, true, false, false, true, false] rfl rfl rfl rfl rfl rfl (three_of HT_.out (by kernel_rfl)) (by decide) (by decide) (by decide) (fun K hK => ?_) (fun K hK => ?_) (fun K hK => ?_)
            ·
             skip
             refine Kd.R_make_step Kd.string _ 9 (by rfl) (N := 16) rfl 110 _ _ rfl ji3 rfl rfl Try.underlying110 (.string ⟨#[]⟩) 16 info9 rfl (by decide) (by omega) (⟨#[]⟩ : ByteArray) (ok := fun _ => True) (okp := fun _ => True) rfl (fun _ hk => hk) trivial (of_decide_eq_true (by first | (with_reducible assumption) | assumption)) (Nat.le_trans (Nat.mul_le_mul_right _ (of_decide_eq_true (by first | (with_reducible assumption) | assumption) : ji3.toNat ≤ 17592186044416)) (by omega)) (Below.refl _ _) (Nat.le_refl _) ?_
             intro v137 w10 ho11 hb hg_ hnew_
             clear hg_ hnew_
             (first | rw [← Ny136.out] at ho11 | (simp only [Int.reduceToNat] at ho11; rw [← Ny136.out] at ho11))
             have n0_ := Aside0.mk (Kd.R_lower ho11 (below_size (by repeat (first | (with_reducible first | exact HB.out | apply below_alloc | apply pw_below_drewN | apply below_drew1 | refine below_set ?_ GE133.out) | exact HB.out))))
             have n1_ := Aside0.mk (blk_below (g := gb133) (o := .cells #[.slice none 0 0, .slice none 0 0] 113 (0, 0)) (by (with_reducible repeat (first | refine blk_drewN ?_ _ | refine blk_drew ?_ | refine blk_alloc ?_ _)); exact BK133.out) hb)
             have n2_ := Aside0.mk (below_step (by repeat (first | (with_reducible first | exact HB.out | apply below_alloc | apply pw_below_drewN | apply below_drew1 | refine below_set ?_ GE133.out) | exact HB.out)) hb)
             clear BK133
             clear HB
             have HO138 := n0_
             have BK133 := n1_
             have HB := n2_
             clear n0_ n1_ n2_
             clear hb ho11
             refine hK.out _ _ trivial (fun hHeld => ?_)
             clear hK K
             refine norm_ (a' := ?_) ?_ ?_
             rotate_left
             ·
              show Act.put _ (some 16) _ = _
              simp only [Act.put, List.setIfInBounds_toArray, List.set_cons_zero, List.set_cons_succ, i64_w, i32_w]
              rfl
             exact norm_ (by first | (simp only [putAll, Act.put, List.setIfInBounds_toArray, List.set_cons_zero, List.set_cons_succ]; done) | (simp only [putAll, Act.put, List.setIfInBounds_toArray, List.set_cons_zero, List.set_cons_succ]; rfl)) (hJ2 (v137) _ ⟨(by (with_reducible repeat (first | apply Kd.R_alloc | apply Kd.R_drewN | apply Kd.R_drew)); exact HO138.out), (by (with_reducible repeat (first | refine blk_drewN ?_ _ | refine blk_drew ?_ | refine blk_alloc ?_ _)); exact BK133.out), (by repeat (first | (with_reducible first | exact HB.out | apply below_alloc | apply pw_below_drewN | apply below_drew1 | refine below_set ?_ GE133.out) | exact HB.out))⟩)
            ·
             skip
             refine Kd.R_make_step Kd.bool _ 4 (by rfl) (N := 18) rfl 111 _ _ rfl t134 rfl rfl Try.underlying111 (.bool false) 1 info4 rfl (by decide) (by omega) false (ok := fun _ => True) (okp := fun _ => True) rfl (fun _ hk => hk) trivial (of_decide_eq_true (by first | (with_reducible assumption) | assumption)) (Nat.le_trans (Nat.mul_le_mul_right _ (of_decide_eq_true (by first | (with_reducible assumption) | assumption) : t134.toNat ≤ 281474976710656)) (by omega)) (Below.refl _ _) (Nat.le_refl _) ?_
             intro v140 w10 ho11 hb hg_ hnew_
             clear hg_ hnew_
             (first | rw [← Ny139.out] at ho11 | (simp only [Int.reduceToNat] at ho11; rw [← Ny139.out] at ho11))
             have n0_ := Aside0.mk (Kd.R_lower ho11 (below_size (by repeat (first | (with_reducible first | exact HB.out | apply below_alloc | apply pw_below_drewN | apply below_drew1 | refine below_set ?_ GE133.out) | exact HB.out))))
             have n1_ := Aside0.mk (blk_below (g := gb133) (o := .cells #[.slice none 0 0, .slice none 0 0] 113 (0, 0)) (by (with_reducible repeat (first | refine blk_drewN ?_ _ | refine blk_drew ?_ | refine blk_alloc ?_ _)); exact BK133.out) hb)
             have n2_ := Aside0.mk (below_step (by repeat (first | (with_reducible first | exact HB.out | apply below_alloc | apply pw_below_drewN | apply below_drew1 | refine below_set ?_ GE133.out) | exact HB.out)) hb)
             clear BK133
             clear HB
             have HO141 := n0_
             have BK133 := n1_
             have HB := n2_
             clear n0_ n1_ n2_
             clear hb ho11
             refine hK.out _ _ trivial (fun hHeld => ?_)
             clear hK K
             refine norm_ (a' := ?_) ?_ ?_
             rotate_left
             ·
              show Act.put _ (some 18) _ = _
              simp only [Act.put, List.setIfInBounds_toArray, List.set_cons_zero, List.set_cons_succ, i64_w, i32_w]
              rfl
             exact norm_ (by first | (simp only [putAll, Act.put, List.setIfInBounds_toArray, List.set_cons_zero, List.set_cons_succ]; done) | (simp only [putAll, Act.put, List.setIfInBounds_toArray, List.set_cons_zero, List.set_cons_succ]; rfl)) (hJ4 (v140) _ ⟨(by (with_reducible repeat (first | apply Kd.R_alloc | apply Kd.R_drewN | apply Kd.R_drew)); exact HO141.out), (by (with_reducible repeat (first | refine blk_drewN ?_ _ | refine blk_drew ?_ | refine blk_alloc ?_ _)); exact BK133.out), (by repeat (first | (with_reducible first | exact HB.out | apply below_alloc | apply pw_below_drewN | apply below_drew1 | refine below_set ?_ GE133.out) | exact HB.out))⟩)
            ·
             skip
             refine box_step ?hg (N := 5) ?hd (cs := #[.slice none 0 0, .slice none 0 0]) (t := 113) ?hr ?_; (case hd => rfl); (case hg => rfl); (case hr => first | (go_simp; done) | (go_simp; rfl))
             intro gb142 hg w10 hbox hb
             have n0_ := Aside0.mk (blk_below (g := gb133) (o := .cells #[.slice none 0 0, .slice none 0 0] 113 (0, 0)) (by (with_reducible repeat (first | refine blk_drewN ?_ _ | refine blk_drew ?_ | refine blk_alloc ?_ _)); exact BK133.out) hb)
             have n1_ := Aside0.mk (below_step (by repeat (first | (with_reducible first | exact HB.out | apply below_alloc | apply pw_below_drewN | apply below_drew1 | refine below_set ?_ GE133.out) | exact HB.out)) hb)
             have n2_ := Aside0.mk (hbox)
             have n3_ := Aside0.mk ((by rw [hg]; exact (below_size (by repeat (first | (with_reducible first | exact HB.out | apply below_alloc | apply pw_below_drewN | apply below_drew1 | refine below_set ?_ GE133.out) | exact HB.out))) : w.heap.size ≤ gb142))
             have n4_ := Aside0.mk ((by rw [hg]; exact (below_size (by repeat (first | (with_reducible first | exact HB.out | apply below_alloc | apply pw_below_drewN | apply below_drew1 | refine below_set ?_ GE133.out) | exact HB.out))) : w.heap.size ≤ gb142))
             have n5_ := Aside0.mk ((by rw [hg]; exact Nat.ne_of_lt (blk_lt (g := gb133) (o := .cells #[.slice none 0 0, .slice none 0 0] 113 (0, 0)) (by (with_reducible repeat (first | refine blk_drewN ?_ _ | refine blk_drew ?_ | refine blk_alloc ?_ _)); exact BK133.out)) : gb133 ≠ gb142))
             have n6_ := Aside0.mk ((by rw [hg]; exact Nat.ne_of_gt (blk_lt (g := gb133) (o := .cells #[.slice none 0 0, .slice none 0 0] 113 (0, 0)) (by (with_reducible repeat (first | refine blk_drewN ?_ _ | refine blk_drew ?_ | refine blk_alloc ?_ _)); exact BK133.out)) : gb142 ≠ gb133))
             clear BK133
             clear HB
             have BK133 := n0_
             have HB := n1_
             have BK142 := n2_
             have GW142 := n3_
             have GE142 := n4_
             have NB133_142 := n5_
             have NB142_133 := n6_
             clear n0_ n1_ n2_ n3_ n4_ n5_ n6_
             clear hb hbox hg
             refine hK.out _ _ trivial (fun hHeld => ?_)
             clear hK K
             refine norm_ (a' := ?_) ?_ ?_
             rotate_left
             ·
              show Act.put _ (some 5) _ = _
              simp only [Act.put, List.setIfInBounds_toArray, List.set_cons_zero, List.set_cons_succ, i64_w, i32_w]
              rfl
             exact norm_ (by first | (simp only [putAll, Act.put, List.setIfInBounds_toArray, List.set_cons_zero, List.set_cons_succ]; done) | (simp only [putAll, Act.put, List.setIfInBounds_toArray, List.set_cons_zero, List.set_cons_succ]; rfl)) (hJ6 (gb142) _ ⟨(by (with_reducible repeat (first | refine blk_drewN ?_ _ | refine blk_drew ?_ | refine blk_alloc ?_ _)); exact BK133.out), (by (with_reducible repeat (first | refine blk_drewN ?_ _ | refine blk_drew ?_ | refine blk_alloc ?_ _)); exact BK142.out), GW142.out, GE142.out, NB133_142.out, NB142_133.out, (by repeat (first | (with_reducible first | exact HB.out | apply below_alloc | apply pw_below_drewN | apply below_drew1 | refine below_set ?_ GE133.out | refine below_set ?_ GE142.out) | exact HB.out))⟩)
           ·
            skip
            rintro gb142 w11 ⟨h0_, h1_, h2_, h3_, h4_, h5_, h6_⟩
            have n0_ : Aside0 (w11.heap[gb133]? = some (.cells #[.slice none 0 0, .slice none 0 0] 113 (0, 0))) := ⟨h0_⟩
            have n1_ : Aside0 (w11.heap[gb142]? = some (.cells #[.slice none 0 0, .slice none 0 0] 113 (0, 0))) := ⟨h1_⟩
            have n2_ : Aside0 (w.heap.size ≤ gb142) := ⟨h2_⟩
            have n3_ : Aside0 (w.heap.size ≤ gb142) := ⟨h3_⟩
            have n4_ : Aside0 (gb133 ≠ gb142) := ⟨h4_⟩
            have n5_ : Aside0 (gb142 ≠ gb133) := ⟨h5_⟩
            have n6_ : Aside0 (Below w.heap.size w w11) := ⟨h6_⟩
            clear BK133
            clear HB
            clear h0_ h1_ h2_ h3_ h4_ h5_ h6_
            have BK133 := n0_
            have BK142 := n1_
            have GW142 := n2_
            have GE142 := n3_
            have NB133_142 := n4_
            have NB142_133 := n5_
            have HB := n6_
            clear n0_ n1_ n2_ n3_ n4_ n5_ n6_
            have hHeld := trivial
            refine norm_ (a' := ?_) ?_ ?_
            rotate_left
            ·
             simp only [putAll, Act.put, List.setIfInBounds_toArray, List.set_cons_zero, List.set_cons_succ]
             rfl
            refine two_ (i := 2) (j := 4) (Ni := some 16) (Nj := some 18) #[true, true, true, true, false, false, true, false] #[true, true, false, true, true, false, true, false] rfl rfl rfl rfl (two_of HT_.out (by kernel_rfl)) (by decide) (by decide) (fun K hK => ?_) (fun K hK => ?_)
            ·
             skip
             refine Kd.R_make_step Kd.string _ 9 (by rfl) (N := 16) rfl 110 _ _ rfl ji3 rfl rfl Try.underlying110 (.string ⟨#[]⟩) 16 info9 rfl (by decide) (by omega) (⟨#[]⟩ : ByteArray) (ok := fun _ => True) (okp := fun _ => True) rfl (fun _ hk => hk) trivial (of_decide_eq_true (by first | (with_reducible assumption) | assumption)) (Nat.le_trans (Nat.mul_le_mul_right _ (of_decide_eq_true (by first | (with_reducible assumption) | assumption) : ji3.toNat ≤ 17592186044416)) (by omega)) (Below.refl _ _) (Nat.le_refl _) ?_
             intro v137 w12 ho13 hb hg_ hnew_
             clear hg_ hnew_
             (first | rw [← Ny136.out] at ho13 | (simp only [Int.reduceToNat] at ho13; rw [← Ny136.out] at ho13))
             have n0_ := Aside0.mk (Kd.R_lower ho13 (below_size (by repeat (first | (with_reducible first | exact HB.out | apply below_alloc | apply pw_below_drewN | apply below_drew1 | refine below_set ?_ GE133.out | refine below_set ?_ GE142.out) | exact HB.out))))
             have n1_ := Aside0.mk (blk_below (g := gb133) (o := .cells #[.slice none 0 0, .slice none 0 0] 113 (0, 0)) (by (with_reducible repeat (first | refine blk_drewN ?_ _ | refine blk_drew ?_ | refine blk_alloc ?_ _)); exact BK133.out) hb)
             have n2_ := Aside0.mk (blk_below (g := gb142) (o := .cells #[.slice none 0 0, .slice none 0 0] 113 (0, 0)) (by (with_reducible repeat (first | refine blk_drewN ?_ _ | refine blk_drew ?_ | refine blk_alloc ?_ _)); exact BK142.out) hb)
             have n3_ := Aside0.mk (below_step (by repeat (first | (with_reducible first | exact HB.out | apply below_alloc | apply pw_below_drewN | apply below_drew1 | refine below_set ?_ GE133.out | refine below_set ?_ GE142.out) | exact HB.out)) hb)
             clear BK133
             clear BK142
             clear HB
             have HO138 := n0_
             have BK133 := n1_
             have BK142 := n2_
             have HB := n3_
             clear n0_ n1_ n2_ n3_
             clear hb ho13
             refine hK.out _ _ trivial (fun hHeld => ?_)
             clear hK K
             refine norm_ (a' := ?_) ?_ ?_
             rotate_left
             ·
              show Act.put _ (some 16) _ = _
              simp only [Act.put, List.setIfInBounds_toArray, List.set_cons_zero, List.set_cons_succ, i64_w, i32_w]
              rfl
             exact norm_ (by first | (simp only [putAll, Act.put, List.setIfInBounds_toArray, List.set_cons_zero, List.set_cons_succ]; done) | (simp only [putAll, Act.put, List.setIfInBounds_toArray, List.set_cons_zero, List.set_cons_succ]; rfl)) (hJ2_6 (v137, gb142) _ ⟨(by (with_reducible repeat (first | apply Kd.R_alloc | apply Kd.R_drewN | apply Kd.R_drew)); exact HO138.out), (by (with_reducible repeat (first | refine blk_drewN ?_ _ | refine blk_drew ?_ | refine blk_alloc ?_ _)); exact BK133.out), (by (with_reducible repeat (first | refine blk_drewN ?_ _ | refine blk_drew ?_ | refine blk_alloc ?_ _)); exact BK142.out), GW142.out, GE142.out, NB133_142.out, NB142_133.out, (by repeat (first | (with_reducible first | exact HB.out | apply below_alloc | apply pw_below_drewN | apply below_drew1 | refine below_set ?_ GE133.out | refine below_set ?_ GE142.out) | exact HB.out))⟩)
            ·
             skip
             refine Kd.R_make_step Kd.bool _ 4 (by rfl) (N := 18) rfl 111 _ _ rfl t134 rfl rfl Try.underlying111 (.bool false) 1 info4 rfl (by decide) (by omega) false (ok := fun _ => True) (okp := fun _ => True) rfl (fun _ hk => hk) trivial (of_decide_eq_true (by first | (with_reducible assumption) | assumption)) (Nat.le_trans (Nat.mul_le_mul_right _ (of_decide_eq_true (by first | (with_reducible assumption) | assumption) : t134.toNat ≤ 281474976710656)) (by omega)) (Below.refl _ _) (Nat.le_refl _) ?_
             intro v140 w12 ho13 hb hg_ hnew_
             clear hg_ hnew_
             (first | rw [← Ny139.out] at ho13 | (simp only [Int.reduceToNat] at ho13; rw [← Ny139.out] at ho13))
             have n0_ := Aside0.mk (Kd.R_lower ho13 (below_size (by repeat (first | (with_reducible first | exact HB.out | apply below_alloc | apply pw_below_drewN | apply below_drew1 | refine below_set ?_ GE133.out | refine below_set ?_ GE142.out) | exact HB.out))))
             have n1_ := Aside0.mk (blk_below (g := gb133) (o := .cells #[.slice none 0 0, .slice none 0 0] 113 (0, 0)) (by (with_reducible repeat (first | refine blk_drewN ?_ _ | refine blk_drew ?_ | refine blk_alloc ?_ _)); exact BK133.out) hb)
             have n2_ := Aside0.mk (blk_below (g := gb142) (o := .cells #[.slice none 0 0, .slice none 0 0] 113 (0, 0)) (by (with_reducible repeat (first | refine blk_drewN ?_ _ | refine blk_drew ?_ | refine blk_alloc ?_ _)); exact BK142.out) hb)
             have n3_ := Aside0.mk (below_step (by repeat (first | (with_reducible first | exact HB.out | apply below_alloc | apply pw_below_drewN | apply below_drew1 | refine below_set ?_ GE133.out | refine below_set ?_ GE142.out) | exact HB.out)) hb)
             clear BK133
             clear BK142
             clear HB
             have HO141 := n0_
             have BK133 := n1_
             have BK142 := n2_
             have HB := n3_
             clear n0_ n1_ n2_ n3_
             clear hb ho13
             refine hK.out _ _ trivial (fun hHeld => ?_)
             clear hK K
             refine norm_ (a' := ?_) ?_ ?_
             rotate_left
             ·
              show Act.put _ (some 18) _ = _
              simp only [Act.put, List.setIfInBounds_toArray, List.set_cons_zero, List.set_cons_succ, i64_w, i32_w]
              rfl
             exact norm_ (by first | (simp only [putAll, Act.put, List.setIfInBounds_toArray, List.set_cons_zero, List.set_cons_succ]; done) | (simp only [putAll, Act.put, List.setIfInBounds_toArray, List.set_cons_zero, List.set_cons_succ]; rfl)) (hJ4_6 (v140, gb142) _ ⟨(by (with_reducible repeat (first | apply Kd.R_alloc | apply Kd.R_drewN | apply Kd.R_drew)); exact HO141.out), (by (with_reducible repeat (first | refine blk_drewN ?_ _ | refine blk_drew ?_ | refine blk_alloc ?_ _)); exact BK133.out), (by (with_reducible repeat (first | refine blk_drewN ?_ _ | refine blk_drew ?_ | refine blk_alloc ?_ _)); exact BK142.out), GW142.out, GE142.out, NB133_142.out, NB142_133.out, (by repeat (first | (with_reducible first | exact HB.out | apply below_alloc | apply pw_below_drewN | apply below_drew1 | refine below_set ?_ GE133.out | refine below_set ?_ GE142.out) | exact HB.out))⟩)
          ·
           skip
           rintro v140 w12 ⟨h0_, h1_, h2_⟩
           have n0_ : Aside0 (Kd.R Kd.bool 4 w12 w.heap.size (fun _ => True) v140 y139) := ⟨h0_⟩
           have n1_ : Aside0 (w12.heap[gb133]? = some (.cells #[.slice none 0 0, .slice none 0 0] 113 (0, 0))) := ⟨h1_⟩
           have n2_ : Aside0 (Below w.heap.size w w12) := ⟨h2_⟩
           clear BK133
           clear HB
           clear h0_ h1_ h2_
           have HO141 := n0_
           have BK133 := n1_
           have HB := n2_
           clear n0_ n1_ n2_
           have hHeld := trivial
           refine norm_ (a' := ?_) ?_ ?_
           rotate_left
           ·
            simp only [putAll, Act.put, List.setIfInBounds_toArray, List.set_cons_zero, List.set_cons_succ]
            rfl
           refine two_ (i := 2) (j := 6) (Ni := some 16) (Nj := some 5) #[true, true, true, true, true, false, false, false] #[true, true, false, true, true, false, true, false] rfl rfl rfl rfl (two_of HT_.out (by kernel_rfl)) (by decide) (by decide) (fun K hK => ?_) (fun K hK => ?_)
           ·
            skip
            refine Kd.R_make_step Kd.string _ 9 (by rfl) (N := 16) rfl 110 _ _ rfl ji3 rfl rfl Try.underlying110 (.string ⟨#[]⟩) 16 info9 rfl (by decide) (by omega) (⟨#[]⟩ : ByteArray) (ok := fun _ => True) (okp := fun _ => True) rfl (fun _ hk => hk) trivial (of_decide_eq_true (by first | (with_reducible assumption) | assumption)) (Nat.le_trans (Nat.mul_le_mul_right _ (of_decide_eq_true (by first | (with_reducible assumption) | assumption) : ji3.toNat ≤ 17592186044416)) (by omega)) (Below.refl _ _) (Nat.le_refl _) ?_
            intro v137 w13 ho14 hb hg_ hnew_
            clear hg_ hnew_
            (first | rw [← Ny136.out] at ho14 | (simp only [Int.reduceToNat] at ho14; rw [← Ny136.out] at ho14))
            have n0_ := Aside0.mk (Kd.R_below (by (with_reducible repeat (first | apply Kd.R_alloc | apply Kd.R_drewN | apply Kd.R_drew)); exact HO141.out) hb)
            have n1_ := Aside0.mk (Kd.R_lower ho14 (below_size (by repeat (first | (with_reducible first | exact HB.out | apply below_alloc | apply pw_below_drewN | apply below_drew1 | refine below_set ?_ GE133.out) | exact HB.out))))
            have n2_ := Aside0.mk (blk_below (g := gb133) (o := .cells #[.slice none 0 0, .slice none 0 0] 113 (0, 0)) (by (with_reducible repeat (first | refine blk_drewN ?_ _ | refine blk_drew ?_ | refine blk_alloc ?_ _)); exact BK133.out) hb)
            have n3_ := Aside0.mk (below_step (by repeat (first | (with_reducible first | exact HB.out | apply below_alloc | apply pw_below_drewN | apply below_drew1 | refine below_set ?_ GE133.out) | exact HB.out)) hb)
            clear HO141
            clear BK133
            clear HB
            have HO141 := n0_
            have HO138 := n1_
            have BK133 := n2_
            have HB := n3_
            clear n0_ n1_ n2_ n3_
            clear hb ho14
            obtain ⟨Ao15, co15, eo15⟩ := Kd.R_slice HO141.out
            (first | subst eo15 | (injection eo15 with f1_ f2_ f3_; have f4_ := f1_.symm; have f5_ := f3_.symm; clear f1_ f2_ f3_; subst f4_; subst f5_))
            obtain ⟨Ao16, co16, eo16⟩ := Kd.R_slice HO138.out
            (first | subst eo16 | (injection eo16 with f1_ f2_ f3_; have f4_ := f1_.symm; have f5_ := f3_.symm; clear f1_ f2_ f3_; subst f4_; subst f5_))
            refine hK.out _ _ trivial (fun hHeld => ?_)
            clear hK K
            refine norm_ (a' := ?_) ?_ ?_
            rotate_left
            ·
             show Act.put _ (some 16) _ = _
             simp only [Act.put, List.setIfInBounds_toArray, List.set_cons_zero, List.set_cons_succ, i64_w, i32_w]
             rfl
            refine pure_ (i := 5) (N := some 19) (v := ?_) (a' := ?_) #[true, true, true, true, true, true, false, false] rfl rfl (any_of HT_.out (by kernel_rfl)) (fun _ _ _ h => h) (Or.inl ⟨by rfl, ?_⟩) ?_ ?_
            rotate_left
            ·
             intro w'
             go_simp
             with_reducible rfl
            rotate_left
            ·
             simp only [Act.put, List.setIfInBounds_toArray, List.set_cons_zero, List.set_cons_succ, i64_w, i32_w]
             rfl
            exact norm_ (by first | (simp only [putAll, Act.put, List.setIfInBounds_toArray, List.set_cons_zero, List.set_cons_succ]; done) | (simp only [putAll, Act.put, List.setIfInBounds_toArray, List.set_cons_zero, List.set_cons_succ]; rfl)) (hJ2_4 (.slice Ao16 y136.length co16, .slice Ao15 y139.length co15) _ ⟨(by (with_reducible repeat (first | apply Kd.R_alloc | apply Kd.R_drewN | apply Kd.R_drew)); exact HO138.out), (by (with_reducible repeat (first | apply Kd.R_alloc | apply Kd.R_drewN | apply Kd.R_drew)); exact HO141.out), (by (with_reducible repeat (first | refine blk_drewN ?_ _ | refine blk_drew ?_ | refine blk_alloc ?_ _)); exact BK133.out), (by repeat (first | (with_reducible first | exact HB.out | apply below_alloc | apply pw_below_drewN | apply below_drew1 | refine below_set ?_ GE133.out) | exact HB.out))⟩)
           ·
            skip
            refine box_step ?hg (N := 5) ?hd (cs := #[.slice none 0 0, .slice none 0 0]) (t := 113) ?hr ?_; (case hd => rfl); (case hg => rfl); (case hr => first | (go_simp; done) | (go_simp; rfl))
            intro gb142 hg w13 hbox hb
            have n0_ := Aside0.mk (Kd.R_below (by (with_reducible repeat (first | apply Kd.R_alloc | apply Kd.R_drewN | apply Kd.R_drew)); exact HO141.out) hb)
            have n1_ := Aside0.mk (blk_below (g := gb133) (o := .cells #[.slice none 0 0, .slice none 0 0] 113 (0, 0)) (by (with_reducible repeat (first | refine blk_drewN ?_ _ | refine blk_drew ?_ | refine blk_alloc ?_ _)); exact BK133.out) hb)
            have n2_ := Aside0.mk (below_step (by repeat (first | (with_reducible first | exact HB.out | apply below_alloc | apply pw_below_drewN | apply below_drew1 | refine below_set ?_ GE133.out) | exact HB.out)) hb)
            have n3_ := Aside0.mk (hbox)
            have n4_ := Aside0.mk ((by rw [hg]; exact (below_size (by repeat (first | (with_reducible first | exact HB.out | apply below_alloc | apply pw_below_drewN | apply below_drew1 | refine below_set ?_ GE133.out) | exact HB.out))) : w.heap.size ≤ gb142))
            have n5_ := Aside0.mk ((by rw [hg]; exact (below_size (by repeat (first | (with_reducible first | exact HB.out | apply below_alloc | apply pw_below_drewN | apply below_drew1 | refine below_set ?_ GE133.out) | exact HB.out))) : w.heap.size ≤ gb142))
            have n6_ := Aside0.mk ((by rw [hg]; exact Nat.ne_of_lt (blk_lt (g := gb133) (o := .cells #[.slice none 0 0, .slice none 0 0] 113 (0, 0)) (by (with_reducible repeat (first | refine blk_drewN ?_ _ | refine blk_drew ?_ | refine blk_alloc ?_ _)); exact BK133.out)) : gb133 ≠ gb142))
            have n7_ := Aside0.mk ((by rw [hg]; exact Nat.ne_of_gt (blk_lt (g := gb133) (o := .cells #[.slice none 0 0, .slice none 0 0] 113 (0, 0)) (by (with_reducible repeat (first | refine blk_drewN ?_ _ | refine blk_drew ?_ | refine blk_alloc ?_ _)); exact BK133.out)) : gb142 ≠ gb133))
            clear HO141
            clear BK133
            clear HB
            have HO141 := n0_
            have BK133 := n1_
            have HB := n2_
            have BK142 := n3_
            have GW142 := n4_
            have GE142 := n5_
            have NB133_142 := n6_
            have NB142_133 := n7_
            clear n0_ n1_ n2_ n3_ n4_ n5_ n6_ n7_
            clear hb hbox hg
            refine hK.out _ _ trivial (fun hHeld => ?_)
            clear hK K
            refine norm_ (a' := ?_) ?_ ?_
            rotate_left
            ·
             show Act.put _ (some 5) _ = _
             simp only [Act.put, List.setIfInBounds_toArray, List.set_cons_zero, List.set_cons_succ, i64_w, i32_w]
             rfl
            exact norm_ (by first | (simp only [putAll, Act.put, List.setIfInBounds_toArray, List.set_cons_zero, List.set_cons_succ]; done) | (simp only [putAll, Act.put, List.setIfInBounds_toArray, List.set_cons_zero, List.set_cons_succ]; rfl)) (hJ4_6 (v140, gb142) _ ⟨(by (with_reducible repeat (first | apply Kd.R_alloc | apply Kd.R_drewN | apply Kd.R_drew)); exact HO141.out), (by (with_reducible repeat (first | refine blk_drewN ?_ _ | refine blk_drew ?_ | refine blk_alloc ?_ _)); exact BK133.out), (by (with_reducible repeat (first | refine blk_drewN ?_ _ | refine blk_drew ?_ | refine blk_alloc ?_ _)); exact BK142.out), GW142.out, GE142.out, NB133_142.out, NB142_133.out, (by repeat (first | (with_reducible first | exact HB.out | apply below_alloc | apply pw_below_drewN | apply below_drew1 | refine below_set ?_ GE133.out | refine below_set ?_ GE142.out) | exact HB.out))⟩)
         ·
          skip
          rintro v137 w12 ⟨h0_, h1_, h2_⟩
          have n0_ : Aside0 (Kd.R Kd.string 9 w12 w.heap.size (fun _ => True) v137 y136) := ⟨h0_⟩
          have n1_ : Aside0 (w12.heap[gb133]? = some (.cells #[.slice none 0 0, .slice none 0 0] 113 (0, 0))) := ⟨h1_⟩
          have n2_ : Aside0 (Below w.heap.size w w12) := ⟨h2_⟩
          clear BK133
          clear HB
          clear h0_ h1_ h2_
          have HO138 := n0_
          have BK133 := n1_
          have HB := n2_
          clear n0_ n1_ n2_
          have hHeld := trivial
          refine norm_ (a' := ?_) ?_ ?_
          rotate_left
          ·
           simp only [putAll, Act.put, List.setIfInBounds_toArray, List.set_cons_zero, List.set_cons_succ]
           rfl
          refine two_ (i := 4) (j := 6) (Ni := some 18) (Nj := some 5) #[true, true, true, true, true, false, false, false] #[true, true, true, true, false, false, true, false] rfl rfl rfl rfl (two_of HT_.out (by kernel_rfl)) (by decide) (by decide) (fun K hK => ?_) (fun K hK => ?_)
          ·
           skip
           refine Kd.R_make_step Kd.bool _ 4 (by rfl) (N := 18) rfl 111 _ _ rfl t134 rfl rfl Try.underlying111 (.bool false) 1 info4 rfl (by decide) (by omega) false (ok := fun _ => True) (okp := fun _ => True) rfl (fun _ hk => hk) trivial (of_decide_eq_true (by first | (with_reducible assumption) | assumption)) (Nat.le_trans (Nat.mul_le_mul_right _ (of_decide_eq_true (by first | (with_reducible assumption) | assumption) : t134.toNat ≤ 281474976710656)) (by omega)) (Below.refl _ _) (Nat.le_refl _) ?_
           intro v140 w13 ho14 hb hg_ hnew_
           clear hg_ hnew_
           (first | rw [← Ny139.out] at ho14 | (simp only [Int.reduceToNat] at ho14; rw [← Ny139.out] at ho14))
           have n0_ := Aside0.mk (Kd.R_below (by (with_reducible repeat (first | apply Kd.R_alloc | apply Kd.R_drewN | apply Kd.R_drew)); exact HO138.out) hb)
           have n1_ := Aside0.mk (Kd.R_lower ho14 (below_size (by repeat (first | (with_reducible first | exact HB.out | apply below_alloc | apply pw_below_drewN | apply below_drew1 | refine below_set ?_ GE133.out) | exact HB.out))))
           have n2_ := Aside0.mk (blk_below (g := gb133) (o := .cells #[.slice none 0 0, .slice none 0 0] 113 (0, 0)) (by (with_reducible repeat (first | refine blk_drewN ?_ _ | refine blk_drew ?_ | refine blk_alloc ?_ _)); exact BK133.out) hb)
           have n3_ := Aside0.mk (below_step (by repeat (first | (with_reducible first | exact HB.out | apply below_alloc | apply pw_below_drewN | apply below_drew1 | refine below_set ?_ GE133.out) | exact HB.out)) hb)
           clear HO138
           clear BK133
           clear HB
           have HO138 := n0_
           have HO141 := n1_
           have BK133 := n2_
           have HB := n3_
           clear n0_ n1_ n2_ n3_
           clear hb ho14
           obtain ⟨Ao15, co15, eo15⟩ := Kd.R_slice HO141.out
           (first | subst eo15 | (injection eo15 with f1_ f2_ f3_; have f4_ := f1_.symm; have f5_ := f3_.symm; clear f1_ f2_ f3_; subst f4_; subst f5_))
           obtain ⟨Ao16, co16, eo16⟩ := Kd.R_slice HO138.out
           (first | subst eo16 | (injection eo16 with f1_ f2_ f3_; have f4_ := f1_.symm; have f5_ := f3_.symm; clear f1_ f2_ f3_; subst f4_; subst f5_))
           refine hK.out _ _ trivial (fun hHeld => ?_)
           clear hK K
           refine norm_ (a' := ?_) ?_ ?_
           rotate_left
           ·
            show Act.put _ (some 18) _ = _
            simp only [Act.put, List.setIfInBounds_toArray, List.set_cons_zero, List.set_cons_succ, i64_w, i32_w]
            rfl
           refine pure_ (i := 5) (N := some 19) (v := ?_) (a' := ?_) #[true, true, true, true, true, true, false, false] rfl rfl (any_of HT_.out (by kernel_rfl)) (fun _ _ _ h => h) (Or.inl ⟨by rfl, ?_⟩) ?_ ?_
           rotate_left
           ·
            intro w'
            go_simp
            with_reducible rfl
           rotate_left
           ·
            simp only [Act.put, List.setIfInBounds_toArray, List.set_cons_zero, List.set_cons_succ, i64_w, i32_w]
            rfl
           exact norm_ (by first | (simp only [putAll, Act.put, List.setIfInBounds_toArray, List.set_cons_zero, List.set_cons_succ]; done) | (simp only [putAll, Act.put, List.setIfInBounds_toArray, List.set_cons_zero, List.set_cons_succ]; rfl)) (hJ2_4 (.slice Ao16 y136.length co16, .slice Ao15 y139.length co15) _ ⟨(by (with_reducible repeat (first | apply Kd.R_alloc | apply Kd.R_drewN | apply Kd.R_drew)); exact HO138.out), (by (with_reducible repeat (first | apply Kd.R_alloc | apply Kd.R_drewN | apply Kd.R_drew)); exact HO141.out), (by (with_reducible repeat (first | refine blk_drewN ?_ _ | refine blk_drew ?_ | refine blk_alloc ?_ _)); exact BK133.out), (by repeat (first | (with_reducible first | exact HB.out | apply below_alloc | apply pw_below_drewN | apply below_drew1 | refine below_set ?_ GE133.out) | exact HB.out))⟩)
          ·
           skip
           refine box_step ?hg (N := 5) ?hd (cs := #[.slice none 0 0, .slice none 0 0]) (t := 113) ?hr ?_; (case hd => rfl); (case hg => rfl); (case hr => first | (go_simp; done) | (go_simp; rfl))
           intro gb142 hg w13 hbox hb
           have n0_ := Aside0.mk (Kd.R_below (by (with_reducible repeat (first | apply Kd.R_alloc | apply Kd.R_drewN | apply Kd.R_drew)); exact HO138.out) hb)
           have n1_ := Aside0.mk (blk_below (g := gb133) (o := .cells #[.slice none 0 0, .slice none 0 0] 113 (0, 0)) (by (with_reducible repeat (first | refine blk_drewN ?_ _ | refine blk_drew ?_ | refine blk_alloc ?_ _)); exact BK133.out) hb)
           have n2_ := Aside0.mk (below_step (by repeat (first | (with_reducible first | exact HB.out | apply below_alloc | apply pw_below_drewN | apply below_drew1 | refine below_set ?_ GE133.out) | exact HB.out)) hb)
           have n3_ := Aside0.mk (hbox)
           have n4_ := Aside0.mk ((by rw [hg]; exact (below_size (by repeat (first | (with_reducible first | exact HB.out | apply below_alloc | apply pw_below_drewN | apply below_drew1 | refine below_set ?_ GE133.out) | exact HB.out))) : w.heap.size ≤ gb142))
           have n5_ := Aside0.mk ((by rw [hg]; exact (below_size (by repeat (first | (with_reducible first | exact HB.out | apply below_alloc | apply pw_below_drewN | apply below_drew1 | refine below_set ?_ GE133.out) | exact HB.out))) : w.heap.size ≤ gb142))
           have n6_ := Aside0.mk ((by rw [hg]; exact Nat.ne_of_lt (blk_lt (g := gb133) (o := .cells #[.slice none 0 0, .slice none 0 0] 113 (0, 0)) (by (with_reducible repeat (first | refine blk_drewN ?_ _ | refine blk_drew ?_ | refine blk_alloc ?_ _)); exact BK133.out)) : gb133 ≠ gb142))
           have n7_ := Aside0.mk ((by rw [hg]; exact Nat.ne_of_gt (blk_lt (g := gb133) (o := .cells #[.slice none 0 0, .slice none 0 0] 113 (0, 0)) (by (with_reducible repeat (first | refine blk_drewN ?_ _ | refine blk_drew ?_ | refine blk_alloc ?_ _)); exact BK133.out)) : gb142 ≠ gb133))
           clear HO138
           clear BK133
           clear HB
           have HO138 := n0_
           have BK133 := n1_
           have HB := n2_
           have BK142 := n3_
           have GW142 := n4_
           have GE142 := n5_
           have NB133_142 := n6_
           have NB142_133 := n7_
           clear n0_ n1_ n2_ n3_ n4_ n5_ n6_ n7_
           clear hb hbox hg
           refine hK.out _ _ trivial (fun hHeld => ?_)
           clear hK K
           refine norm_ (a' := ?_) ?_ ?_
           rotate_left
           ·
            show Act.put _ (some 5) _ = _
            simp only [Act.put, List.setIfInBounds_toArray, List.set_cons_zero, List.set_cons_succ, i64_w, i32_w]
            rfl
           exact norm_ (by first | (simp only [putAll, Act.put, List.setIfInBounds_toArray, List.set_cons_zero, List.set_cons_succ]; done) | (simp only [putAll, Act.put, List.setIfInBounds_toArray, List.set_cons_zero, List.set_cons_succ]; rfl)) (hJ2_6 (v137, gb142) _ ⟨(by (with_reducible repeat (first | apply Kd.R_alloc | apply Kd.R_drewN | apply Kd.R_drew)); exact HO138.out), (by (with_reducible repeat (first | refine blk_drewN ?_ _ | refine blk_drew ?_ | refine blk_alloc ?_ _)); exact BK133.out), (by (with_reducible repeat (first | refine blk_drewN ?_ _ | refine blk_drew ?_ | refine blk_alloc ?_ _)); exact BK142.out), GW142.out, GE142.out, NB133_142.out, NB142_133.out, (by repeat (first | (with_reducible first | exact HB.out | apply below_alloc | apply pw_below_drewN | apply below_drew1 | refine below_set ?_ GE133.out | refine below_set ?_ GE142.out) | exact HB.out))⟩)
        ·
         skip
         rintro ⟨v140, gb142⟩ w13 ⟨h0_, h1_, h2_, h3_, h4_, h5_, h6_, h7_⟩
         have n0_ : Aside0 (Kd.R Kd.bool 4 w13 w.heap.size (fun _ => True) v140 y139) := ⟨h0_⟩
         have n1_ : Aside0 (w13.heap[gb133]? = some (.cells #[.slice none 0 0, .slice none 0 0] 113 (0, 0))) := ⟨h1_⟩
         have n2_ : Aside0 (w13.heap[gb142]? = some (.cells #[.slice none 0 0, .slice none 0 0] 113 (0, 0))) := ⟨h2_⟩
         have n3_ : Aside0 (w.heap.size ≤ gb142) := ⟨h3_⟩
         have n4_ : Aside0 (w.heap.size ≤ gb142) := ⟨h4_⟩
         have n5_ : Aside0 (gb133 ≠ gb142) := ⟨h5_⟩
         have n6_ : Aside0 (gb142 ≠ gb133) := ⟨h6_⟩
         have n7_ : Aside0 (Below w.heap.size w w13) := ⟨h7_⟩
         clear BK133
         clear HB
         clear h0_ h1_ h2_ h3_ h4_ h5_ h6_ h7_
         have HO141 := n0_
         have BK133 := n1_
         have BK142 := n2_
         have GW142 := n3_
         have GE142 := n4_
         have NB133_142 := n5_
         have NB142_133 := n6_
         have HB := n7_
         clear n0_ n1_ n2_ n3_ n4_ n5_ n6_ n7_
         have hHeld := trivial
         refine norm_ (a' := ?_) ?_ ?_
         rotate_left
         ·
          simp only [putAll, Act.put, List.setIfInBounds_toArray, List.set_cons_zero, List.set_cons_succ]
          rfl
         refine one_ (i := 2) (N := some 16) #[true, true, true, true, true, false, true, false] rfl rfl (one_of HT_.out (by kernel_rfl)) (by decide) (fun K hK => ?_)
         refine Kd.R_make_step Kd.string _ 9 (by rfl) (N := 16) rfl 110 _ _ rfl ji3 rfl rfl Try.underlying110 (.string ⟨#[]⟩) 16 info9 rfl (by decide) (by omega) (⟨#[]⟩ : ByteArray) (ok := fun _ => True) (okp := fun _ => True) rfl (fun _ hk => hk) trivial (of_decide_eq_true (by first | (with_reducible assumption) | assumption)) (Nat.le_trans (Nat.mul_le_mul_right _ (of_decide_eq_true (by first | (with_reducible assumption) | assumption) : ji3.toNat ≤ 17592186044416)) (by omega)) (Below.refl _ _) (Nat.le_refl _) ?_
         intro v137 w14 ho15 hb hg_ hnew_
         clear hg_ hnew_
         (first | rw [← Ny136.out] at ho15 | (simp only [Int.reduceToNat] at ho15; rw [← Ny136.out] at ho15))
         have n0_ := Aside0.mk (Kd.R_below (by (with_reducible repeat (first | apply Kd.R_alloc | apply Kd.R_drewN | apply Kd.R_drew)); exact HO141.out) hb)
         have n1_ := Aside0.mk (Kd.R_lower ho15 (below_size (by repeat (first | (with_reducible first | exact HB.out | apply below_alloc | apply pw_below_drewN | apply below_drew1 | refine below_set ?_ GE133.out | refine below_set ?_ GE142.out) | exact HB.out))))
         have n2_ := Aside0.mk (blk_below (g := gb133) (o := .cells #[.slice none 0 0, .slice none 0 0] 113 (0, 0)) (by (with_reducible repeat (first | refine blk_drewN ?_ _ | refine blk_drew ?_ | refine blk_alloc ?_ _)); exact BK133.out) hb)
         have n3_ := Aside0.mk (blk_below (g := gb142) (o := .cells #[.slice none 0 0, .slice none 0 0] 113 (0, 0)) (by (with_reducible repeat (first | refine blk_drewN ?_ _ | refine blk_drew ?_ | refine blk_alloc ?_ _)); exact BK142.out) hb)
         have n4_ := Aside0.mk (below_step (by repeat (first | (with_reducible first | exact HB.out | apply below_alloc | apply pw_below_drewN | apply below_drew1 | refine below_set ?_ GE133.out | refine below_set ?_ GE142.out) | exact HB.out)) hb)
         clear HO141
         clear BK133
         clear BK142
         clear HB
         have HO141 := n0_
         have HO138 := n1_
         have BK133 := n2_
         have BK142 := n3_
         have HB := n4_
         clear n0_ n1_ n2_ n3_ n4_
         clear hb ho15
         obtain ⟨Ao16, co16, eo16⟩ := Kd.R_slice HO141.out
         (first | subst eo16 | (injection eo16 with f1_ f2_ f3_; have f4_ := f1_.symm; have f5_ := f3_.symm; clear f1_ f2_ f3_; subst f4_; subst f5_))
         obtain ⟨Ao17, co17, eo17⟩ := Kd.R_slice HO138.out
         (first | subst eo17 | (injection eo17 with f1_ f2_ f3_; have f4_ := f1_.symm; have f5_ := f3_.symm; clear f1_ f2_ f3_; subst f4_; subst f5_))
         refine hK.out _ _ trivial (fun hHeld => ?_)
         clear hK K
         refine norm_ (a' := ?_) ?_ ?_
         rotate_left
         ·
          show Act.put _ (some 16) _ = _
          simp only [Act.put, List.setIfInBounds_toArray, List.set_cons_zero, List.set_cons_succ, i64_w, i32_w]
          rfl
         refine pure_ (i := 5) (N := some 19) (v := ?_) (a' := ?_) #[true, true, true, true, true, true, true, false] rfl rfl (any_of HT_.out (by kernel_rfl)) (fun _ _ _ h => h) (Or.inl ⟨by rfl, ?_⟩) ?_ ?_
         rotate_left
         ·
          intro w'
          go_simp
          with_reducible rfl
         rotate_left
         ·
          simp only [Act.put, List.setIfInBounds_toArray, List.set_cons_zero, List.set_cons_succ, i64_w, i32_w]
          rfl
         exact norm_ (by first | (simp only [putAll, Act.put, List.setIfInBounds_toArray, List.set_cons_zero, List.set_cons_succ]; done) | (simp only [putAll, Act.put, List.setIfInBounds_toArray, List.set_cons_zero, List.set_cons_succ]; rfl)) (hJ2_4_6 (.slice Ao17 y136.length co17, .slice Ao16 y139.length co16, gb142) _ ⟨(by (with_reducible repeat (first | apply Kd.R_alloc | apply Kd.R_drewN | apply Kd.R_drew)); exact HO138.out), (by (with_reducible repeat (first | apply Kd.R_alloc | apply Kd.R_drewN | apply Kd.R_drew)); exact HO141.out), (by (with_reducible repeat (first | refine blk_drewN ?_ _ | refine blk_drew ?_ | refine blk_alloc ?_ _)); exact BK133.out), (by (with_reducible repeat (first | refine blk_drewN ?_ _ | refine blk_drew ?_ | refine blk_alloc ?_ _)); exact BK142.out), GW142.out, GE142.out, NB133_142.out, NB142_133.out, (by repeat (first | (with_reducible first | exact HB.out | apply below_alloc | apply pw_below_drewN | apply below_drew1 | refine below_set ?_ GE133.out | refine below_set ?_ GE142.out) | exact HB.out))⟩)
       ·
        skip
        rintro ⟨v137, gb142⟩ w13 ⟨h0_, h1_, h2_, h3_, h4_, h5_, h6_, h7_⟩
        have n0_ : Aside0 (Kd.R Kd.string 9 w13 w.heap.size (fun _ => True) v137 y136) := ⟨h0_⟩
        have n1_ : Aside0 (w13.heap[gb133]? = some (.cells #[.slice none 0 0, .slice none 0 0] 113 (0, 0))) := ⟨h1_⟩
        have n2_ : Aside0 (w13.heap[gb142]? = some (.cells #[.slice none 0 0, .slice none 0 0] 113 (0, 0))) := ⟨h2_⟩
        have n3_ : Aside0 (w.heap.size ≤ gb142) := ⟨h3_⟩
        have n4_ : Aside0 (w.heap.size ≤ gb142) := ⟨h4_⟩
        have n5_ : Aside0 (gb133 ≠ gb142) := ⟨h5_⟩
        have n6_ : Aside0 (gb142 ≠ gb133) := ⟨h6_⟩
        have n7_ : Aside0 (Below w.heap.size w w13) := ⟨h7_⟩
        clear BK133
        clear HB
        clear h0_ h1_ h2_ h3_ h4_ h5_ h6_ h7_
        have HO138 := n0_
        have BK133 := n1_
        have BK142 := n2_
        have GW142 := n3_
        have GE142 := n4_
        have NB133_142 := n5_
        have NB142_133 := n6_
        have HB := n7_
        clear n0_ n1_ n2_ n3_ n4_ n5_ n6_ n7_
        have hHeld := trivial
        refine norm_ (a' := ?_) ?_ ?_
        rotate_left
        ·
         simp only [putAll, Act.put, List.setIfInBounds_toArray, List.set_cons_zero, List.set_cons_succ]
         rfl
        refine one_ (i := 4) (N := some 18) #[true, true, true, true, true, false, true, false] rfl rfl (one_of HT_.out (by kernel_rfl)) (by decide) (fun K hK => ?_)
        refine Kd.R_make_step Kd.bool _ 4 (by rfl) (N := 18) rfl 111 _ _ rfl t134 rfl rfl Try.underlying111 (.bool false) 1 info4 rfl (by decide) (by omega) false (ok := fun _ => True) (okp := fun _ => True) rfl (fun _ hk => hk) trivial (of_decide_eq_true (by first | (with_reducible assumption) | assumption)) (Nat.le_trans (Nat.mul_le_mul_right _ (of_decide_eq_true (by first | (with_reducible assumption) | assumption) : t134.toNat ≤ 281474976710656)) (by omega)) (Below.refl _ _) (Nat.le_refl _) ?_
        intro v140 w14 ho15 hb hg_ hnew_
        clear hg_ hnew_
        (first | rw [← Ny139.out] at ho15 | (simp only [Int.reduceToNat] at ho15; rw [← Ny139.out] at ho15))
        have n0_ := Aside0.mk (Kd.R_below (by (with_reducible repeat (first | apply Kd.R_alloc | apply Kd.R_drewN | apply Kd.R_drew)); exact HO138.out) hb)
        have n1_ := Aside0.mk (Kd.R_lower ho15 (below_size (by repeat (first | (with_reducible first | exact HB.out | apply below_alloc | apply pw_below_drewN | apply below_drew1 | refine below_set ?_ GE133.out | refine below_set ?_ GE142.out) | exact HB.out))))
        have n2_ := Aside0.mk (blk_below (g := gb133) (o := .cells #[.slice none 0 0, .slice none 0 0] 113 (0, 0)) (by (with_reducible repeat (first | refine blk_drewN ?_ _ | refine blk_drew ?_ | refine blk_alloc ?_ _)); exact BK133.out) hb)
        have n3_ := Aside0.mk (blk_below (g := gb142) (o := .cells #[.slice none 0 0, .slice none 0 0] 113 (0, 0)) (by (with_reducible repeat (first | refine blk_drewN ?_ _ | refine blk_drew ?_ | refine blk_alloc ?_ _)); exact BK142.out) hb)
        have n4_ := Aside0.mk (below_step (by repeat (first | (with_reducible first | exact HB.out | apply below_alloc | apply pw_below_drewN | apply below_drew1 | refine below_set ?_ GE133.out | refine below_set ?_ GE142.out) | exact HB.out)) hb)
        clear HO138
        clear BK133
        clear BK142
        clear HB
        have HO138 := n0_
        have HO141 := n1_
        have BK133 := n2_
        have BK142 := n3_
        have HB := n4_
        clear n0_ n1_ n2_ n3_ n4_
        clear hb ho15
        obtain ⟨Ao16, co16, eo16⟩ := Kd.R_slice HO141.out
        (first | subst eo16 | (injection eo16 with f1_ f2_ f3_; have f4_ := f1_.symm; have f5_ := f3_.symm; clear f1_ f2_ f3_; subst f4_; subst f5_))
        obtain ⟨Ao17, co17, eo17⟩ := Kd.R_slice HO138.out
        (first | subst eo17 | (injection eo17 with f1_ f2_ f3_; have f4_ := f1_.symm; have f5_ := f3_.symm; clear f1_ f2_ f3_; subst f4_; subst f5_))
        refine hK.out _ _ trivial (fun hHeld => ?_)
        clear hK K
        refine norm_ (a' := ?_) ?_ ?_
        rotate_left
        ·
         show Act.put _ (some 18) _ = _
         simp only [Act.put, List.setIfInBounds_toArray, List.set_cons_zero, List.set_cons_succ, i64_w, i32_w]
         rfl
        refine pure_ (i := 5) (N := some 19) (v := ?_) (a' := ?_) #[true, true, true, true, true, true, true, false] rfl rfl (any_of HT_.out (by kernel_rfl)) (fun _ _ _ h => h) (Or.inl ⟨by rfl, ?_⟩) ?_ ?_
        rotate_left
        ·
         intro w'
         go_simp
         with_reducible rfl
        rotate_left
        ·
         simp only [Act.put, List.setIfInBounds_toArray, List.set_cons_zero, List.set_cons_succ, i64_w, i32_w]
         rfl
        exact norm_ (by first | (simp only [putAll, Act.put, List.setIfInBounds_toArray, List.set_cons_zero, List.set_cons_succ]; done) | (simp only [putAll, Act.put, List.setIfInBounds_toArray, List.set_cons_zero, List.set_cons_succ]; rfl)) (hJ2_4_6 (.slice Ao17 y136.length co17, .slice Ao16 y139.length co16, gb142) _ ⟨(by (with_reducible repeat (first | apply Kd.R_alloc | apply Kd.R_drewN | apply Kd.R_drew)); exact HO138.out), (by (with_reducible repeat (first | apply Kd.R_alloc | apply Kd.R_drewN | apply Kd.R_drew)); exact HO141.out), (by (with_reducible repeat (first | refine blk_drewN ?_ _ | refine blk_drew ?_ | refine blk_alloc ?_ _)); exact BK133.out), (by (with_reducible repeat (first | refine blk_drewN ?_ _ | refine blk_drew ?_ | refine blk_alloc ?_ _)); exact BK142.out), GW142.out, GE142.out, NB133_142.out, NB142_133.out, (by repeat (first | (with_reducible first | exact HB.out | apply below_alloc | apply pw_below_drewN | apply below_drew1 | refine below_set ?_ GE133.out | refine below_set ?_ GE142.out) | exact HB.out))⟩)
      ·
       skip
       rintro ⟨v137, v140⟩ w16 ⟨h0_, h1_, h2_, h3_⟩
       have n0_ : Aside0 (Kd.R Kd.string 9 w16 w.heap.size (fun _ => True) v137 y136) := ⟨h0_⟩
       have n1_ : Aside0 (Kd.R Kd.bool 4 w16 w.heap.size (fun _ => True) v140 y139) := ⟨h1_⟩
       have n2_ : Aside0 (w16.heap[gb133]? = some (.cells #[.slice none 0 0, .slice none 0 0] 113 (0, 0))) := ⟨h2_⟩
       have n3_ : Aside0 (Below w.heap.size w w16) := ⟨h3_⟩
       clear BK133
       clear HB
       clear h0_ h1_ h2_ h3_
       have HO138 := n0_
       have HO141 := n1_
       have BK133 := n2_
       have HB := n3_
       clear n0_ n1_ n2_ n3_
       have hHeld := trivial
       obtain ⟨Ao17, co17, eo17⟩ := Kd.R_slice HO141.out
       (first | subst eo17 | (injection eo17 with f1_ f2_ f3_; have f4_ := f1_.symm; have f5_ := f3_.symm; clear f1_ f2_ f3_; subst f4_; subst f5_))
       obtain ⟨Ao18, co18, eo18⟩ := Kd.R_slice HO138.out
       (first | subst eo18 | (injection eo18 with f1_ f2_ f3_; have f4_ := f1_.symm; have f5_ := f3_.symm; clear f1_ f2_ f3_; subst f4_; subst f5_))
       refine norm_ (a' := ?_) ?_ ?_
       rotate_left
       ·
        simp only [putAll, Act.put, List.setIfInBounds_toArray, List.set_cons_zero, List.set_cons_succ]
        rfl
       refine one_ (i := 6) (N := some 5) #[true, true, true, true, true, true, true, false] rfl rfl (one_of HT_.out (by kernel_rfl)) (by decide) (fun K hK => ?_)
       refine box_step ?hg (N := 5) ?hd (cs := #[.slice none 0 0, .slice none 0 0]) (t := 113) ?hr ?_; (case hd => rfl); (case hg => rfl); (case hr => first | (go_simp; done) | (go_simp; rfl))
       intro gb142 hg w19 hbox hb
       have n0_ := Aside0.mk (Kd.R_below (by (with_reducible repeat (first | apply Kd.R_alloc | apply Kd.R_drewN | apply Kd.R_drew)); exact HO138.out) hb)
       have n1_ := Aside0.mk (Kd.R_below (by (with_reducible repeat (first | apply Kd.R_alloc | apply Kd.R_drewN | apply Kd.R_drew)); exact HO141.out) hb)
       have n2_ := Aside0.mk (blk_below (g := gb133) (o := .cells #[.slice none 0 0, .slice none 0 0] 113 (0, 0)) (by (with_reducible repeat (first | refine blk_drewN ?_ _ | refine blk_drew ?_ | refine blk_alloc ?_ _)); exact BK133.out) hb)
       have n3_ := Aside0.mk (below_step (by repeat (first | (with_reducible first | exact HB.out | apply below_alloc | apply pw_below_drewN | apply below_drew1 | refine below_set ?_ GE133.out) | exact HB.out)) hb)
       have n4_ := Aside0.mk (hbox)
       have n5_ := Aside0.mk ((by rw [hg]; exact (below_size (by repeat (first | (with_reducible first | exact HB.out | apply below_alloc | apply pw_below_drewN | apply below_drew1 | refine below_set ?_ GE133.out) | exact HB.out))) : w.heap.size ≤ gb142))
       have n6_ := Aside0.mk ((by rw [hg]; exact (below_size (by repeat (first | (with_reducible first | exact HB.out | apply below_alloc | apply pw_below_drewN | apply below_drew1 | refine below_set ?_ GE133.out) | exact HB.out))) : w.heap.size ≤ gb142))
       have n7_ := Aside0.mk ((by rw [hg]; exact Nat.ne_of_lt (blk_lt (g := gb133) (o := .cells #[.slice none 0 0, .slice none 0 0] 113 (0, 0)) (by (with_reducible repeat (first | refine blk_drewN ?_ _ | refine blk_drew ?_ | refine blk_alloc ?_ _)); exact BK133.out)) : gb133 ≠ gb142))
       have n8_ := Aside0.mk ((by rw [hg]; exact Nat.ne_of_gt (blk_lt (g := gb133) (o := .cells #[.slice none 0 0, .slice none 0 0] 113 (0, 0)) (by (with_reducible repeat (first | refine blk_drewN ?_ _ | refine blk_drew ?_ | refine blk_alloc ?_ _)); exact BK133.out)) : gb142 ≠ gb133))
       clear HO138
       clear HO141
       clear BK133
       clear HB
       have HO138 := n0_
       have HO141 := n1_
       have BK133 := n2_
       have HB := n3_
       have BK142 := n4_
       have GW142 := n5_
       have GE142 := n6_
       have NB133_142 := n7_
       have NB142_133 := n8_
       clear n0_ n1_ n2_ n3_ n4_ n5_ n6_ n7_ n8_
       clear hb hbox hg
       refine hK.out _ _ trivial (fun hHeld => ?_)
       clear hK K
       refine norm_ (a' := ?_) ?_ ?_
       rotate_left
       ·
        show Act.put _ (some 5) _ = _
        simp only [Act.put, List.setIfInBounds_toArray, List.set_cons_zero, List.set_cons_succ, i64_w, i32_w]
        rfl
       exact norm_ (by first | (simp only [putAll, Act.put, List.setIfInBounds_toArray, List.set_cons_zero, List.set_cons_succ]; done) | (simp only [putAll, Act.put, List.setIfInBounds_toArray, List.set_cons_zero, List.set_cons_succ]; rfl)) (hJ2_4_6 (.slice Ao18 y136.length co18, .slice Ao17 y139.length co17, gb142) _ ⟨(by (with_reducible repeat (first | apply Kd.R_alloc | apply Kd.R_drewN | apply Kd.R_drew)); exact HO138.out), (by (with_reducible repeat (first | apply Kd.R_alloc | apply Kd.R_drewN | apply Kd.R_drew)); exact HO141.out), (by (with_reducible repeat (first | refine blk_drewN ?_ _ | refine blk_drew ?_ | refine blk_alloc ?_ _)); exact BK133.out), (by (with_reducible repeat (first | refine blk_drewN ?_ _ | refine blk_drew ?_ | refine blk_alloc ?_ _)); exact BK142.out), GW142.out, GE142.out, NB133_142.out, NB142_133.out, (by repeat (first | (with_reducible first | exact HB.out | apply below_alloc | apply pw_below_drewN | apply below_drew1 | refine below_set ?_ GE133.out | refine below_set ?_ GE142.out) | exact HB.out))⟩)
     rintro ⟨v137, v140, gb142⟩ w17 ⟨h0_, h1_, h2_, h3_, h4_, h5_, h6_, h7_, h8_⟩
     have n0_ : Aside0 (Kd.R Kd.string 9 w17 w.heap.size (fun _ => True) v137 y136) := ⟨h0_⟩
     have n1_ : Aside0 (Kd.R Kd.bool 4 w17 w.heap.size (fun _ => True) v140 y139) := ⟨h1_⟩
     have n2_ : Aside0 (w17.heap[gb133]? = some (.cells #[.slice none 0 0, .slice none 0 0] 113 (0, 0))) := ⟨h2_⟩
     have n3_ : Aside0 (w17.heap[gb142]? = some (.cells #[.slice none 0 0, .slice none 0 0] 113 (0, 0))) := ⟨h3_⟩
     have n4_ : Aside0 (w.heap.size ≤ gb142) := ⟨h4_⟩
     have n5_ : Aside0 (w.heap.size ≤ gb142) := ⟨h5_⟩
     have n6_ : Aside0 (gb133 ≠ gb142) := ⟨h6_⟩
     have n7_ : Aside0 (gb142 ≠ gb133) := ⟨h7_⟩
     have n8_ : Aside0 (Below w.heap.size w w17) := ⟨h8_⟩
     clear BK133
     clear HB
     clear h0_ h1_ h2_ h3_ h4_ h5_ h6_ h7_ h8_
     have HO138 := n0_
     have HO141 := n1_
     have BK133 := n2_
     have BK142 := n3_
     have GW142 := n4_
     have GE142 := n5_
     have NB133_142 := n6_
     have NB142_133 := n7_
     have HB := n8_
     clear n0_ n1_ n2_ n3_ n4_ n5_ n6_ n7_ n8_
     have hHeld := trivial
     obtain ⟨Ao18, co18, eo18⟩ := Kd.R_slice HO141.out
     (first | subst eo18 | (injection eo18 with f1_ f2_ f3_; have f4_ := f1_.symm; have f5_ := f3_.symm; clear f1_ f2_ f3_; subst f4_; subst f5_))
     obtain ⟨Ao19, co19, eo19⟩ := Kd.R_slice HO138.out
     (first | subst eo19 | (injection eo19 with f1_ f2_ f3_; have f4_ := f1_.symm; have f5_ := f3_.symm; clear f1_ f2_ f3_; subst f4_; subst f5_))
     refine norm_ (a' := ?_) ?_ ?_
     rotate_left
     ·
      simp only [putAll, Act.put, List.setIfInBounds_toArray, List.set_cons_zero, List.set_cons_succ]
      rfl
     refine one_ (i := 7) (N := none) #[true, true, true, true, true, true, true, true] rfl rfl (one_of HT_.out (by kernel_rfl)) (by decide) (fun K hK => ?_)
     have hs20 : w17.cell? ⟨gb142, 0, none⟩ = some (.slice none 0 0) := (blk_cell BK142.out 0).trans rfl
     have hfs20 := blk_frozen BK142.out 0
     have hns20_0 := NB133_142.out
     have hms20_0 := NB142_133.out
     have hs21 : w17.cell? ⟨gb142, 1, none⟩ = some (.slice none 0 0) := (blk_cell BK142.out 1).trans rfl
     have hfs21 := blk_frozen BK142.out 1
     have hns21_0 := NB133_142.out
     have hms21_0 := NB142_133.out
     refine skip_ (w1 := ?_) (by rfl) rfl ?_ ?_
     rotate_left
     ·
      go_simp
      rfl
     refine hK.out _ _ trivial (fun hHeld => ?_)
     clear hK K
     refine done_ (done_of HT_.out (by kernel_rfl)) ?_
     try go_wp2
     go_loopg [6, 7] k (fun kq v6 v7 w' => ∃ (x6_1 : Int) (x7_1 : Int) (x143000_1 : List ByteArray) (x143001_1 : List Bool) (u143000 : Value) (u143001 : Value), v6 = .int .i64 x6_1 ∧ v7 = .int .i64 x7_1 ∧ Aside0 (galleyref14_Read.l0 kq l0 x6_1 x7_1 x143000_1 x143001_1 = some (r1, r2)) ∧ Aside0 (kq ≤ k) ∧ Aside0 (Kd.R Kd.string 9 w' w.heap.size (fun _ => True) u143000 x143000_1) ∧ Aside0 (Kd.R Kd.bool 4 w' w.heap.size (fun _ => True) u143001 x143001_1) ∧ Aside0 (w'.heap[gb133]? = some (.cells #[(.slice none 0 0), (.slice none 0 0)] 113 (0, 0))) ∧ Aside0 (w'.heap[gb142]? = some (.cells #[u143000, u143001] 113 (0, 0))) ∧ Aside0 (Below w.heap.size w w'))
     case atStart => exact ⟨(0), (0), (y136), (y139), (.slice Ao19 y136.length co19), (.slice Ao18 y139.length co18), (by first | rfl | (simp; done) | (simp [*]; done) | (simp; exact isEmpty_bne _)), (by first | rfl | (simp; done) | (simp [*]; done) | (simp; exact isEmpty_bne _)), H', ⟨Nat.le_refl _⟩, ⟨by (with_reducible repeat (first | apply Kd.R_alloc | apply Kd.R_drewN | apply Kd.R_drew)); exact Kd.R_mono (Kd.R_far (p := ⟨gb142, 1, none⟩) (Kd.R_far (p := ⟨gb142, 0, none⟩) (Kd.R_types HO138.out BK142.out (by decide)) (fun _ hk => hk.2) (.slice Ao19 y136.length co19)) (fun _ hk => hk.2) (.slice Ao18 y139.length co18)) (fun _ hk => trivial)⟩, ⟨by (with_reducible repeat (first | apply Kd.R_alloc | apply Kd.R_drewN | apply Kd.R_drew)); exact Kd.R_mono (Kd.R_far (p := ⟨gb142, 1, none⟩) (Kd.R_far (p := ⟨gb142, 0, none⟩) (Kd.R_types HO141.out BK142.out (by decide)) (fun _ hk => hk.2) (.slice Ao19 y136.length co19)) (fun _ hk => hk.2) (.slice Ao18 y139.length co18)) (fun _ hk => trivial)⟩, ⟨by (with_reducible repeat (first | refine blk_drewN ?_ _ | refine blk_drew ?_ | refine blk_alloc ?_ _)); refine blk_far ?_ NB133_142.out _; (with_reducible repeat (first | refine blk_drewN ?_ _ | refine blk_drew ?_ | refine blk_alloc ?_ _)); refine blk_far ?_ NB133_142.out _; (with_reducible repeat (first | refine blk_drewN ?_ _ | refine blk_drew ?_ | refine blk_alloc ?_ _)); exact BK133.out⟩, ⟨by (with_reducible repeat (first | refine blk_drewN ?_ _ | refine blk_drew ?_ | refine blk_alloc ?_ _)); refine blk_put (cs := #[.slice Ao19 y136.length co19, .slice none 0 0]) ?_ 1 _ rfl; (with_reducible repeat (first | refine blk_drewN ?_ _ | refine blk_drew ?_ | refine blk_alloc ?_ _)); refine blk_put (cs := #[.slice none 0 0, .slice none 0 0]) ?_ 0 _ rfl; (with_reducible repeat (first | refine blk_drewN ?_ _ | refine blk_drew ?_ | refine blk_alloc ?_ _)); exact BK142.out⟩, ⟨by repeat (first | (with_reducible first | exact HB.out | apply below_alloc | apply pw_below_drewN | apply below_drew1 | refine below_set ?_ GE133.out | refine below_set ?_ GE142.out) | exact HB.out)⟩⟩
     case round =>
      clear H'
      (try clear p2)
      obtain ⟨x6_1, x7_1, x143000_1, x143001_1, u143000, u143001, rfl, rfl, HA, HK1, HO_143000, HO_143001, BK133, BK142, HB⟩ := hrel
      cases gk with
      | zero => exact absurd HA.out (by simp [galleyref14_Read.l0])
      | succ k1 =>
       have H := HA.out
       clear HA
       simp only [galleyref14_Read.l0] at H
       by_cases c22 : x7_1 < (l0.length : Int)
       ·
        rw [if_pos c22] at H
        have c22b0 : decide (x7_1 < (l0.length : Int)) = true := decide_eq_true c22
        clear c22
        by_cases c23 : 0 ≤ x7_1
        ·
         rw [if_pos c23] at H
         have c23b0 : decide (0 ≤ x7_1) = true := decide_eq_true c23
         clear c23
         by_cases c24 : ((rd_T70 l0 x7_1).f0) = 2
         ·
          rw [if_pos c24] at H
          have c24b0 : (((rd_T70 l0 x7_1).f0) == 2) = true := beq_iff_eq.mpr c24
          have c24b1 : (((rd_T70 l0 x7_1).f0) != 2) = false := bne_eq_false_iff_eq.mpr c24
          clear c24
          by_cases c25 : 0 ≤ x6_1
          ·
           rw [if_pos c25] at H
           have c25b0 : decide (0 ≤ x6_1) = true := decide_eq_true c25
           clear c25
           by_cases c26 : x6_1 < (x143000_1.length : Int)
           ·
            rw [if_pos c26] at H
            have c26b0 : decide (x6_1 < (x143000_1.length : Int)) = true := decide_eq_true c26
            clear c26
            obtain ⟨y145, hy145⟩ : ∃ y_ : List ByteArray, y_ = (x143000_1.set (x6_1 : Int).toNat ((rd_T70 l0 x7_1).f2)) := ⟨_, rfl⟩
            replace H : (galleyref14_Read.l0 k1 l0 x6_1 (wrap64 (x7_1 + 1)) y145 x143001_1) = some (r1, r2) := by first | (rw [hy145]; with_reducible exact H) | (have H2_ := (Option.bind_some _ _).symm.trans H; rw [hy145]; with_reducible exact H2_) | (have H2_ := (Option.bind_some _ _).symm.trans H; with_reducible exact H2_) | with_reducible exact H | (rw [hy145]; exact H) | exact H
            have Ny145 := Aside0.mk hy145
            clear hy145
            have H' := Aside0.mk H
            clear H
            have p143 : 0 ≤ (x7_1 : Int) := of_decide_eq_true (by first | (with_reducible assumption) | assumption)
            have q143 : x7_1 < (l0.length : Int) := of_decide_eq_true (by first | (with_reducible assumption) | assumption)
            obtain ⟨ad143, e143, hx143_0, hx143_1, hx143_2⟩ := at_T70 HR0.out x7_1 p143 q143
            cases e143
            replace hx143_0 := (HB.out.cell (World.block_lt_of_cell? w _ hx143_0)).trans hx143_0
            replace hx143_1 := (HB.out.cell (World.block_lt_of_cell? w _ hx143_1)).trans hx143_1
            replace hx143_2 := (HB.out.cell (World.block_lt_of_cell? w _ hx143_2)).trans hx143_2
            replace p143 := eq_true p143
            replace q143 := eq_true q143
            try go_wp2
            have n0_ := Aside0.mk (Kd.R_drew HO_143000.out)
            have n1_ := Aside0.mk (Kd.R_drew HO_143001.out)
            have n2_ := Aside0.mk (blk_drew BK133.out)
            have n3_ := Aside0.mk (blk_drew BK142.out)
            have n4_ := Aside0.mk (below_drew1 HB.out)
            clear HO_143000
            clear HO_143001
            clear BK133
            clear BK142
            clear HB
            have HO_143000 := n0_
            have HO_143001 := n1_
            have BK133 := n2_
            have BK142 := n3_
            have HB := n4_
            clear n0_ n1_ n2_ n3_ n4_
            have p144 : 0 ≤ (x7_1 : Int) := of_decide_eq_true (by first | (with_reducible assumption) | assumption)
            have q144 : x7_1 < (l0.length : Int) := of_decide_eq_true (by first | (with_reducible assumption) | assumption)
            obtain ⟨ad144, e144, hx144_0, hx144_1, hx144_2⟩ := at_T70 HR0.out x7_1 p144 q144
            have hw144_2 := hx144_2
            have hw144_1 := hx144_1
            have hw144_0 := hx144_0
            obtain rfl : ad143 = ad144 := (by injection e144)
            replace hx144_0 := (HB.out.cell (World.block_lt_of_cell? w _ hx144_0)).trans hx144_0
            replace hx144_1 := (HB.out.cell (World.block_lt_of_cell? w _ hx144_1)).trans hx144_1
            replace hx144_2 := (HB.out.cell (World.block_lt_of_cell? w _ hx144_2)).trans hx144_2
            replace p144 := eq_true p144
            replace q144 := eq_true q144
            have p27 : 0 ≤ (x6_1 : Int) := of_decide_eq_true (by first | (with_reducible assumption) | assumption)
            have q27 : (x6_1 : Int) < ((x143000_1.length : Int) : Int) := of_decide_eq_true (by first | (with_reducible assumption) | assumption)
            obtain ⟨go27, co27, eo27, gb27, gl27, cl27, HG27⟩ := Kd.R_form HO_143000.out (by omega)
            (first | cases eo27 | (injection eo27 with ea_ en_ ec_; (first | subst ea_ | (injection ea_ with ea_; subst ea_)); subst ec_; clear en_))
            have GB27 := Aside0.mk gb27
            have GG27 := Aside0.mk HG27
            clear gb27 gl27 HG27
            obtain ⟨hx27_0, hf27_0⟩ := Kd.R_celln (⟨#[]⟩ : ByteArray) HO_143000.out (x6_1 : Int) p27 q27
            replace p27 := eq_true p27
            replace q27 := eq_true q27
            have HP29 := Kd.R_putn HO_143000.out (x6_1 : Int) ((rd_T70 l0 x7_1).f2)
            rw [← Ny145.out] at HP29
            have HQ29 := Aside0.mk HP29
            clear HP29
            refine start_ (n := 10) (S := fun w' => w'.cell? ⟨gb142, 0, none⟩ = some (.slice (some ⟨go27, 0, none⟩) x143000_1.length co27) ∧ w'.cell? ⟨gb142, 1, none⟩ = some (u143001) ∧ w'.cell? (ad143.add ((x7_1).toNat * 3)) = some (.int .i64 ((rd_T70 l0 x7_1).f0)) ∧ w'.cell? ⟨(ad143.add ((x7_1).toNat * 3)).block, (ad143.add ((x7_1).toNat * 3)).off + 1, none⟩ = some (.int .i64 ((rd_T70 l0 x7_1).f1)) ∧ w'.cell? ⟨(ad143.add ((x7_1).toNat * 3)).block, (ad143.add ((x7_1).toNat * 3)).off + 2, none⟩ = some (.string ((rd_T70 l0 x7_1).f2))) (ds := [9]) #[false, false, false, false, false, false, false, false, false, false] (by kernel_rfl) rfl rfl ⟨(blk_cell BK142.out 0).trans rfl, (blk_cell BK142.out 1).trans rfl, ((HB.out.cell (World.block_lt_of_cell? w _ hw144_0)).trans hw144_0), ((HB.out.cell (World.block_lt_of_cell? w _ hw144_1)).trans hw144_1), ((HB.out.cell (World.block_lt_of_cell? w _ hw144_2)).trans hw144_2)⟩ (fun hHeld => ?_); refine with_tabW galleyref14_Read.tab10 galleyref14_Read.bits10 (fun HT_ HW_ => ?_)
            generalize wr.drew = w28 at HO_143000 HO_143001 BK133 BK142 HB GG27 HQ29 hf27_0 hx144_0 hx144_1 hx144_2 hx27_0 hHeld ⊢
            refine pure_ (i := 0) (N := some 40) (v := ?_) (a' := ?_) #[true, false, false, false, false, false, false, false, false, false] rfl rfl (any_of HT_.out (by kernel_rfl)) (fun _ _ _ h => h) (Or.inl ⟨by rfl, ?_⟩) ?_ ?_
            rotate_left
            ·
             intro w'
             go_simp
             with_reducible rfl
            rotate_left
            ·
             simp only [Act.put, List.setIfInBounds_toArray, List.set_cons_zero, List.set_cons_succ, i64_w, i32_w]
             rfl
            refine pure_ (i := 2) (N := some 42) (v := ?_) (a' := ?_) #[true, false, true, false, false, false, false, false, false, false] rfl rfl (any_of HT_.out (by kernel_rfl)) (fun _ _ _ h => h) (Or.inl ⟨by rfl, ?_⟩) ?_ ?_
            rotate_left
            ·
             intro w'
             go_simp
             with_reducible rfl
            rotate_left
            ·
             simp only [Act.put, List.setIfInBounds_toArray, List.set_cons_zero, List.set_cons_succ, i64_w, i32_w]
             rfl
            refine pure_ (i := 3) (N := some 43) (v := ?_) (a' := ?_) #[true, false, true, true, false, false, false, false, false, false] rfl rfl (any_of HT_.out (by kernel_rfl)) (fun _ _ _ h => h) (Or.inl ⟨by rfl, ?_⟩) ?_ ?_
            rotate_left
            ·
             intro w'
             go_simp
             with_reducible rfl
            rotate_left
            ·
             simp only [Act.put, List.setIfInBounds_toArray, List.set_cons_zero, List.set_cons_succ, i64_w, i32_w]
             rfl
            refine pure_ (i := 4) (N := some 44) (v := ?_) (a' := ?_) #[true, false, true, true, true, false, false, false, false, false] rfl rfl (any_of HT_.out (by kernel_rfl)) (fun _ _ _ h => h) (Or.inl ⟨by rfl, ?_⟩) ?_ ?_
            rotate_left
            ·
             intro w'
             go_simp
             with_reducible rfl
            rotate_left
            ·
             simp only [Act.put, List.setIfInBounds_toArray, List.set_cons_zero, List.set_cons_succ, i64_w, i32_w]
             rfl
            refine pure_ (i := 5) (N := some 45) (v := ?_) (a' := ?_) #[true, false, true, true, true, true, false, false, false, false] rfl rfl (any_of HT_.out (by kernel_rfl)) (fun _ _ _ h => h) (Or.inl ⟨by rfl, ?_⟩) ?_ ?_
            rotate_left
            ·
             intro w'
             go_simp
             with_reducible rfl
            rotate_left
            ·
             simp only [Act.put, List.setIfInBounds_toArray, List.set_cons_zero, List.set_cons_succ, i64_w, i32_w]
             rfl
            refine pure_ (i := 6) (N := some 46) (v := ?_) (a' := ?_) #[true, false, true, true, true, true, true, false, false, false] rfl rfl (any_of HT_.out (by kernel_rfl)) (fun _ _ _ h => h) (Or.inl ⟨by rfl, ?_⟩) ?_ ?_
            rotate_left
            ·
             intro w'
             go_simp
             with_reducible rfl
            rotate_left
            ·
             simp only [Act.put, List.setIfInBounds_toArray, List.set_cons_zero, List.set_cons_succ, i64_w, i32_w]
             rfl
            refine take_ (i := 1) (N := some 41) (v := ?_) (a' := ?_) #[true, true, true, true, true, true, true, false, false, false] rfl rfl (take_ofW HT_.out HW_.out (by kernel_rfl)) (fun _ _ _ h => h) (Or.inl ⟨by rfl, ?_⟩) hHeld ?_ ?_
            rotate_left
            ·
             rintro w' ⟨s0, s1, s2, s3, s4⟩
             go_simp
             with_reducible rfl
            rotate_left
            ·
             simp only [Act.put, List.setIfInBounds_toArray, List.set_cons_zero, List.set_cons_succ, i64_w, i32_w]
             rfl
            refine take_ (i := 7) (N := some 47) (v := ?_) (a' := ?_) #[true, true, true, true, true, true, true, true, false, false] rfl rfl (take_ofW HT_.out HW_.out (by kernel_rfl)) (fun _ _ _ h => h) (Or.inl ⟨by rfl, ?_⟩) hHeld ?_ ?_
            rotate_left
            ·
             rintro w' ⟨s0, s1, s2, s3, s4⟩
             go_simp
             with_reducible rfl
            rotate_left
            ·
             simp only [Act.put, List.setIfInBounds_toArray, List.set_cons_zero, List.set_cons_succ, i64_w, i32_w]
             rfl
            refine pure_ (i := 8) (N := some 48) (v := ?_) (a' := ?_) #[true, true, true, true, true, true, true, true, true, false] rfl rfl (any_of HT_.out (by kernel_rfl)) (fun _ _ _ h => h) (Or.inl ⟨by rfl, ?_⟩) ?_ ?_
            rotate_left
            ·
             intro w'
             go_simp
             with_reducible rfl
            rotate_left
            ·
             simp only [Act.put, List.setIfInBounds_toArray, List.set_cons_zero, List.set_cons_succ, i64_w, i32_w]
             rfl
            refine last_ (i := 9) (N := none) #[true, true, true, true, true, true, true, true, true, true] rfl rfl (one_of HT_.out (by kernel_rfl)) (by decide) (fun K hK => ?_)
            refine skip_ (w1 := ?_) (by rfl) rfl ?_ ?_
            rotate_left
            ·
             go_simp
             rfl
            refine hK.out _ _ ?_
            clear hK K
            refine done_ (done_of HT_.out (by kernel_rfl)) ?_
            try go_wp2
            go_roundg k1
            case measure => have := HK1.out; omega
            case rel => exact ⟨(x6_1), (wrap64 (x7_1 + 1)), (y145), (x143001_1), (.slice (some ⟨go27, 0, none⟩) x143000_1.length co27), (u143001), (by first | rfl | (simp; done) | (simp [*]; done) | (simp; exact isEmpty_bne _)), (by first | rfl | (simp; done) | (simp [*]; done) | (simp; exact isEmpty_bne _)), H', ⟨by have := HK1.out; omega⟩, ⟨by (with_reducible repeat (first | apply Kd.R_alloc | apply Kd.R_drewN | apply Kd.R_drew)); exact HQ29.out⟩, ⟨by (with_reducible repeat (first | apply Kd.R_alloc | apply Kd.R_drewN | apply Kd.R_drew)); exact Kd.R_mono (Kd.R_far (p := ⟨go27, (x6_1 : Int).toNat, none⟩) (Kd.R_types HO_143001.out GG27.out (by decide)) (fun _ hk => hk.2) (.string ((rd_T70 l0 x7_1).f2))) (fun _ hk => trivial)⟩, ⟨by (with_reducible repeat (first | refine blk_drewN ?_ _ | refine blk_drew ?_ | refine blk_alloc ?_ _)); refine blk_far ?_ (by have h_ := Kd.R_ne HO_143000.out BK133.out (by decide); intro e_; exact h_ (by rw [e_]; rfl)) _; (with_reducible repeat (first | refine blk_drewN ?_ _ | refine blk_drew ?_ | refine blk_alloc ?_ _)); exact BK133.out⟩, ⟨by (with_reducible repeat (first | refine blk_drewN ?_ _ | refine blk_drew ?_ | refine blk_alloc ?_ _)); refine blk_far ?_ (by have h_ := Kd.R_ne HO_143000.out BK142.out (by decide); intro e_; exact h_ (by rw [e_]; rfl)) _; (with_reducible repeat (first | refine blk_drewN ?_ _ | refine blk_drew ?_ | refine blk_alloc ?_ _)); exact BK142.out⟩, ⟨by repeat (first | (with_reducible first | exact HB.out | apply below_alloc | apply pw_below_drewN | apply below_drew1 | refine below_set ?_ GB27.out | refine below_set ?_ GE133.out | refine below_set ?_ GE142.out) | exact HB.out)⟩⟩
           ·
            rw [if_neg c26] at H
            exact absurd H (by simp)
          ·
           rw [if_neg c25] at H
           exact absurd H (by simp)
         ·
          rw [if_neg c24] at H
          have c24b0 : (((rd_T70 l0 x7_1).f0) == 2) = false := beq_eq_false_iff_ne.mpr c24
          have c24b1 : (((rd_T70 l0 x7_1).f0) != 2) = true := bne_iff_ne.mpr c24
          by_cases c30 : ((rd_T70 l0 x7_1).f0) = 3
          ·
           rw [if_pos c30] at H
           have c30b0 : (((rd_T70 l0 x7_1).f0) == 3) = true := beq_iff_eq.mpr c30
           have c30b1 : (((rd_T70 l0 x7_1).f0) != 3) = false := bne_eq_false_iff_eq.mpr c30
           clear c30
           have H' := Aside0.mk H
           clear H
           have p143 : 0 ≤ (x7_1 : Int) := of_decide_eq_true (by first | (with_reducible assumption) | assumption)
           have q143 : x7_1 < (l0.length : Int) := of_decide_eq_true (by first | (with_reducible assumption) | assumption)
           obtain ⟨ad143, e143, hx143_0, hx143_1, hx143_2⟩ := at_T70 HR0.out x7_1 p143 q143
           cases e143
           replace hx143_0 := (HB.out.cell (World.block_lt_of_cell? w _ hx143_0)).trans hx143_0
           replace hx143_1 := (HB.out.cell (World.block_lt_of_cell? w _ hx143_1)).trans hx143_1
           replace hx143_2 := (HB.out.cell (World.block_lt_of_cell? w _ hx143_2)).trans hx143_2
           replace p143 := eq_true p143
           replace q143 := eq_true q143
           go_wp2
           go_loopg [8] k1 (fun kq v8 w' => ∃ (x8_2 : Int) (x143001_2 : List Bool) (u143001 : Value), v8 = .int .i64 x8_2 ∧ Aside0 (galleyref14_Read.l1 kq l0 x6_1 x7_1 x8_2 x143000_1 x143001_2 = some (r1, r2)) ∧ Aside0 (kq ≤ k1) ∧ Aside0 (Kd.R Kd.string 9 w' w.heap.size (fun _ => True) u143000 x143000_1) ∧ Aside0 (Kd.R Kd.bool 4 w' w.heap.size (fun _ => True) u143001 x143001_2) ∧ Aside0 (w'.heap[gb133]? = some (.cells #[(.slice none 0 0), (.slice none 0 0)] 113 (0, 0))) ∧ Aside0 (w'.heap[gb142]? = some (.cells #[u143000, u143001] 113 (0, 0))) ∧ Aside0 (Below w.heap.size w w'))
           case atStart => exact ⟨(0), (x143001_1), (u143001), (by first | rfl | (simp; done) | (simp [*]; done) | (simp; exact isEmpty_bne _)), H', ⟨Nat.le_refl _⟩, ⟨by (with_reducible repeat (first | apply Kd.R_alloc | apply Kd.R_drewN | apply Kd.R_drew)); exact HO_143000.out⟩, ⟨by (with_reducible repeat (first | apply Kd.R_alloc | apply Kd.R_drewN | apply Kd.R_drew)); exact HO_143001.out⟩, ⟨by (with_reducible repeat (first | refine blk_drewN ?_ _ | refine blk_drew ?_ | refine blk_alloc ?_ _)); exact BK133.out⟩, ⟨by (with_reducible repeat (first | refine blk_drewN ?_ _ | refine blk_drew ?_ | refine blk_alloc ?_ _)); exact BK142.out⟩, ⟨by repeat (first | (with_reducible first | exact HB.out | apply below_alloc | apply pw_below_drewN | apply below_drew1 | refine below_set ?_ GE133.out | refine below_set ?_ GE142.out) | exact HB.out)⟩⟩
           case round =>
            clear H'
            (try clear p1); (try clear q1); (try clear hx1); (try clear c2); (try clear p2); (try clear q2); (try clear hx2); (try clear hf2); (try clear c3); (try clear p6); (try clear p14); (try clear q14); (try clear hx14); (try clear c22); (try clear c22b0); (try clear c23); (try clear c23b0); (try clear c24); (try clear c24b0); (try clear c24b1); (try clear c25); (try clear c25b0); (try clear c26); (try clear c26b0); (try clear p27); (try clear q27); (try clear hx27); (try clear hf27); (try clear c30); (try clear c30b0); (try clear c30b1); (try clear hx143_0); (try clear hx143_1); (try clear hx143_2); (try clear hx144_0); (try clear hx144_1); (try clear hx144_2); (try clear hx27_0); (try clear p143); (try clear p144); (try clear p2); (try clear p27); (try clear q143); (try clear q144); (try clear q27)
            obtain ⟨x8_2, x143001_2, u143001, rfl, HA, HK2, HO_143000, HO_143001, BK133, BK142, HB⟩ := hrel
            cases gk with
            | zero => exact absurd HA.out (by simp [galleyref14_Read.l1])
            | succ k2 =>
             have H := HA.out
             clear HA
             simp only [galleyref14_Read.l1] at H
             by_cases c31 : 0 ≤ x7_1
             ·
              rw [if_pos c31] at H
              have c31b0 : decide (0 ≤ x7_1) = true := decide_eq_true c31
              clear c31
              by_cases c32 : x7_1 < (l0.length : Int)
              ·
               rw [if_pos c32] at H
               have c32b0 : decide (x7_1 < (l0.length : Int)) = true := decide_eq_true c32
               clear c32
               by_cases c33 : x8_2 < ((rd_T70 l0 x7_1).f1)
               ·
                rw [if_pos c33] at H
                have c33b0 : decide (x8_2 < ((rd_T70 l0 x7_1).f1)) = true := decide_eq_true c33
                clear c33
                obtain ⟨ji34, hji34⟩ : ∃ j_ : Int, (wrap64 (x6_1 + x8_2)) = j_ := ⟨_, rfl⟩
                replace H : (if 0 ≤ (ji34) then (if (ji34) < (x143001_2.length : Int) then (galleyref14_Read.l1 k2 l0 x6_1 x7_1 (wrap64 (x8_2 + 1)) x143000_1 (x143001_2.set ((ji34) : Int).toNat true)) else (none)) else (none)) = some (r1, r2) := by first | (rw [hji34] at H; exact H) | (simp only [hji34] at H ⊢; exact H)
                have hji34w : (IntKind.i64.wrap (x6_1 + x8_2)) = ji34 := (i64_w _).trans hji34
                by_cases c35 : 0 ≤ (ji34)
                ·
                 rw [if_pos c35] at H
                 have c35b0 : decide (0 ≤ (ji34)) = true := decide_eq_true c35
                 clear c35
                 by_cases c36 : (ji34) < (x143001_2.length : Int)
                 ·
                  rw [if_pos c36] at H
                  have c36b0 : decide ((ji34) < (x143001_2.length : Int)) = true := decide_eq_true c36
                  clear c36
                  obtain ⟨y147, hy147⟩ : ∃ y_ : List Bool, y_ = (x143001_2.set ((ji34) : Int).toNat true) := ⟨_, rfl⟩
                  replace H : (galleyref14_Read.l1 k2 l0 x6_1 x7_1 (wrap64 (x8_2 + 1)) x143000_1 y147) = some (r1, r2) := by first | (rw [hy147]; with_reducible exact H) | (have H2_ := (Option.bind_some _ _).symm.trans H; rw [hy147]; with_reducible exact H2_) | (have H2_ := (Option.bind_some _ _).symm.trans H; with_reducible exact H2_) | with_reducible exact H | (rw [hy147]; exact H) | exact H
                  have Ny147 := Aside0.mk hy147
                  clear hy147
                  have H' := Aside0.mk H
                  clear H
                  have p146 : 0 ≤ (x7_1 : Int) := of_decide_eq_true (by first | (with_reducible assumption) | assumption)
                  have q146 : x7_1 < (l0.length : Int) := of_decide_eq_true (by first | (with_reducible assumption) | assumption)
                  obtain ⟨ad146, e146, hx146_0, hx146_1, hx146_2⟩ := at_T70 HR0.out x7_1 p146 q146
                  obtain rfl : ad143 = ad146 := (by injection e146)
                  replace hx146_0 := (HB.out.cell (World.block_lt_of_cell? w _ hx146_0)).trans hx146_0
                  replace hx146_1 := (HB.out.cell (World.block_lt_of_cell? w _ hx146_1)).trans hx146_1
                  replace hx146_2 := (HB.out.cell (World.block_lt_of_cell? w _ hx146_2)).trans hx146_2
                  replace p146 := eq_true p146
                  replace q146 := eq_true q146
                  have hnb38 := NB142_133.out
                  have hnc38 := NB133_142.out
                  have hcz39_0 : wr.cell? ⟨gb142, 0, none⟩ = some (u143000) := (blk_cell BK142.out 0).trans rfl
                  have hcz39_1 : wr.cell? ⟨gb142, 1, none⟩ = some (u143001) := (blk_cell BK142.out 1).trans rfl
                  have hfz39_0 := blk_frozen BK142.out 0
                  have hfz39_1 := blk_frozen BK142.out 1
                  have p37 : 0 ≤ ((ji34) : Int) := of_decide_eq_true (by first | (with_reducible assumption) | assumption)
                  have q37 : ((ji34) : Int) < ((x143001_2.length : Int) : Int) := of_decide_eq_true (by first | (with_reducible assumption) | assumption)
                  obtain ⟨go37, co37, eo37, gb37, gl37, cl37, HG37⟩ := Kd.R_form HO_143001.out (by omega)
                  (first | cases eo37 | (injection eo37 with ea_ en_ ec_; (first | subst ea_ | (injection ea_ with ea_; subst ea_)); subst ec_; clear en_))
                  have GB37 := Aside0.mk gb37
                  have GG37 := Aside0.mk HG37
                  clear gb37 gl37 HG37
                  obtain ⟨hx37_0, hf37_0⟩ := Kd.R_celln false HO_143001.out ((ji34) : Int) p37 q37
                  replace p37 := eq_true p37
                  replace q37 := eq_true q37
                  have HP40 := Kd.R_putg HO_143001.out ((ji34) : Int) true
                  go_wp2_with (first | ((with_reducible refine gate_store (t := 4) (p := 65) rfl ?_); refine store_event (t := 4) (p := 65) (v := ?vo_w41) (w1 := (wr.setCell ⟨go37, ((ji34) : Int).toNat, none⟩ (.bool true))) ?hg ?ho ?hn ?hr ?_; (case ho => rfl); (case hg => rfl); (case hn => rfl); (case hr => first | (go_simp; done) | (go_simp; rfl)); intro w41 hw; have hg : wr.grownBy w41 (some go37) := (by rw [hw]; exact HP40.2); have hp_ : Kd.R Kd.bool 4 w41 w.heap.size (fun _ => True) (.slice (some ⟨go37, 0, none⟩) x143001_2.length co37) y147 := (by rw [hw, Ny147.out]; exact HP40.1); clear HP40; have n0_ := Aside0.mk (Kd.R_over' (v := (.slice (some ⟨go37, 0, none⟩) x143001_2.length co37)) (by (with_reducible repeat (first | apply Kd.R_alloc | apply Kd.R_drewN | apply Kd.R_drew)); exact HO_143000.out) (Kd.R_typed HO_143001.out) (by decide) hg); have n1_ := Aside0.mk (hp_); have n2_ := Aside0.mk (blk_grown (g := gb133) (o := .cells #[.slice none 0 0, .slice none 0 0] 113 (0, 0)) (by (with_reducible repeat (first | refine blk_drewN ?_ _ | refine blk_drew ?_ | refine blk_alloc ?_ _)); exact BK133.out) hg (Kd.R_ne HO_143001.out BK133.out (by decide))); have n3_ := Aside0.mk (blk_grown (g := gb142) (o := .cells #[u143000, .slice (some ⟨go37, 0, none⟩) x143001_2.length co37] 113 (0, 0)) (by (with_reducible repeat (first | refine blk_drewN ?_ _ | refine blk_drew ?_ | refine blk_alloc ?_ _)); exact BK142.out) hg (Kd.R_ne HO_143001.out BK142.out (by decide))); have n4_ := Aside0.mk ((by rw [hw]; exact below_set (HB.out) GB37.out : Below w.heap.size w w41)); clear HO_143000; clear HO_143001; clear BK133; clear BK142; clear HB; have HO_143000 := n0_; have HO_143001 := n1_; have BK133 := n2_; have BK142 := n3_; have HB := n4_; clear n0_ n1_ n2_ n3_ n4_; clear hg hw hp_))
                  go_roundg k2
                  case measure => have := HK1.out; have := HK2.out; omega
                  case rel => exact ⟨(wrap64 (x8_2 + 1)), (y147), (.slice (some ⟨go37, 0, none⟩) x143001_2.length co37), (by first | rfl | (simp; done) | (simp [*]; done) | (simp; exact isEmpty_bne _)), H', ⟨by have := HK1.out; have := HK2.out; omega⟩, ⟨by (with_reducible repeat (first | apply Kd.R_alloc | apply Kd.R_drewN | apply Kd.R_drew)); exact HO_143000.out⟩, ⟨by (with_reducible repeat (first | apply Kd.R_alloc | apply Kd.R_drewN | apply Kd.R_drew)); exact HO_143001.out⟩, ⟨by (with_reducible repeat (first | refine blk_drewN ?_ _ | refine blk_drew ?_ | refine blk_alloc ?_ _)); exact BK133.out⟩, ⟨by (with_reducible repeat (first | refine blk_drewN ?_ _ | refine blk_drew ?_ | refine blk_alloc ?_ _)); exact BK142.out⟩, ⟨by repeat (first | (with_reducible first | exact HB.out | apply below_alloc | apply pw_below_drewN | apply below_drew1 | refine below_set ?_ GE133.out | refine below_set ?_ GE142.out) | exact HB.out)⟩⟩
                 ·
                  rw [if_neg c36] at H
                  exact absurd H (by simp)
                ·
                 rw [if_neg c35] at H
                 exact absurd H (by simp)
               ·
                rw [if_neg c33] at H
                have c33b0 : decide (x8_2 < ((rd_T70 l0 x7_1).f1)) = false := decide_eq_false c33
                clear c33
                have H' := Aside0.mk H
                clear H
                have p146 : 0 ≤ (x7_1 : Int) := of_decide_eq_true (by first | (with_reducible assumption) | assumption)
                have q146 : x7_1 < (l0.length : Int) := of_decide_eq_true (by first | (with_reducible assumption) | assumption)
                obtain ⟨ad146, e146, hx146_0, hx146_1, hx146_2⟩ := at_T70 HR0.out x7_1 p146 q146
                obtain rfl : ad143 = ad146 := (by injection e146)
                replace hx146_0 := (HB.out.cell (World.block_lt_of_cell? w _ hx146_0)).trans hx146_0
                replace hx146_1 := (HB.out.cell (World.block_lt_of_cell? w _ hx146_1)).trans hx146_1
                replace hx146_2 := (HB.out.cell (World.block_lt_of_cell? w _ hx146_2)).trans hx146_2
                replace p146 := eq_true p146
                replace q146 := eq_true q146
                have p148 : 0 ≤ (x7_1 : Int) := of_decide_eq_true (by first | (with_reducible assumption) | assumption)
                have q148 : x7_1 < (l0.length : Int) := of_decide_eq_true (by first | (with_reducible assumption) | assumption)
                obtain ⟨ad148, e148, hx148_0, hx148_1, hx148_2⟩ := at_T70 HR0.out x7_1 p148 q148
                obtain rfl : ad143 = ad148 := (by injection e148)
                replace hx148_0 := (HB.out.cell (World.block_lt_of_cell? w _ hx148_0)).trans hx148_0
                replace hx148_1 := (HB.out.cell (World.block_lt_of_cell? w _ hx148_1)).trans hx148_1
                replace hx148_2 := (HB.out.cell (World.block_lt_of_cell? w _ hx148_2)).trans hx148_2
                replace p148 := eq_true p148
                replace q148 := eq_true q148
                go_wp2
                go_roundg k2
                case measure => have := HK1.out; have := HK2.out; omega
                case rel => exact ⟨(wrap64 (x6_1 + ((rd_T70 l0 x7_1).f1))), (wrap64 (x7_1 + 1)), (x143000_1), (x143001_2), (u143000), (u143001), (by first | rfl | (simp; done) | (simp [*]; done) | (simp; exact isEmpty_bne _)), (by first | rfl | (simp; done) | (simp [*]; done) | (simp; exact isEmpty_bne _)), H', ⟨by have := HK1.out; have := HK2.out; omega⟩, ⟨by (with_reducible repeat (first | apply Kd.R_alloc | apply Kd.R_drewN | apply Kd.R_drew)); exact HO_143000.out⟩, ⟨by (with_reducible repeat (first | apply Kd.R_alloc | apply Kd.R_drewN | apply Kd.R_drew)); exact HO_143001.out⟩, ⟨by (with_reducible repeat (first | refine blk_drewN ?_ _ | refine blk_drew ?_ | refine blk_alloc ?_ _)); exact BK133.out⟩, ⟨by (with_reducible repeat (first | refine blk_drewN ?_ _ | refine blk_drew ?_ | refine blk_alloc ?_ _)); exact BK142.out⟩, ⟨by repeat (first | (with_reducible first | exact HB.out | apply below_alloc | apply pw_below_drewN | apply below_drew1 | refine below_set ?_ GE133.out | refine below_set ?_ GE142.out) | exact HB.out)⟩⟩
              ·
               rw [if_neg c32] at H
               exact absurd H (by simp)
             ·
              rw [if_neg c31] at H
              exact absurd H (by simp)
          ·
           rw [if_neg c30] at H
           have c30b0 : (((rd_T70 l0 x7_1).f0) == 3) = false := beq_eq_false_iff_ne.mpr c30
           have c30b1 : (((rd_T70 l0 x7_1).f0) != 3) = true := bne_iff_ne.mpr c30
           have H' := Aside0.mk H
           clear H
           have p143 : 0 ≤ (x7_1 : Int) := of_decide_eq_true (by first | (with_reducible assumption) | assumption)
           have q143 : x7_1 < (l0.length : Int) := of_decide_eq_true (by first | (with_reducible assumption) | assumption)
           obtain ⟨ad143, e143, hx143_0, hx143_1, hx143_2⟩ := at_T70 HR0.out x7_1 p143 q143
           cases e143
           replace hx143_0 := (HB.out.cell (World.block_lt_of_cell? w _ hx143_0)).trans hx143_0
           replace hx143_1 := (HB.out.cell (World.block_lt_of_cell? w _ hx143_1)).trans hx143_1
           replace hx143_2 := (HB.out.cell (World.block_lt_of_cell? w _ hx143_2)).trans hx143_2
           replace p143 := eq_true p143
           replace q143 := eq_true q143
           have p149 : 0 ≤ (x7_1 : Int) := of_decide_eq_true (by first | (with_reducible assumption) | assumption)
           have q149 : x7_1 < (l0.length : Int) := of_decide_eq_true (by first | (with_reducible assumption) | assumption)
           obtain ⟨ad149, e149, hx149_0, hx149_1, hx149_2⟩ := at_T70 HR0.out x7_1 p149 q149
           obtain rfl : ad143 = ad149 := (by injection e149)
           replace hx149_0 := (HB.out.cell (World.block_lt_of_cell? w _ hx149_0)).trans hx149_0
           replace hx149_1 := (HB.out.cell (World.block_lt_of_cell? w _ hx149_1)).trans hx149_1
           replace hx149_2 := (HB.out.cell (World.block_lt_of_cell? w _ hx149_2)).trans hx149_2
           replace p149 := eq_true p149
           replace q149 := eq_true q149
           go_wp2
           go_roundg k1
           case measure => have := HK1.out; omega
           case rel => exact ⟨(wrap64 (x6_1 + ((rd_T70 l0 x7_1).f1))), (wrap64 (x7_1 + 1)), (x143000_1), (x143001_1), (u143000), (u143001), (by first | rfl | (simp; done) | (simp [*]; done) | (simp; exact isEmpty_bne _)), (by first | rfl | (simp; done) | (simp [*]; done) | (simp; exact isEmpty_bne _)), H', ⟨by have := HK1.out; omega⟩, ⟨by (with_reducible repeat (first | apply Kd.R_alloc | apply Kd.R_drewN | apply Kd.R_drew)); exact HO_143000.out⟩, ⟨by (with_reducible repeat (first | apply Kd.R_alloc | apply Kd.R_drewN | apply Kd.R_drew)); exact HO_143001.out⟩, ⟨by (with_reducible repeat (first | refine blk_drewN ?_ _ | refine blk_drew ?_ | refine blk_alloc ?_ _)); exact BK133.out⟩, ⟨by (with_reducible repeat (first | refine blk_drewN ?_ _ | refine blk_drew ?_ | refine blk_alloc ?_ _)); exact BK142.out⟩, ⟨by repeat (first | (with_reducible first | exact HB.out | apply below_alloc | apply pw_below_drewN | apply below_drew1 | refine below_set ?_ GE133.out | refine below_set ?_ GE142.out) | exact HB.out)⟩⟩
        ·
         rw [if_neg c23] at H
         exact absurd H (by simp)
       ·
        rw [if_neg c22] at H
        have c22b0 : decide (x7_1 < (l0.length : Int)) = false := decide_eq_false c22
        clear c22
        simp only [Option.some.injEq, Prod.mk.injEq] at H
        obtain ⟨rfl, rfl⟩ := H
        have hnb42 := NB142_133.out
        have hnc42 := NB133_142.out
        have hcz43_0 : wr.cell? ⟨gb142, 0, none⟩ = some (u143000) := (blk_cell BK142.out 0).trans rfl
        have hcz43_1 : wr.cell? ⟨gb142, 1, none⟩ = some (u143001) := (blk_cell BK142.out 1).trans rfl
        have hfz43_0 := blk_frozen BK142.out 0
        have hfz43_1 := blk_frozen BK142.out 1
        obtain ⟨Ao44, co44, eo44⟩ := Kd.R_slice HO_143000.out
        subst eo44
        have hcz45_0 : wr.cell? ⟨gb133, 0, none⟩ = some (.slice none 0 0) := (blk_cell BK133.out 0).trans rfl
        have hcz45_1 : wr.cell? ⟨gb133, 1, none⟩ = some (.slice none 0 0) := (blk_cell BK133.out 1).trans rfl
        have hfz45_0 := blk_frozen BK133.out 0
        have hfz45_1 := blk_frozen BK133.out 1
        obtain ⟨Ao46, co46, eo46⟩ := Kd.R_slice HO_143001.out
        subst eo46
        go_wp2
        refine bodyPost_ret (results_cell_row rfl _ _ gb133 113 #[.slice Ao44 x143000_1.length co44, .slice Ao46 x143001_1.length co46] (0, 0) _ rfl (by (with_reducible repeat (first | refine blk_drewN ?_ _ | refine blk_drew ?_ | refine blk_alloc ?_ _)); refine blk_put (cs := #[.slice Ao44 x143000_1.length co44, .slice none 0 0]) ?_ 1 _ rfl; (with_reducible repeat (first | refine blk_drewN ?_ _ | refine blk_drew ?_ | refine blk_alloc ?_ _)); refine blk_put (cs := #[.slice none 0 0, .slice none 0 0]) ?_ 0 _ rfl; (with_reducible repeat (first | refine blk_drewN ?_ _ | refine blk_drew ?_ | refine blk_alloc ?_ _)); exact BK133.out) Try.underlying113 rfl (by kernel_rfl)) rfl ?_
        exact ⟨_, _, by first | rfl | (simp [errW_none, errW_some] <;> rfl) | (simp only [← hji3]; first | rfl | (simp [errW_none, errW_some] <;> rfl)) | (simp [*, errW_none, errW_some] <;> rfl), by (with_reducible repeat (first | apply Kd.R_alloc | apply Kd.R_drewN | apply Kd.R_drew)); exact Kd.R_mono (Kd.R_far (p := ⟨gb133, 1, none⟩) (Kd.R_far (p := ⟨gb133, 0, none⟩) (Kd.R_types HO_143000.out BK133.out (by decide)) (fun _ hk => hk.2) (.slice Ao44 x143000_1.length co44)) (fun _ hk => hk.2) (.slice Ao46 x143001_1.length co46)) (fun _ hk => trivial), by (with_reducible repeat (first | apply Kd.R_alloc | apply Kd.R_drewN | apply Kd.R_drew)); exact Kd.R_mono (Kd.R_far (p := ⟨gb133, 1, none⟩) (Kd.R_far (p := ⟨gb133, 0, none⟩) (Kd.R_types HO_143001.out BK133.out (by decide)) (fun _ hk => hk.2) (.slice Ao44 x143000_1.length co44)) (fun _ hk => hk.2) (.slice Ao46 x143001_1.length co46)) (fun _ hk => trivial), by repeat (first | (with_reducible first | exact HB.out | apply below_alloc | apply pw_below_drewN | apply below_drew1 | refine below_set ?_ GE133.out | refine below_set ?_ GE142.out) | exact HB.out)⟩
    ·
     rw [if_neg c7] at H
     exact absurd H (by simp)
   ·
    rw [if_neg c6] at H
    exact absurd H (by simp)
  ·
   rw [if_neg c5] at H
   exact absurd H (by simp)
 ·
  rw [if_neg c4] at H
  exact absurd H (by simp)
end Go.Proofs.Ytidihnnkcmeaeaa.A
