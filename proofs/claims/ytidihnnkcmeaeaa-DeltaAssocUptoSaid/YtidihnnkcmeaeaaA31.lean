-- Written by a program over the translation (the kit's print, turned so that some functions are taken by contracts of this claim's own).
import Derived.Test.YtidihnnkcmeaeaaA0
namespace Go.Proofs.Ytidihnnkcmeaeaa.A
open Go.RowKit Go.Proofs.YtidihnnkcmeaeaaW.PrintWords Go.Proofs.YtidihnnkcmeaeaaW.PrintLast Go.Proofs.YtidihnnkcmeaeaaW.PrintMore
attribute [local go_sem] max2_int min2_int max_two min_two max_three min_three max_four min_four   -- for this text's walks alone
set_option linter.unusedVariables false
set_option linter.unusedSimpArgs false

/-! ### galleylaw13_all: function 50 -/
def galleylaw13_all.f (a0 : Int) : Option ((List (S70))) := if a0 = 0 then (some ([] : List (S70))) else (some (([(⟨1, a0, (⟨#[]⟩ : ByteArray)⟩ : S70)] : List (S70))))
set_option maxHeartbeats 8000000 in
set_option maxRecDepth 100000 in
theorem galleylaw13_all.calls (a0 : Int) (r : List (S70)) (w : World) (h : galleylaw13_all.f a0 = some r) :
  Calls Try.prog 50 #[.int .i64 a0] w fun e w' => ∃ v0_ : Value, e = .returned (v0_) ∧ Kd.R k70 70 w' w.heap.size (fun _ => True) v0_ r ∧ Below w.heap.size w w' := by
 have hu70 := Try.underlying70
 have HB := Aside0.mk (Below.refl w.heap.size w)
 have H : (if a0 = 0 then (some ([] : List (S70))) else (some (([(⟨1, a0, (⟨#[]⟩ : ByteArray)⟩ : S70)] : List (S70))))) = some r := h
 clear h
 by_cases c2 : a0 = 0
 ·
  rw [if_pos c2] at H
  have c2b0 : (a0 == 0) = true := beq_iff_eq.mpr c2
  have c2b1 : (a0 != 0) = false := bne_eq_false_iff_eq.mpr c2
  clear c2
  obtain rfl := Option.some.inj H
  go_enter Try.func50, Try.ntmps50
  go_wp2
  go_ret
  exact ⟨_, by first | rfl | (simp [errW_none, errW_some] <;> rfl) | (simp [*, errW_none, errW_some] <;> rfl), by first | exact Kd.R_nil _ _ _ _ _ | exact Kd.N_nil _ _ _ _ _ | exact Kd.V_nil _ _ _ _ _ | exact Kd.Q_nil _ _ _ _ _ | exact Kd.S_nil _ _ _ _ _, by repeat (first | (with_reducible first | exact HB.out | apply below_alloc | apply pw_below_drewN | apply below_drew1) | exact HB.out)⟩
 ·
  rw [if_neg c2] at H
  have c2b0 : (a0 == 0) = false := beq_eq_false_iff_ne.mpr c2
  have c2b1 : (a0 != 0) = true := bne_iff_ne.mpr c2
  obtain ⟨y740, hy740⟩ : ∃ y_ : List (S70), y_ = (([(⟨1, a0, (⟨#[]⟩ : ByteArray)⟩ : S70)] : List (S70))) := ⟨_, rfl⟩
  replace H : (some y740) = some r := by first | (rw [hy740]; with_reducible exact H) | (have H2_ := (Option.bind_some _ _).symm.trans H; rw [hy740]; with_reducible exact H2_) | (have H2_ := (Option.bind_some _ _).symm.trans H; with_reducible exact H2_) | with_reducible exact H | (rw [hy740]; exact H) | exact H
  have Ny740 := Aside0.mk hy740
  clear hy740
  obtain rfl := Option.some.inj H
  go_enter Try.func50, Try.ntmps50
  go_wp2_with (first | ((with_reducible refine gate_dst (N := 7) rfl ?_); refine Kd.R_lit k70 _ 70 ?hg (N := 7) ?hd (xs := ([(⟨1, a0, (⟨#[]⟩ : ByteArray)⟩ : S70)] : List (S70))) (inner := [.int .i64 1, .int .i64 a0, .string (⟨#[]⟩ : ByteArray)]) (ok := fun _ => True) (okp := fun _ => True) ?hr ?hp (fun _ hk => hk) trivial (Below.refl _ _) (Nat.le_refl _) (by simp) ?_; (case hd => rfl); (case hg => rfl); (case hr => first | (go_simp; done) | (go_simp; rfl)); (case hp => exact (Reps.c3 (show Kd.M k70 _ _ _ (⟨1, a0, (⟨#[]⟩ : ByteArray)⟩ : S70) [.int .i64 1, .int .i64 a0, .string (⟨#[]⟩ : ByteArray)] from (k70_mkM _ _ _ (⟨1, a0, (⟨#[]⟩ : ByteArray)⟩ : S70) )) (Reps.none _ _))); intro v741 w3 ho4 hb hg_ hnew_; clear hg_ hnew_; (first | rw [← Ny740.out] at ho4 | (simp only [Int.reduceToNat] at ho4; rw [← Ny740.out] at ho4)); have n0_ := Aside0.mk (Kd.R_lower ho4 (below_size (by repeat (first | (with_reducible first | exact HB.out | apply below_alloc | apply pw_below_drewN | apply below_drew1) | exact HB.out)))); have n1_ := Aside0.mk (below_step (by repeat (first | (with_reducible first | exact HB.out | apply below_alloc | apply pw_below_drewN | apply below_drew1) | exact HB.out)) hb); clear HB; have HO742 := n0_; have HB := n1_; clear n0_ n1_; clear hb ho4))
  go_ret
  exact ⟨_, by first | rfl | (simp [errW_none, errW_some] <;> rfl) | (simp [*, errW_none, errW_some] <;> rfl), by (with_reducible repeat (first | apply Kd.R_alloc | apply Kd.R_drewN | apply Kd.R_drew)); exact HO742.out, by repeat (first | (with_reducible first | exact HB.out | apply below_alloc | apply pw_below_drewN | apply below_drew1) | exact HB.out)⟩

end Go.Proofs.Ytidihnnkcmeaeaa.A
