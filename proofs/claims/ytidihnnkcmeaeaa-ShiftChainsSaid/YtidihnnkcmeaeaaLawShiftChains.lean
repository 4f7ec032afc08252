/- The row of the law ShiftChains, out of its plain law and the walk. No condition. -/
import Derived.Test.YtidihnnkcmeaeaaRows
import Derived.Test.YtidihnnkcmeaeaaMR
import Derived.Test.YtidihnnkcmeaeaaS5
import Derived.WalkKit
import Derived.ProofKit
import Derived.OpenShut
import Derived.ShutString
import Derived.ChangeOld
import Derived.Below
import Derived.SizedLaws
import Derived.Test.YtidihnnkcmeaeaaWSized
namespace Go.Proofs.Ytidihnnkcmeaeaa.shiftChains
open Go.ChangeShapes Go.WideShapes Go.ChangeAt Go.RowKit
open Go.ChangeMaps (open_string shut_string)
set_option linter.unusedVariables false
theorem own : ownKnob Try.prog.godebug = none := by kernel_rfl
theorem laidOut : laidOutB Try.prog = true := by kernel_rfl
theorem walk (A0 : Option Addr) (cap0 : Nat) (l0 : List (List A.S70)) (A1 : Option Addr) (cap1 : Nat) (l1 : List A.S70) (W : World) (hl0 : l0.length ≤ cap0) (hC0 : YtidihnnkcmeaeaaW.PrintWords.Kd.C (YtidihnnkcmeaeaaW.PrintWords.Kd.slice 70 A.k70) W A0 l0.length l0) (s0 : l0.length < 5864062014804 ∧ ∀ d ∈ l0, d.length ≤ 9223372036854775807) (hl1 : l1.length ≤ cap1) (hC1 : YtidihnnkcmeaeaaW.PrintWords.Kd.C A.k70 W A1 l1.length l1) (s1 : l1.length < 4398046511104 ∧ ∀ o ∈ l1, o.f2.size ≤ 140737488355328) :
    Calls Try.prog 10 #[.slice A0 l0.length cap0, .slice A1 l1.length cap1] W fun e w' => e = .returned (.bool true) ∧ Below W.heap.size W w' := by
  obtain ⟨k, hk⟩ := (A.shiftChains_law l0 l1 s0.1 s0.2 (by have := s1.1; omega)).rounds
  exact A.galleylaw14_ShiftChains.calls k (fun k_ => k_ < W.heap.size) A0 cap0 l0 (fun k_ => k_ < W.heap.size) A1 cap1 l1 true W (YtidihnnkcmeaeaaW.PrintWords.Kd.V_mk hl0 (YtidihnnkcmeaeaaW.PrintWords.Kd.C_F (YtidihnnkcmeaeaaW.PrintWords.Kd.heap_slice 70 A.k70_heap) hC0)) (YtidihnnkcmeaeaaW.PrintWords.Kd.V_mk hl1 (YtidihnnkcmeaeaaW.PrintWords.Kd.C_F A.k70_heap hC1)) hk
set_option maxRecDepth 100000 in
theorem lifted (os : Os) (started : os.Started) (H : Type) (enc : TypeId × Value → H) :
    ReturnsInHanded {} Try.checked os 10 .any (Rows.shiftChainsSpec.pre6 enc Try.prog Try.f10 Rows.shiftChainsRow.domain false) (Rows.shiftChainsSpec.post enc Try.prog Try.f10 false true false false) := by
  refine returnsInHanded_of_change_sized (C := Try.checked) own started (by kernel_rfl) Try.func10
    (ChangeSpec.witness6 (enc := enc) (C := Try.checked) false ⟨#[], #[.slice none 0 0, .slice none 0 0], []⟩ 8 (by kernel_rfl) (by kernel_rfl) (by kernel_rfl) (by kernel_rfl)) ?_
  intro W base args ds gs before hval0 hW hcnd hsz0 _
  have hsz : (DataW.weightsEach Try.prog (Try.f10.params.toList ++ Rows.shiftChainsSpec.plain.varTypes Try.prog) (ds ++ gs)).all (· ≤ reachBytes) = true := hsz0
  have hval : ∀ (j : Nat) t v, Try.f10.params[j]? = some t → args[j]? = some v → Value.okWide Try.prog W .any base t v := hval0
  have hW' := hW
  obtain ⟨p, q, hA0, hV, rfl, hfz, hnd⟩ := hW
  have hA : DataW.TrodAll enc Try.prog W 0 (fun _ => true) true Try.f10.params.toList args.toList ds p := hA0
  rw [Try.params10] at hA hval hsz
  obtain ⟨v0, vs0, d0, ds0, p0, q0, hargs, rfl, rfl, h0, r0⟩ := trodAll_cons hA
  obtain ⟨v1, vs1, d1, ds1, p1, q1, rfl, rfl, rfl, h1, r1⟩ := trodAll_cons r0
  obtain ⟨rfl, rfl, rfl⟩ := trodAll_nil r1
  obtain rfl : args = #[v0, v1] := by cases args; simp_all
  obtain ⟨rfl, rfl⟩ := trodVars_none hV
  obtain ⟨a0, len0, cap0, rfl⟩ := okWide_slice Try.underlying60 (hval 0 60 v0 rfl rfl)
  have k0 := h0
  have lt0 : ∀ x ∈ p0, x.block < W.heap.size := by obtain ⟨m, hm⟩ := k0; exact DataW.trod_lt m _ _ _ hm
  have wt0 : (d0.weights Try.prog 60).all (· ≤ reachBytes) = true := List.all_eq_true.mpr (fun z hz => List.all_eq_true.1 hsz z (DataW.weights_mem_each (j := 0) rfl rfl z hz))
  obtain ⟨fuel0, hf0⟩ := h0
  obtain ⟨A0, cp0, l0, hcs0, hl0, hC0, hs0⟩ := A.open_lists hf0
  simp only [Value.cells, List.cons.injEq, Value.slice.injEq, and_true] at hcs0
  obtain ⟨rfl, rfl, rfl⟩ := hcs0
  obtain ⟨a1, len1, cap1, rfl⟩ := okWide_slice Try.underlying25 (hval 1 25 v1 rfl rfl)
  have k1 := h1
  have lt1 : ∀ x ∈ p1, x.block < W.heap.size := by obtain ⟨m, hm⟩ := k1; exact DataW.trod_lt m _ _ _ hm
  have wt1 : (d1.weights Try.prog 25).all (· ≤ reachBytes) = true := List.all_eq_true.mpr (fun z hz => List.all_eq_true.1 hsz z (DataW.weights_mem_each (j := 1) rfl rfl z hz))
  obtain ⟨fuel1, hf1⟩ := h1
  obtain ⟨A1, cp1, l1, hcs1, hl1, hC1, hs1⟩ := A.open_ops hf1
  simp only [Value.cells, List.cons.injEq, Value.slice.injEq, and_true] at hcs1
  obtain ⟨rfl, rfl, rfl⟩ := hcs1
  clear hA0 hval0 hsz0 hsz
  refine (walk _ _ l0 _ _ l1 W hl0 hC0 (hs0 wt0) hl1 hC1 (hs1 wt1)).mono fun e W' ⟨he, bel⟩ => ?_
  subst he
  exact ⟨_, rfl, _, _, _, [], _, [], hW', trodAll_mk1 (shut_bool Try.underlying4 _), (trodAll_cons_mk (Below.trod laidOut (by kernel_rfl) (of_decide_eq_true (by kernel_rfl)) k0 bel lt0) (trodAll_cons_mk (Below.trod laidOut (by kernel_rfl) (of_decide_eq_true (by kernel_rfl)) k1 bel lt1) trodAll_mk0)), rfl, bel.frame _, fun h => by cases h⟩
theorem over : Rows.shiftChainsRow.holds Try.pinned (OpenSpec.ofChange Rows.shiftChainsSpec) :=
  OpenClaim.holds_of_wide 10 Try.f10 rfl rfl rfl rfl rfl rfl rfl ⟨rfl, rfl, rfl, rfl, rfl⟩ rfl rfl rfl rfl rfl (by kernel_rfl) Try.func10 (by kernel_rfl)
    (of_decide_eq_true (by kernel_rfl)) (by unfold Func.isWrapper; first | (rw [if_pos (by decide +kernel)]; kernel_rfl) | (rw [if_neg (by decide +kernel)]; exact ⟨rfl, rfl⟩))
    (fun os started H enc _ => lifted os started H enc)
theorem proved : Rows.ShiftChainsSaid := over
#print axioms proved
end Go.Proofs.Ytidihnnkcmeaeaa.shiftChains
namespace Go.Proofs.Ytidihnnkcmeaeaa
/-- The row, under a short name, for the claim. -/
theorem shiftChains_holds : Rows.ShiftChainsSaid := shiftChains.proved
end Go.Proofs.Ytidihnnkcmeaeaa
