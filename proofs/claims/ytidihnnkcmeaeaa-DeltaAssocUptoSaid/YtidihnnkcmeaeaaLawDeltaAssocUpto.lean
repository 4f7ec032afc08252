/- The row of the law DeltaAssoc where what comes in is of small bulk, out of its plain law and the walk. No condition but that. -/
import Derived.Test.YtidihnnkcmeaeaaRows
import Derived.Test.YtidihnnkcmeaeaaL2
import Derived.Test.YtidihnnkcmeaeaaS6
import Derived.Test.YtidihnnkcmeaeaaS2
import Derived.WalkKit
import Derived.ProofKit
import Derived.OpenShut
import Derived.ShutString
import Derived.ChangeOld
import Derived.Below
import Derived.SizedLaws
import Derived.JoinedCond
namespace Go.Proofs.Ytidihnnkcmeaeaa.deltaAssoc
open Go.ChangeShapes Go.WideShapes Go.ChangeAt Go.RowKit
open Go.ChangeMaps (open_string shut_string)
set_option linter.unusedVariables false
theorem own : ownKnob Try.prog.godebug = none := by kernel_rfl
theorem laidOut : laidOutB Try.prog = true := by kernel_rfl
theorem walk (A0 : Option Addr) (cap0 : Nat) (l0 : List Int) (A1_0 : Option Addr) (cap1_0 : Nat) (l1_0 : List A.S70) (A1_1 : Option Addr) (cap1_1 : Nat) (l1_1 : List A.S70) (A1_2 : Option Addr) (cap1_2 : Nat) (l1_2 : List A.S70) (W : World) (hl0 : l0.length ≤ cap0) (hC0 : YtidihnnkcmeaeaaW.PrintWords.Kd.C (YtidihnnkcmeaeaaW.PrintWords.Kd.int .u8) W A0 l0.length l0) (s0 : True) (hl1_0 : l1_0.length ≤ cap1_0) (hC1_0 : YtidihnnkcmeaeaaW.PrintWords.Kd.C A.k70 W A1_0 l1_0.length l1_0) (s1_0 : A.txts l1_0 ≤ 1048576) (hl1_1 : l1_1.length ≤ cap1_1) (hC1_1 : YtidihnnkcmeaeaaW.PrintWords.Kd.C A.k70 W A1_1 l1_1.length l1_1) (s1_1 : A.txts l1_1 ≤ 1048576) (hl1_2 : l1_2.length ≤ cap1_2) (hC1_2 : YtidihnnkcmeaeaaW.PrintWords.Kd.C A.k70 W A1_2 l1_2.length l1_2) (s1_2 : A.txts l1_2 ≤ 1048576) :
    Calls Try.prog 11 #[.slice A0 l0.length cap0, .agg #[.slice A1_0 l1_0.length cap1_0, .slice A1_1 l1_1.length cap1_1, .slice A1_2 l1_2.length cap1_2]] W fun e w' => e = .returned (.bool true) ∧ Below W.heap.size W w' := by
  obtain ⟨k, hk⟩ := (A.deltaAssoc_law l0 l1_0 l1_1 l1_2 (by intro d hd o ho; simp only [List.mem_cons, List.not_mem_nil, or_false] at hd; rcases hd with rfl | rfl | rfl <;> (have := A.txts_mem ho; omega))).rounds
  exact A.galleylaw13_DeltaAssoc.calls k A0 cap0 l0 (fun k_ => k_ < W.heap.size) A1_0 cap1_0 l1_0 (fun k_ => k_ < W.heap.size) A1_1 cap1_1 l1_1 (fun k_ => k_ < W.heap.size) A1_2 cap1_2 l1_2 true W hC0 hl0 (YtidihnnkcmeaeaaW.PrintWords.Kd.V_mk hl1_0 (YtidihnnkcmeaeaaW.PrintWords.Kd.C_F A.k70_heap hC1_0)) (YtidihnnkcmeaeaaW.PrintWords.Kd.V_mk hl1_1 (YtidihnnkcmeaeaaW.PrintWords.Kd.C_F A.k70_heap hC1_1)) (YtidihnnkcmeaeaaW.PrintWords.Kd.V_mk hl1_2 (YtidihnnkcmeaeaaW.PrintWords.Kd.C_F A.k70_heap hC1_2)) hk
set_option maxRecDepth 100000 in
theorem contract (H : Type) (enc : TypeId × Value → H) (W : World) (base : Nat) (args : Array Value) (ds gs : List (DataW H)) (before : List MemPlace)
    (hval0 : ∀ (j : Nat) t v, Try.f11.params[j]? = some t → args[j]? = some v → Value.okWide Try.prog W .any base t v)
    (hW : DataW.Whole enc Try.prog Try.f11.params.toList Rows.deltaAssocSpec.vars false W args.toList ds gs before) (hk : Rows.uptoSmall H (ds ++ gs) = true) :
    Calls Try.prog 11 args W fun e W' => ∃ v, e = .returned v ∧ Rows.deltaAssocSpec.post enc Try.prog Try.f11 false true false false W args v W' := by
  have hval := hval0
  have hW' := hW
  obtain ⟨p, q, hA0, hV, rfl, hfz, hnd⟩ := hW
  have hA : DataW.TrodAll enc Try.prog W 0 (fun _ => true) true Try.f11.params.toList args.toList ds p := hA0
  rw [Try.params11] at hA hval
  obtain ⟨v0, vs0, d0, ds0, p0, q0, hargs, rfl, rfl, h0, r0⟩ := trodAll_cons hA
  obtain ⟨v1, vs1, d1, ds1, p1, q1, rfl, rfl, rfl, h1, r1⟩ := trodAll_cons r0
  obtain ⟨rfl, rfl, rfl⟩ := trodAll_nil r1
  obtain rfl : args = #[v0, v1] := by cases args; simp_all
  obtain ⟨rfl, rfl⟩ := trodVars_none hV
  obtain ⟨a0, len0, cap0, rfl⟩ := okWide_slice Try.underlying23 (hval 0 23 v0 rfl rfl)
  have k0 := h0
  have lt0 : ∀ x ∈ p0, x.block < W.heap.size := by obtain ⟨m, hm⟩ := k0; exact DataW.trod_lt m _ _ _ hm
  obtain ⟨fuel0, hf0⟩ := h0
  obtain ⟨A0, cp0, l0, hcs0, hl0, hC0, hs0⟩ := A.open_bytes hf0
  simp only [Value.cells, List.cons.injEq, Value.slice.injEq, and_true] at hcs0
  obtain ⟨rfl, rfl, rfl⟩ := hcs0
  obtain ⟨cs1, rfl, hsz1⟩ := okWide_struct Try.underlying65 (hval 1 65 v1 rfl rfl)
  have k1 := h1
  have lt1 : ∀ x ∈ p1, x.block < W.heap.size := by obtain ⟨m, hm⟩ := k1; exact DataW.trod_lt m _ _ _ hm
  obtain ⟨fuel1, hf1⟩ := h1
  obtain ⟨A1_0, cp1_0, l1_0, A1_1, cp1_1, l1_1, A1_2, cp1_2, l1_2, hcs1, ⟨hl1_0, hC1_0, ht1_0⟩, ⟨hl1_1, hC1_1, ht1_1⟩, ⟨hl1_2, hC1_2, ht1_2⟩⟩ := A.open_three_bulk hf1
  obtain rfl : cs1 = #[.slice A1_0 l1_0.length cp1_0, .slice A1_1 l1_1.length cp1_1, .slice A1_2 l1_2.length cp1_2] := by cases cs1; simp only [Value.cells] at hcs1; simp_all
  have hbk : Rows.uptoBulkAll [d0, d1] ≤ 1048576 := of_decide_eq_true hk
  simp only [Rows.uptoBulkAll, Rows.uptoBulk] at hbk
  have hc1_0 : A.txts l1_0 ≤ (Rows.uptoBulk d1 : Int) := ht1_0
  have hc1_1 : A.txts l1_1 ≤ (Rows.uptoBulk d1 : Int) := ht1_1
  have hc1_2 : A.txts l1_2 ≤ (Rows.uptoBulk d1 : Int) := ht1_2
  clear hA0
  refine (walk _ _ l0 _ _ l1_0 _ _ l1_1 _ _ l1_2 W hl0 hC0 trivial hl1_0 hC1_0 (by omega) hl1_1 hC1_1 (by omega) hl1_2 hC1_2 (by omega)).mono fun e W' ⟨he, bel⟩ => ?_
  subst he
  exact ⟨_, rfl, _, _, _, [], _, [], hW', trodAll_mk1 (shut_bool Try.underlying4 _), (trodAll_cons_mk (Below.trod laidOut (by kernel_rfl) (of_decide_eq_true (by kernel_rfl)) k0 bel lt0) (trodAll_cons_mk (Below.trod laidOut (by kernel_rfl) (of_decide_eq_true (by kernel_rfl)) k1 bel lt1) trodAll_mk0)), rfl, bel.frame _, fun h => by cases h⟩
set_option maxRecDepth 100000 in
theorem lifted (os : Os) (started : os.Started) (H : Type) (enc : TypeId × Value → H) (F : Stop.Interp) :
    ReturnsInHanded {} Try.checked os 11 .any ((Rows.OpenSpec.upto Rows.deltaAssocSpec).pre6 enc Try.prog Try.f11 Rows.deltaAssocUptoRow.domain false) (((Rows.OpenSpec.upto Rows.deltaAssocSpec).at F).post enc Try.prog Try.f11 false true false false) := by
  refine returnsInHanded_of_cond (C := Try.checked) (s := Rows.OpenSpec.upto Rows.deltaAssocSpec) (k := Rows.uptoSmall) rfl own started (by kernel_rfl) Try.func11
    (OpenSpec.witness (enc := enc) (C := Try.checked) (s := Rows.OpenSpec.upto Rows.deltaAssocSpec) (k := Rows.uptoSmall) rfl false ⟨#[], #[.slice none 0 0, .agg #[.slice none 0 0, .slice none 0 0, .slice none 0 0]], []⟩ 8 (by kernel_rfl) (by kernel_rfl) (by kernel_rfl)
      (x := ([.nil, .agg [.nil, .nil, .nil]], [], [])) (by kernel_rfl) rfl (by kernel_rfl)) ?_
  intro W base args ds gs before hval hW _ hk _
  exact contract H enc W base args ds gs before hval hW hk
theorem over : Rows.deltaAssocUptoRow.holds Try.pinned (Rows.OpenSpec.upto Rows.deltaAssocSpec) :=
  OpenClaim.holds_of_cond 11 Try.f11 rfl rfl rfl rfl rfl rfl rfl ⟨rfl, rfl, rfl, rfl, rfl⟩ rfl rfl rfl rfl rfl (by kernel_rfl) Try.func11 (by kernel_rfl)
    (of_decide_eq_true (by kernel_rfl)) (by unfold Func.isWrapper; first | (rw [if_pos (by decide +kernel)]; kernel_rfl) | (rw [if_neg (by decide +kernel)]; exact ⟨rfl, rfl⟩))
    (fun os started H enc _ F => lifted os started H enc F)
theorem proved : Rows.DeltaAssocUptoSaid := over
#print axioms proved
end Go.Proofs.Ytidihnnkcmeaeaa.deltaAssoc
namespace Go.Proofs.Ytidihnnkcmeaeaa
/-- The row, under a short name, for the claim. -/
theorem deltaAssocUpto_holds : Rows.DeltaAssocUptoSaid := deltaAssoc.proved
end Go.Proofs.Ytidihnnkcmeaeaa
