/- The row of the law ShiftChain where what comes in is of small bulk, out of its plain law and the walk. No condition but that. -/
import Derived.Test.YtidihnnkcmeaeaaRows
import Derived.Test.YtidihnnkcmeaeaaP14
import Derived.Test.YtidihnnkcmeaeaaS7
import Derived.WalkKit
import Derived.ProofKit
import Derived.OpenShut
import Derived.ShutString
import Derived.ChangeOld
import Derived.Below
import Derived.SizedLaws
import Derived.JoinedCond
namespace Go.Proofs.Ytidihnnkcmeaeaa.shiftChain
open Go.ChangeShapes Go.WideShapes Go.ChangeAt Go.RowKit
open Go.ChangeMaps (open_string shut_string)
set_option linter.unusedVariables false
set_option linter.unusedSimpArgs false
theorem own : ownKnob Try.prog.godebug = none := by kernel_rfl
theorem laidOut : laidOutB Try.prog = true := by kernel_rfl
theorem walk (A0 : Option Addr) (cap0 : Nat) (l0 : List (List A.S70)) (A1 : Option Addr) (cap1 : Nat) (l1 : List A.S70) (W : World) (hl0 : l0.length ≤ cap0) (hC0 : YtidihnnkcmeaeaaW.PrintWords.Kd.C (YtidihnnkcmeaeaaW.PrintWords.Kd.slice 70 A.k70) W A0 l0.length l0) (s0 : l0.length ≤ 1048576 ∧ ∀ d ∈ l0, d.length ≤ 1048576 ∧ A.txts d ≤ 1048576) (hl1 : l1.length ≤ cap1) (hC1 : YtidihnnkcmeaeaaW.PrintWords.Kd.C A.k70 W A1 l1.length l1) (s1 : l1.length ≤ 1048576 ∧ A.txts l1 ≤ 1048576) :
  Calls Try.prog 19 #[.slice A0 l0.length cap0, .slice A1 l1.length cap1] W fun e w' => e = .returned (.bool true) ∧ Below W.heap.size W w' := by
 obtain ⟨k, hk⟩ := (A.shiftChain_law l0 l1 s0 s1).rounds
 exact A.galleylaw14_ShiftChain.calls k A0 cap0 l0 (fun k_ => k_ < W.heap.size) A1 cap1 l1 true W hC0 hl0 (YtidihnnkcmeaeaaW.PrintWords.Kd.V_mk hl1 (YtidihnnkcmeaeaaW.PrintWords.Kd.C_F A.k70_heap hC1)) hk
set_option maxRecDepth 100000 in
theorem contract (H : Type) (enc : TypeId × Value → H) (W : World) (base : Nat) (args : Array Value) (ds gs : List (DataW H)) (before : List MemPlace)
  (hval0 : ∀ (j : Nat) t v, Try.f19.params[j]? = some t → args[j]? = some v → Value.okWide Try.prog W .any base t v)
  (hW : DataW.Whole enc Try.prog Try.f19.params.toList Rows.shiftChainSpec.vars false W args.toList ds gs before) (hk : Rows.uptoSmall H (ds ++ gs) = true) :
  Calls Try.prog 19 args W fun e W' => ∃ v, e = .returned v ∧ Rows.shiftChainSpec.post enc Try.prog Try.f19 false true false false W args v W' := by
 have hval := hval0
 have hW' := hW
 obtain ⟨p, q, hA0, hV, rfl, hfz, hnd⟩ := hW
 have hA : DataW.TrodAll enc Try.prog W 0 (fun _ => true) true Try.f19.params.toList args.toList ds p := hA0
 rw [Try.params19] at hA hval
 obtain ⟨v0, vs0, d0, ds0, p0, q0, hargs, rfl, rfl, h0, r0⟩ := trodAll_cons hA
 obtain ⟨v1, vs1, d1, ds1, p1, q1, rfl, rfl, rfl, h1, r1⟩ := trodAll_cons r0
 obtain ⟨rfl, rfl, rfl⟩ := trodAll_nil r1
 obtain rfl : args = #[v0, v1] := by cases args; simp_all
 obtain ⟨rfl, rfl⟩ := trodVars_none hV
 obtain ⟨a0, len0, cap0, rfl⟩ := okWide_slice Try.underlying60 (hval 0 60 v0 rfl rfl)
 have k0 := h0
 have lt0 : ∀ x ∈ p0, x.block < W.heap.size := by obtain ⟨m, hm⟩ := k0; exact DataW.trod_lt m _ _ _ hm
 obtain ⟨fuel0, hf0⟩ := h0
 obtain ⟨A0, cp0, l0, hcs0, hl0, hC0, hs0, ht0⟩ := A.open_lists_bulk hf0
 simp only [Value.cells, List.cons.injEq, Value.slice.injEq, and_true] at hcs0
 obtain ⟨rfl, rfl, rfl⟩ := hcs0
 obtain ⟨a1, len1, cap1, rfl⟩ := okWide_slice Try.underlying25 (hval 1 25 v1 rfl rfl)
 have k1 := h1
 have lt1 : ∀ x ∈ p1, x.block < W.heap.size := by obtain ⟨m, hm⟩ := k1; exact DataW.trod_lt m _ _ _ hm
 obtain ⟨fuel1, hf1⟩ := h1
 obtain ⟨A1, cp1, l1, hcs1, hl1, hC1, hs1, ht1⟩ := A.open_ops_bulk hf1
 simp only [Value.cells, List.cons.injEq, Value.slice.injEq, and_true] at hcs1
 obtain ⟨rfl, rfl, rfl⟩ := hcs1
 have hbk : Rows.uptoBulkAll [d0, d1] ≤ 1048576 := of_decide_eq_true hk
 simp only [Rows.uptoBulkAll, Rows.uptoBulk] at hbk
 have hb0 : (l0.length : Int) ≤ (Rows.uptoBulk d0 : Int) := hs0
 have hc0 : ∀ d ∈ l0, (d.length : Int) ≤ (Rows.uptoBulk d0 : Int) ∧ A.txts d ≤ (Rows.uptoBulk d0 : Int) := ht0
 have hb1 : (l1.length : Int) ≤ (Rows.uptoBulk d1 : Int) := hs1
 have hc1 : A.txts l1 ≤ (Rows.uptoBulk d1 : Int) := ht1
 clear hA0
 refine (walk _ _ l0 _ _ l1 W hl0 hC0 ⟨by omega, fun d hd => ⟨by have := (hc0 d hd).1; omega, by have := (hc0 d hd).2; omega⟩⟩ hl1 hC1 ⟨by omega, by omega⟩).mono fun e W' ⟨he, bel⟩ => ?_
 subst he
 exact ⟨_, rfl, _, _, _, [], _, [], hW', trodAll_mk1 (shut_bool Try.underlying4 _), (trodAll_cons_mk (Below.trod laidOut (by kernel_rfl) (of_decide_eq_true (by kernel_rfl)) k0 bel lt0) (trodAll_cons_mk (Below.trod laidOut (by kernel_rfl) (of_decide_eq_true (by kernel_rfl)) k1 bel lt1) trodAll_mk0)), rfl, bel.frame _, fun h => by cases h⟩
set_option maxRecDepth 100000 in
theorem lifted (os : Os) (started : os.Started) (H : Type) (enc : TypeId × Value → H) (F : Stop.Interp) :
  ReturnsInHanded {} Try.checked os 19 .any ((Rows.OpenSpec.upto Rows.shiftChainSpec).pre6 enc Try.prog Try.f19 Rows.shiftChainUptoRow.domain false) (((Rows.OpenSpec.upto Rows.shiftChainSpec).at F).post enc Try.prog Try.f19 false true false false) := by
 refine returnsInHanded_of_cond (C := Try.checked) (s := Rows.OpenSpec.upto Rows.shiftChainSpec) (k := Rows.uptoSmall) rfl own started (by kernel_rfl) Try.func19
  (OpenSpec.witness (enc := enc) (C := Try.checked) (s := Rows.OpenSpec.upto Rows.shiftChainSpec) (k := Rows.uptoSmall) rfl false ⟨#[], #[.slice none 0 0, .slice none 0 0], []⟩ 8 (by kernel_rfl) (by kernel_rfl) (by kernel_rfl)
   (x := ([.nil, .nil], [], [])) (by kernel_rfl) rfl (by kernel_rfl)) ?_
 intro W base args ds gs before hval hW _ hk _
 exact contract H enc W base args ds gs before hval hW hk
theorem over : Rows.shiftChainUptoRow.holds Try.pinned (Rows.OpenSpec.upto Rows.shiftChainSpec) :=
 OpenClaim.holds_of_cond 19 Try.f19 rfl rfl rfl rfl rfl rfl rfl ⟨rfl, rfl, rfl, rfl, rfl⟩ rfl rfl rfl rfl rfl (by kernel_rfl) Try.func19 (by kernel_rfl)
  (of_decide_eq_true (by kernel_rfl)) (by unfold Func.isWrapper; first | (rw [if_pos (by decide +kernel)]; kernel_rfl) | (rw [if_neg (by decide +kernel)]; exact ⟨rfl, rfl⟩))
  (fun os started H enc _ F => lifted os started H enc F)
theorem proved : Rows.ShiftChainUptoSaid := over
#print axioms proved
end Go.Proofs.Ytidihnnkcmeaeaa.shiftChain
namespace Go.Proofs.Ytidihnnkcmeaeaa
theorem shiftChainUpto_holds : Rows.ShiftChainUptoSaid := shiftChain.proved
end Go.Proofs.Ytidihnnkcmeaeaa
