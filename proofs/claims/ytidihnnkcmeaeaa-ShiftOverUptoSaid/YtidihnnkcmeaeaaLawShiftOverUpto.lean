/- The row of the law ShiftOver where what comes in is of small bulk, out of its plain law and the walk. No condition but that. -/
import Derived.Test.YtidihnnkcmeaeaaRows
import Derived.Test.YtidihnnkcmeaeaaP13
import Derived.Test.YtidihnnkcmeaeaaS4
import Derived.WalkKit
import Derived.ProofKit
import Derived.OpenShut
import Derived.ShutString
import Derived.ChangeOld
import Derived.Below
import Derived.SizedLaws
import Derived.JoinedCond
namespace Go.Proofs.Ytidihnnkcmeaeaa.shiftOver
open Go.ChangeShapes Go.WideShapes Go.ChangeAt Go.RowKit
open Go.ChangeMaps (open_string shut_string)
set_option linter.unusedVariables false
set_option linter.unusedSimpArgs false
theorem own : ownKnob Try.prog.godebug = none := by kernel_rfl
theorem laidOut : laidOutB Try.prog = true := by kernel_rfl
theorem walk (A0 : Option Addr) (cap0 : Nat) (l0 : List A.S70) (A1 : Option Addr) (cap1 : Nat) (l1 : List A.S70) (a2 : Bool) (W : World) (hl0 : l0.length ≤ cap0) (hC0 : YtidihnnkcmeaeaaW.PrintWords.Kd.C A.k70 W A0 l0.length l0) (s0 : l0.length ≤ 1048576 ∧ A.txts l0 ≤ 1048576) (hl1 : l1.length ≤ cap1) (hC1 : YtidihnnkcmeaeaaW.PrintWords.Kd.C A.k70 W A1 l1.length l1) (s1 : l1.length ≤ 1048576 ∧ A.txts l1 ≤ 1048576) :
  Calls Try.prog 17 #[.slice A0 l0.length cap0, .slice A1 l1.length cap1, .bool a2] W fun e w' => e = .returned (.bool true) ∧ Below W.heap.size W w' := by
 obtain ⟨k, hk⟩ := (A.shiftOver_law l0 l1 a2 s0.1 s1.1 s0.2 s1.2).rounds
 exact A.galleylaw14_ShiftOver.calls k (fun k_ => k_ < W.heap.size) A0 cap0 l0 (fun k_ => k_ < W.heap.size) A1 cap1 l1 a2 true W (YtidihnnkcmeaeaaW.PrintWords.Kd.V_mk hl0 (YtidihnnkcmeaeaaW.PrintWords.Kd.C_F A.k70_heap hC0)) (YtidihnnkcmeaeaaW.PrintWords.Kd.V_mk hl1 (YtidihnnkcmeaeaaW.PrintWords.Kd.C_F A.k70_heap hC1)) hk
set_option maxRecDepth 100000 in
theorem contract (H : Type) (enc : TypeId × Value → H) (W : World) (base : Nat) (args : Array Value) (ds gs : List (DataW H)) (before : List MemPlace)
  (hval0 : ∀ (j : Nat) t v, Try.f17.params[j]? = some t → args[j]? = some v → Value.okWide Try.prog W .any base t v)
  (hW : DataW.Whole enc Try.prog Try.f17.params.toList Rows.shiftOverSpec.vars false W args.toList ds gs before) (hk : Rows.uptoSmall H (ds ++ gs) = true) :
  Calls Try.prog 17 args W fun e W' => ∃ v, e = .returned v ∧ Rows.shiftOverSpec.post enc Try.prog Try.f17 false true false false W args v W' := by
 have hval := hval0
 have hW' := hW
 obtain ⟨p, q, hA0, hV, rfl, hfz, hnd⟩ := hW
 have hA : DataW.TrodAll enc Try.prog W 0 (fun _ => true) true Try.f17.params.toList args.toList ds p := hA0
 rw [Try.params17] at hA hval
 obtain ⟨v0, vs0, d0, ds0, p0, q0, hargs, rfl, rfl, h0, r0⟩ := trodAll_cons hA
 obtain ⟨v1, vs1, d1, ds1, p1, q1, rfl, rfl, rfl, h1, r1⟩ := trodAll_cons r0
 obtain ⟨v2, vs2, d2, ds2, p2, q2, rfl, rfl, rfl, h2, r2⟩ := trodAll_cons r1
 obtain ⟨rfl, rfl, rfl⟩ := trodAll_nil r2
 obtain rfl : args = #[v0, v1, v2] := by cases args; simp_all
 obtain ⟨rfl, rfl⟩ := trodVars_none hV
 obtain ⟨a0, len0, cap0, rfl⟩ := okWide_slice Try.underlying25 (hval 0 25 v0 rfl rfl)
 have k0 := h0
 have lt0 : ∀ x ∈ p0, x.block < W.heap.size := by obtain ⟨m, hm⟩ := k0; exact DataW.trod_lt m _ _ _ hm
 obtain ⟨fuel0, hf0⟩ := h0
 obtain ⟨A0, cp0, l0, hcs0, hl0, hC0, hs0, ht0⟩ := A.open_ops_bulk hf0
 simp only [Value.cells, List.cons.injEq, Value.slice.injEq, and_true] at hcs0
 obtain ⟨rfl, rfl, rfl⟩ := hcs0
 obtain ⟨a1, len1, cap1, rfl⟩ := okWide_slice Try.underlying25 (hval 1 25 v1 rfl rfl)
 have k1 := h1
 have lt1 : ∀ x ∈ p1, x.block < W.heap.size := by obtain ⟨m, hm⟩ := k1; exact DataW.trod_lt m _ _ _ hm
 obtain ⟨fuel1, hf1⟩ := h1
 obtain ⟨A1, cp1, l1, hcs1, hl1, hC1, hs1, ht1⟩ := A.open_ops_bulk hf1
 simp only [Value.cells, List.cons.injEq, Value.slice.injEq, and_true] at hcs1
 obtain ⟨rfl, rfl, rfl⟩ := hcs1
 obtain ⟨a2, rfl, rfl, rfl⟩ := open_bool Try.underlying4 (hval 2 4 v2 rfl rfl) h2
 have hbk : Rows.uptoBulkAll [d0, d1, DataW.lit (H := H) (.bool a2)] ≤ 1048576 := of_decide_eq_true hk
 simp only [Rows.uptoBulkAll, Rows.uptoBulk] at hbk
 have hb0 : (l0.length : Int) ≤ (Rows.uptoBulk d0 : Int) := hs0
 have hc0 : A.txts l0 ≤ (Rows.uptoBulk d0 : Int) := ht0
 have hb1 : (l1.length : Int) ≤ (Rows.uptoBulk d1 : Int) := hs1
 have hc1 : A.txts l1 ≤ (Rows.uptoBulk d1 : Int) := ht1
 clear hA0
 refine (walk _ _ l0 _ _ l1 a2 W hl0 hC0 ⟨by omega, by omega⟩ hl1 hC1 ⟨by omega, by omega⟩).mono fun e W' ⟨he, bel⟩ => ?_
 subst he
 exact ⟨_, rfl, _, _, _, [], _, [], hW', trodAll_mk1 (shut_bool Try.underlying4 _), (trodAll_cons_mk (Below.trod laidOut (by kernel_rfl) (of_decide_eq_true (by kernel_rfl)) k0 bel lt0) (trodAll_cons_mk (Below.trod laidOut (by kernel_rfl) (of_decide_eq_true (by kernel_rfl)) k1 bel lt1) (trodAll_cons_mk (shut_bool Try.underlying4 _) trodAll_mk0))), rfl, bel.frame _, fun h => by cases h⟩
set_option maxRecDepth 100000 in
theorem lifted (os : Os) (started : os.Started) (H : Type) (enc : TypeId × Value → H) (F : Stop.Interp) :
  ReturnsInHanded {} Try.checked os 17 .any ((Rows.OpenSpec.upto Rows.shiftOverSpec).pre6 enc Try.prog Try.f17 Rows.shiftOverUptoRow.domain false) (((Rows.OpenSpec.upto Rows.shiftOverSpec).at F).post enc Try.prog Try.f17 false true false false) := by
 refine returnsInHanded_of_cond (C := Try.checked) (s := Rows.OpenSpec.upto Rows.shiftOverSpec) (k := Rows.uptoSmall) rfl own started (by kernel_rfl) Try.func17
  (OpenSpec.witness (enc := enc) (C := Try.checked) (s := Rows.OpenSpec.upto Rows.shiftOverSpec) (k := Rows.uptoSmall) rfl false ⟨#[], #[.slice none 0 0, .slice none 0 0, .bool false], []⟩ 8 (by kernel_rfl) (by kernel_rfl) (by kernel_rfl)
   (x := ([.nil, .nil, .lit (.bool false)], [], [])) (by kernel_rfl) rfl (by kernel_rfl)) ?_
 intro W base args ds gs before hval hW _ hk _
 exact contract H enc W base args ds gs before hval hW hk
theorem over : Rows.shiftOverUptoRow.holds Try.pinned (Rows.OpenSpec.upto Rows.shiftOverSpec) :=
 OpenClaim.holds_of_cond 17 Try.f17 rfl rfl rfl rfl rfl rfl rfl ⟨rfl, rfl, rfl, rfl, rfl⟩ rfl rfl rfl rfl rfl (by kernel_rfl) Try.func17 (by kernel_rfl)
  (of_decide_eq_true (by kernel_rfl)) (by unfold Func.isWrapper; first | (rw [if_pos (by decide +kernel)]; kernel_rfl) | (rw [if_neg (by decide +kernel)]; exact ⟨rfl, rfl⟩))
  (fun os started H enc _ F => lifted os started H enc F)
theorem proved : Rows.ShiftOverUptoSaid := over
#print axioms proved
end Go.Proofs.Ytidihnnkcmeaeaa.shiftOver
namespace Go.Proofs.Ytidihnnkcmeaeaa
theorem shiftOverUpto_holds : Rows.ShiftOverUptoSaid := shiftOver.proved
end Go.Proofs.Ytidihnnkcmeaeaa
