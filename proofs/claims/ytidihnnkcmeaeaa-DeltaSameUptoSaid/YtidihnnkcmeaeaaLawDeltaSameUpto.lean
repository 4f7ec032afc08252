/- The row of the law DeltaSame where what comes in is of small bulk, out of its plain law and the walk. No condition but that. -/
import Derived.Test.YtidihnnkcmeaeaaRows
import Derived.Test.YtidihnnkcmeaeaaL6
import Derived.Test.YtidihnnkcmeaeaaS6
import Derived.Test.YtidihnnkcmeaeaaS2
import Derived.WalkKit
import Derived.ProofKit
import Derived.OpenShut
import Derived.ShutString
import Derived.ChangeOld
import Derived.Below
import Derived.SizedLaws
import Derived.JoinedCond
namespace Go.Proofs.Ytidihnnkcmeaeaa.deltaSame
open Go.ChangeShapes Go.WideShapes Go.ChangeAt Go.RowKit
open Go.ChangeMaps (open_string shut_string)
set_option linter.unusedVariables false
set_option linter.unusedSimpArgs false
theorem own : ownKnob Try.prog.godebug = none := by kernel_rfl
theorem laidOut : laidOutB Try.prog = true := by kernel_rfl
theorem walk (a0 : Int) (A1 : Option Addr) (cap1 : Nat) (l1 : List A.S70) (A2 : Option Addr) (cap2 : Nat) (l2 : List A.S70) (W : World) (s0 : (Lit.int .i64 a0).wf = true) (hl1 : l1.length ≤ cap1) (hC1 : YtidihnnkcmeaeaaW.PrintWords.Kd.C A.k70 W A1 l1.length l1) (s1 : l1.length ≤ 1048576 ∧ A.txts l1 ≤ 1048576) (hl2 : l2.length ≤ cap2) (hC2 : YtidihnnkcmeaeaaW.PrintWords.Kd.C A.k70 W A2 l2.length l2) (s2 : l2.length ≤ 1048576 ∧ A.txts l2 ≤ 1048576) :
    Calls Try.prog 13 #[.int .i64 a0, .slice A1 l1.length cap1, .slice A2 l2.length cap2] W fun e w' => e = .returned (.bool true) ∧ Below W.heap.size W w' := by
  obtain ⟨k, hk⟩ := (A.deltaSame_law a0 l1 l2 (by intro d hd o ho; simp only [List.mem_cons, List.not_mem_nil, or_false] at hd; rcases hd with rfl | rfl <;> (have := A.txts_mem ho; omega))).rounds
  exact A.galleylaw13_DeltaSame.calls k a0 (fun k_ => k_ < W.heap.size) A1 cap1 l1 (fun k_ => k_ < W.heap.size) A2 cap2 l2 true W (YtidihnnkcmeaeaaW.PrintWords.Kd.V_mk hl1 (YtidihnnkcmeaeaaW.PrintWords.Kd.C_F A.k70_heap hC1)) (YtidihnnkcmeaeaaW.PrintWords.Kd.V_mk hl2 (YtidihnnkcmeaeaaW.PrintWords.Kd.C_F A.k70_heap hC2)) hk
set_option maxRecDepth 100000 in
theorem contract (H : Type) (enc : TypeId × Value → H) (W : World) (base : Nat) (args : Array Value) (ds gs : List (DataW H)) (before : List MemPlace)
    (hval0 : ∀ (j : Nat) t v, Try.f13.params[j]? = some t → args[j]? = some v → Value.okWide Try.prog W .any base t v)
    (hW : DataW.Whole enc Try.prog Try.f13.params.toList Rows.deltaSameSpec.vars false W args.toList ds gs before) (hk : Rows.uptoSmall H (ds ++ gs) = true) :
    Calls Try.prog 13 args W fun e W' => ∃ v, e = .returned v ∧ Rows.deltaSameSpec.post enc Try.prog Try.f13 false true false false W args v W' := by
  have hval := hval0
  have hW' := hW
  obtain ⟨p, q, hA0, hV, rfl, hfz, hnd⟩ := hW
  have hA : DataW.TrodAll enc Try.prog W 0 (fun _ => true) true Try.f13.params.toList args.toList ds p := hA0
  rw [Try.params13] at hA hval
  obtain ⟨v0, vs0, d0, ds0, p0, q0, hargs, rfl, rfl, h0, r0⟩ := trodAll_cons hA
  obtain ⟨v1, vs1, d1, ds1, p1, q1, rfl, rfl, rfl, h1, r1⟩ := trodAll_cons r0
  obtain ⟨v2, vs2, d2, ds2, p2, q2, rfl, rfl, rfl, h2, r2⟩ := trodAll_cons r1
  obtain ⟨rfl, rfl, rfl⟩ := trodAll_nil r2
  obtain rfl : args = #[v0, v1, v2] := by cases args; simp_all
  obtain ⟨rfl, rfl⟩ := trodVars_none hV
  obtain ⟨a0, rfl, rfl, rfl, w0⟩ := open_int Try.underlying3 (hval 0 3 v0 rfl rfl) h0
  obtain ⟨a1, len1, cap1, rfl⟩ := okWide_slice Try.underlying25 (hval 1 25 v1 rfl rfl)
  have k1 := h1
  have lt1 : ∀ x ∈ p1, x.block < W.heap.size := by obtain ⟨m, hm⟩ := k1; exact DataW.trod_lt m _ _ _ hm
  obtain ⟨fuel1, hf1⟩ := h1
  obtain ⟨A1, cp1, l1, hcs1, hl1, hC1, hs1, ht1⟩ := A.open_ops_bulk hf1
  simp only [Value.cells, List.cons.injEq, Value.slice.injEq, and_true] at hcs1
  obtain ⟨rfl, rfl, rfl⟩ := hcs1
  obtain ⟨a2, len2, cap2, rfl⟩ := okWide_slice Try.underlying25 (hval 2 25 v2 rfl rfl)
  have k2 := h2
  have lt2 : ∀ x ∈ p2, x.block < W.heap.size := by obtain ⟨m, hm⟩ := k2; exact DataW.trod_lt m _ _ _ hm
  obtain ⟨fuel2, hf2⟩ := h2
  obtain ⟨A2, cp2, l2, hcs2, hl2, hC2, hs2, ht2⟩ := A.open_ops_bulk hf2
  simp only [Value.cells, List.cons.injEq, Value.slice.injEq, and_true] at hcs2
  obtain ⟨rfl, rfl, rfl⟩ := hcs2
  have hbk : Rows.uptoBulkAll [DataW.lit (H := H) (.int .i64 a0), d1, d2] ≤ 1048576 := of_decide_eq_true hk
  simp only [Rows.uptoBulkAll, Rows.uptoBulk] at hbk
  have hb1 : (l1.length : Int) ≤ (Rows.uptoBulk d1 : Int) := hs1
  have hc1 : A.txts l1 ≤ (Rows.uptoBulk d1 : Int) := ht1
  have hb2 : (l2.length : Int) ≤ (Rows.uptoBulk d2 : Int) := hs2
  have hc2 : A.txts l2 ≤ (Rows.uptoBulk d2 : Int) := ht2
  clear hA0
  refine (walk a0 _ _ l1 _ _ l2 W w0 hl1 hC1 ⟨by omega, by omega⟩ hl2 hC2 ⟨by omega, by omega⟩).mono fun e W' ⟨he, bel⟩ => ?_
  subst he
  exact ⟨_, rfl, _, _, _, [], _, [], hW', trodAll_mk1 (shut_bool Try.underlying4 _), (trodAll_cons_mk (shut_int Try.underlying3 w0) (trodAll_cons_mk (Below.trod laidOut (by kernel_rfl) (of_decide_eq_true (by kernel_rfl)) k1 bel lt1) (trodAll_cons_mk (Below.trod laidOut (by kernel_rfl) (of_decide_eq_true (by kernel_rfl)) k2 bel lt2) trodAll_mk0))), rfl, bel.frame _, fun h => by cases h⟩
set_option maxRecDepth 100000 in
theorem lifted (os : Os) (started : os.Started) (H : Type) (enc : TypeId × Value → H) (F : Stop.Interp) :
    ReturnsInHanded {} Try.checked os 13 .any ((Rows.OpenSpec.upto Rows.deltaSameSpec).pre6 enc Try.prog Try.f13 Rows.deltaSameUptoRow.domain false) (((Rows.OpenSpec.upto Rows.deltaSameSpec).at F).post enc Try.prog Try.f13 false true false false) := by
  refine returnsInHanded_of_cond (C := Try.checked) (s := Rows.OpenSpec.upto Rows.deltaSameSpec) (k := Rows.uptoSmall) rfl own started (by kernel_rfl) Try.func13
    (OpenSpec.witness (enc := enc) (C := Try.checked) (s := Rows.OpenSpec.upto Rows.deltaSameSpec) (k := Rows.uptoSmall) rfl false ⟨#[], #[.int .i64 0, .slice none 0 0, .slice none 0 0], []⟩ 8 (by kernel_rfl) (by kernel_rfl) (by kernel_rfl)
      (x := ([.lit (.int .i64 0), .nil, .nil], [], [])) (by kernel_rfl) rfl (by kernel_rfl)) ?_
  intro W base args ds gs before hval hW _ hk _
  exact contract H enc W base args ds gs before hval hW hk
theorem over : Rows.deltaSameUptoRow.holds Try.pinned (Rows.OpenSpec.upto Rows.deltaSameSpec) :=
  OpenClaim.holds_of_cond 13 Try.f13 rfl rfl rfl rfl rfl rfl rfl ⟨rfl, rfl, rfl, rfl, rfl⟩ rfl rfl rfl rfl rfl (by kernel_rfl) Try.func13 (by kernel_rfl)
    (of_decide_eq_true (by kernel_rfl)) (by unfold Func.isWrapper; first | (rw [if_pos (by decide +kernel)]; kernel_rfl) | (rw [if_neg (by decide +kernel)]; exact ⟨rfl, rfl⟩))
    (fun os started H enc _ F => lifted os started H enc F)
theorem proved : Rows.DeltaSameUptoSaid := over
#print axioms proved
end Go.Proofs.Ytidihnnkcmeaeaa.deltaSame
namespace Go.Proofs.Ytidihnnkcmeaeaa
/-- The row, under a short name, for the claim. -/
theorem deltaSameUpto_holds : Rows.DeltaSameUptoSaid := deltaSame.proved
end Go.Proofs.Ytidihnnkcmeaeaa
