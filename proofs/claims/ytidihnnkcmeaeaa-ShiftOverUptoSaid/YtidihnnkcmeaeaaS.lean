/- An argument that is a list of operations, opened: its cells, and what it weighs. No condition. -/
import Derived.Test.YtidihnnkcmeaeaaA0
import Derived.Deep.Slices
import Derived.Deep.Strs
import Derived.SizedLaws
namespace Go.Proofs.Ytidihnnkcmeaeaa.A
open Go.RowKit Go.ChangeShapes Go.WideShapes Go.Deep Go.Proofs.YtidihnnkcmeaeaaW.PrintWords Go.Proofs.YtidihnnkcmeaeaaW.PrintLast
set_option linter.unusedVariables false
set_option linter.unusedSimpArgs false
variable {H : Type} {enc : TypeId × Value → H} {W : World} {base : Nat} {sp : Nat → Bool} {held : Bool}
def opOf (d : DataW H) : S70 := match d with
 | .agg [.lit (.int _ a), .lit (.int _ b), .lit (.string bs)] => ⟨a, b, ⟨bs.toArray⟩⟩
 | _ => z70
theorem three_of : ∀ {cs : List Value}, cs.length = 3 → ∃ c0 c1 c2, cs = [c0, c1, c2]
 | [c0, c1, c2], _ => ⟨c0, c1, c2, rfl⟩
 | [], h => by simp at h
 | [_], h => by simp at h
 | [_, _], h => by simp at h
 | _ :: _ :: _ :: _ :: _, h => by simp at h
theorem open_op {n : Nat} {cs : List Value} {y : DataW H × List MemPlace} (h : DataW.trod enc Try.prog W base sp held n 70 cs = some y) :
  cs = [.int .i64 (opOf y.1).f0, .int .i64 (opOf y.1).f1, .string (opOf y.1).f2] ∧ ((y.1.weights Try.prog 70).all (· ≤ reachBytes) = true → (opOf y.1).f2.size ≤ reachBytes) := by
 obtain ⟨y0, y1, y2, n1, rfl, hl, h0, h1, h2⟩ := trod_struct3 Try.underlying70 h
 rw [show Try.prog.cellsOf 70 = 3 from by kernel_rfl] at hl
 obtain ⟨c0, c1, c2, rfl⟩ := three_of hl
 have k68 : Try.prog.cellsOf 68 = 1 := by kernel_rfl
 have k3 : Try.prog.cellsOf 3 = 1 := by kernel_rfl
 have k9 : Try.prog.cellsOf 9 = 1 := by kernel_rfl
 dsimp only at h0 h1 h2
 rw [k68] at h0
 rw [k3] at h1
 rw [k9] at h2
 have h0' : DataW.trod enc Try.prog W base sp held n1 68 [c0] = some y0 := by simpa using h0
 have h1' : DataW.trod enc Try.prog W base sp held n1 3 [c1] = some y1 := by simpa using h1
 have h2' : DataW.trod enc Try.prog W base sp held n1 9 [c2] = some y2 := by simpa using h2
 obtain ⟨a, e0, rfl, _⟩ := DataW.trod_int Try.underlying68 h0'
 obtain ⟨b, e1, rfl, _⟩ := DataW.trod_int Try.underlying3 h1'
 obtain ⟨t, e2, rfl, _⟩ := DataW.trod_string Try.underlying9 h2'
 simp only [List.cons.injEq, and_true] at e0 e1 e2
 subst e0 e1 e2
 have ho : opOf (DataW.agg [.lit (.int .i64 a), .lit (.int .i64 b), .lit (.string t.data.toList)] : DataW H) = ⟨a, b, t⟩ := by
  unfold opOf
  cases t
  simp
 refine ⟨by rw [ho], fun hw => ?_⟩
 rw [ho]
 have h3 : t.data.toList.length ≤ reachBytes := by
  have := List.all_eq_true.1 hw t.data.toList.length (by simp [DataW.weights, Try.underlying70, DataW.weightsEach])
  simpa using this
 simpa using h3
end Go.Proofs.Ytidihnnkcmeaeaa.A
