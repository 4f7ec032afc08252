/- How a law's argument of type Three (three []Op) lies in memory, and its bulk. No condition. -/
import Derived.Test.YtidihnnkcmeaeaaS4
namespace Go.Proofs.Ytidihnnkcmeaeaa.A
open Go.RowKit Go.ChangeShapes Go.WideShapes Go.Deep Go.Proofs.YtidihnnkcmeaeaaW.PrintWords Go.Proofs.YtidihnnkcmeaeaaW.PrintLast
set_option linter.unusedVariables false
set_option linter.unusedSimpArgs false
variable {H : Type} {enc : TypeId × Value → H} {W : World} {base : Nat} {sp : Nat → Bool} {held : Bool}
theorem txts_mem : ∀ {d : List S70} {o : S70}, o ∈ d → (o.f2.size : Int) ≤ txts d
 | q :: d, o, h => by
  have := txts_nonneg d
  simp only [txts]
  rcases List.mem_cons.mp h with rfl | h
  · omega
  · have := txts_mem h; omega
theorem open_three_bulk {fuel : Nat} {cs : List Value} {x : DataW H × List MemPlace} (h : DataW.trod enc Try.prog W base sp held fuel 65 cs = some x) :
  ∃ (A0 : Option Addr) (c0 : Nat) (l0 : List S70) (A1 : Option Addr) (c1 : Nat) (l1 : List S70) (A2 : Option Addr) (c2 : Nat) (l2 : List S70), cs = [.slice A0 l0.length c0, .slice A1 l1.length c1, .slice A2 l2.length c2] ∧
   (l0.length ≤ c0 ∧ Kd.C k70 W A0 l0.length l0 ∧ txts l0 ≤ (Rows.uptoBulk x.1 : Int)) ∧ (l1.length ≤ c1 ∧ Kd.C k70 W A1 l1.length l1 ∧ txts l1 ≤ (Rows.uptoBulk x.1 : Int)) ∧ (l2.length ≤ c2 ∧ Kd.C k70 W A2 l2.length l2 ∧ txts l2 ≤ (Rows.uptoBulk x.1 : Int)) := by
 obtain ⟨y0, y1, y2, n1, rfl, hl, h0, h1, h2⟩ := trod_struct3 Try.underlying65 h
 rw [show Try.prog.cellsOf 65 = 3 from by kernel_rfl] at hl
 obtain ⟨v0, v1, v2, rfl⟩ := three_of hl
 have k25 : Try.prog.cellsOf 25 = 1 := by kernel_rfl
 dsimp only at h0 h1 h2
 rw [k25] at h0 h1 h2
 have h0' : DataW.trod enc Try.prog W base sp held n1 25 [v0] = some y0 := by simpa using h0
 have h1' : DataW.trod enc Try.prog W base sp held n1 25 [v1] = some y1 := by simpa using h1
 have h2' : DataW.trod enc Try.prog W base sp held n1 25 [v2] = some y2 := by simpa using h2
 obtain ⟨A0, c0, l0, e0, p0, q0, b0, t0⟩ := open_ops_bulk h0'
 obtain ⟨A1, c1, l1, e1, p1, q1, b1, t1⟩ := open_ops_bulk h1'
 obtain ⟨A2, c2, l2, e2, p2, q2, b2, t2⟩ := open_ops_bulk h2'
 injection e0 with e0
 injection e1 with e1
 injection e2 with e2
 subst e0 e1 e2
 refine ⟨A0, c0, l0, A1, c1, l1, A2, c2, l2, rfl, ?_, ?_, ?_⟩ <;> simp only [Rows.uptoBulk, Rows.uptoBulkAll]
 · exact ⟨p0, q0, by omega⟩
 · exact ⟨p1, q1, by omega⟩
 · exact ⟨p2, q2, by omega⟩
end Go.Proofs.Ytidihnnkcmeaeaa.A
