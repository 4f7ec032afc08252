/- How a law's argument of type []byte lies in memory. No condition. -/
import Derived.Test.YtidihnnkcmeaeaaS
import Derived.ChangeSlices
namespace Go.Proofs.Ytidihnnkcmeaeaa.A
open Go.RowKit Go.ChangeShapes Go.WideShapes Go.Deep Go.Proofs.YtidihnnkcmeaeaaW.PrintWords Go.Proofs.YtidihnnkcmeaeaaW.PrintLast
set_option linter.unusedVariables false
set_option linter.unusedSimpArgs false
variable {H : Type} {enc : TypeId × Value → H} {W : World} {base : Nat} {sp : Nat → Bool} {held : Bool}
/-- an argument []byte -/
theorem open_bytes {fuel : Nat} {cs : List Value} {x : DataW H × List MemPlace} (h : DataW.trod enc Try.prog W base sp held fuel 23 cs = some x) :
    ∃ (A : Option Addr) (cap : Nat) (l : List Int), cs = [.slice A l.length cap] ∧ l.length ≤ cap ∧ Kd.C (Kd.int .u8) W A l.length l ∧ ((x.1.weights Try.prog 23).all (· ≤ reachBytes) = true → l.length < 140737488355328) := by
  rcases Go.ChangeShapes.open_ints Try.underlying23 Try.underlying5 (by kernel_rfl) h with ⟨rfl, rfl⟩ | ⟨a, len, cap, zs, rfl, hb, hl, hm, hz, rfl, hcell, hwf⟩
  · exact ⟨none, 0, [], rfl, Nat.le_refl _, Kd.C_nil _ _, fun _ => by decide⟩
  · have hle : len ≤ zs.length := by rw [hz]; split <;> omega
    have hlen : (zs.take len).length = len := by rw [List.length_take]; omega
    refine ⟨some a, cap, zs.take len, by rw [hlen], by rw [hlen]; exact hl, ?_, fun hw => ?_⟩
    · rw [hlen]
      refine ⟨hlen, by have : maxLen = 9223372036854775807 := rfl; omega, fun _ => ⟨a, rfl, fun j p hj => ?_⟩⟩
      obtain ⟨hjl, hji⟩ := List.getElem?_eq_some_iff.1 hj
      rw [hlen] at hjl
      rw [List.getElem_take] at hji
      have hc := hcell j (by omega)
      rw [List.getD_eq_getElem?_getD, List.getElem?_eq_getElem (by omega)] at hc
      simp only [Option.getD_some] at hc
      rw [hji] at hc
      refine ⟨[.int .u8 p], rfl, rfl, fun q u hu => ?_⟩
      have hq : q < 1 := (List.getElem?_eq_some_iff.1 hu).1
      have hq0 : q = 0 := by omega
      subst hq0
      have hu2 : u = .int .u8 p := by simpa using hu.symm
      rw [hu2, ← hc]
      show W.cell? (a.add (j * 1 + 0)) = _
      rw [Nat.mul_one, Nat.add_zero]
    · have hB : Try.prog.bytesOf 5 = 1 := by kernel_rfl
      have h3 : (Go.ChangeShapes.lits (H := H) .u8 (zs.take len)).length = len := by rw [Go.ChangeShapes.lits, List.length_map, hlen]
      have h2 : ((Go.ChangeShapes.lits (H := H) .u8 (zs.take len)).length + (Go.ChangeShapes.lits (H := H) .u8 (zs.drop len)).length) * 1 ≤ reachBytes := by
        have := List.all_eq_true.1 hw (((Go.ChangeShapes.lits (H := H) .u8 (zs.take len)).length + (Go.ChangeShapes.lits (H := H) .u8 (zs.drop len)).length) * 1) (by simp [DataW.weights, Try.underlying23, hB])
        simpa using this
      rw [h3] at h2
      have := reachBytes_lt
      rw [hlen]
      omega
end Go.Proofs.Ytidihnnkcmeaeaa.A
