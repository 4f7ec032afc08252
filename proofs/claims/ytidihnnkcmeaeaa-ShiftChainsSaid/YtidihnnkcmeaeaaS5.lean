/- How a law's argument of type [][]Op lies in memory. No condition. -/
import Derived.Test.YtidihnnkcmeaeaaS
import Derived.ChangeSlices
namespace Go.Proofs.Ytidihnnkcmeaeaa.A
open Go.RowKit Go.ChangeShapes Go.WideShapes Go.Deep Go.Proofs.YtidihnnkcmeaeaaW.PrintWords Go.Proofs.YtidihnnkcmeaeaaW.PrintLast
set_option linter.unusedVariables false
set_option linter.unusedSimpArgs false
variable {H : Type} {enc : TypeId × Value → H} {W : World} {base : Nat} {sp : Nat → Bool} {held : Bool}
/-- an argument [][]Op -/
theorem open_lists {fuel : Nat} {cs : List Value} {x : DataW H × List MemPlace} (h : DataW.trod enc Try.prog W base sp held fuel 60 cs = some x) :
    ∃ (A : Option Addr) (cap : Nat) (l : List (List S70)), cs = [.slice A l.length cap] ∧ l.length ≤ cap ∧ Kd.C (Kd.slice 70 k70) W A l.length l ∧ ((x.1.weights Try.prog 60).all (· ≤ reachBytes) = true → l.length < 5864062014804 ∧ ∀ d ∈ l, d.length ≤ 9223372036854775807) := by
  rcases open_slice Try.underlying60 h with ⟨rfl, rfl⟩ | ⟨a, len, cap, m, n, D, Pl, rfl, hb, hl, hm, hmm, rfl, hi⟩
  · exact ⟨none, 0, [], rfl, Nat.le_refl _, Kd.C_nil _ _, fun _ => ⟨by decide, by simp⟩⟩
  · have hlm : len ≤ m := by rw [hmm]; split <;> omega
    have hC1 : Try.prog.cellsOf 25 = 1 := by kernel_rfl
    have hel : ∀ i, i < len → ∃ (e : List S70) (A0 : Option Addr) (c0 : Nat), W.cell? (a.add i) = some (.slice A0 e.length c0) ∧ e.length ≤ c0 ∧ Kd.C k70 W A0 e.length e := by
      intro i hi0
      obtain ⟨cs', hc, ht⟩ := hi i (by omega)
      obtain ⟨A0, c0, e, rfl, h1, h2, _⟩ := open_ops ht
      obtain ⟨_, hcl, hat⟩ := World.cells?_some hc
      have h3 := hat 0 (by rw [hC1]; omega)
      refine ⟨e, A0, c0, ?_, h1, h2⟩
      rw [hC1] at h3
      have h4 : (a.add (i * 1)).add 0 = a.add i := by rw [Deep.add_add, Nat.mul_one, Nat.add_zero]
      rw [h4] at h3
      simpa using h3
    have hex : ∃ f : Nat → List S70, ∀ i, i < len → ∃ (A0 : Option Addr) (c0 : Nat), W.cell? (a.add i) = some (.slice A0 (f i).length c0) ∧ (f i).length ≤ c0 ∧ Kd.C k70 W A0 (f i).length (f i) := by
      refine ⟨fun i => if hi0 : i < len then (hel i hi0).choose else [], fun i hi0 => ?_⟩
      simp only [dif_pos hi0]
      exact (hel i hi0).choose_spec
    obtain ⟨f, hf⟩ := hex
    have hlen : ((List.range len).map f).length = len := by simp
    refine ⟨some a, cap, (List.range len).map f, by rw [hlen], by rw [hlen]; exact hl, ?_, fun hw => ⟨?_, ?_⟩⟩
    · rw [hlen]
      refine ⟨hlen, by have : maxLen = 9223372036854775807 := rfl; omega, fun _ => ⟨a, rfl, fun j p hj => ?_⟩⟩
      rw [List.getElem?_map] at hj
      obtain ⟨i, hi1, rfl⟩ := Option.map_eq_some_iff.1 hj
      obtain ⟨hjl, hji⟩ := List.getElem?_eq_some_iff.1 hi1
      rw [List.getElem_range] at hji
      subst hji
      rw [List.length_range] at hjl
      obtain ⟨A0, c0, g1, g2, g3⟩ := hf j hjl
      refine ⟨[.slice A0 (f j).length c0], rfl, ⟨A0, c0, rfl, g2, g3⟩, fun q u hu => ?_⟩
      have hq : q < 1 := (List.getElem?_eq_some_iff.1 hu).1
      have hq0 : q = 0 := by omega
      subst hq0
      have hu2 : u = .slice A0 (f j).length c0 := by simpa using hu.symm
      rw [hu2, ← g1]
      show W.cell? (a.add (j * 1 + 0)) = _
      rw [Nat.mul_one, Nat.add_zero]
    · have hB : Try.prog.bytesOf 25 = 24 := by kernel_rfl
      have h2 : ((List.range len).length + (List.range (m - len)).length) * 24 ≤ reachBytes := by
        have := List.all_eq_true.1 hw (((List.range len).length + (List.range (m - len)).length) * 24) (by simp [DataW.weights, Try.underlying60, hB])
        simpa using this
      rw [hlen]
      have hr : reachBytes = 140737488351232 := rfl
      simp only [List.length_range] at h2
      omega
    · intro d hd
      obtain ⟨i, hi1, rfl⟩ := List.mem_map.1 hd
      rw [List.mem_range] at hi1
      obtain ⟨A0, c0, g1, g2, g3⟩ := hf i hi1
      exact g3.2.1
end Go.Proofs.Ytidihnnkcmeaeaa.A
