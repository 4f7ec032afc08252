/- How a law's argument of type [][]Op lies in memory, and its bulk. No condition. -/
import Derived.Test.YtidihnnkcmeaeaaMG7
namespace Go.Proofs.Ytidihnnkcmeaeaa.A
open Go.RowKit Go.ChangeShapes Go.WideShapes Go.Deep Go.Proofs.YtidihnnkcmeaeaaW.PrintWords Go.Proofs.YtidihnnkcmeaeaaW.PrintLast
set_option linter.unusedVariables false
set_option linter.unusedSimpArgs false
variable {H : Type} {enc : TypeId × Value → H} {W : World} {base : Nat} {sp : Nat → Bool} {held : Bool}
theorem bulk_pos (d : DataW H) : 1 ≤ Rows.uptoBulk d := by
 cases d with
 | lit l => cases l <;> simp [Rows.uptoBulk]
 | _ => simp [Rows.uptoBulk]
theorem bulk_app : ∀ (l r : List (DataW H)), Rows.uptoBulkAll (l ++ r) = Rows.uptoBulkAll l + Rows.uptoBulkAll r
 | [], r => by simp [Rows.uptoBulkAll]
 | y :: l, r => by simp only [List.cons_append, Rows.uptoBulkAll, bulk_app l r]; omega
theorem bulk_map (D : Nat → DataW H) : ∀ n : Nat, n ≤ Rows.uptoBulkAll ((List.range n).map D) ∧ ∀ i, i < n → Rows.uptoBulk (D i) ≤ Rows.uptoBulkAll ((List.range n).map D)
 | 0 => ⟨Nat.zero_le _, fun i hi => absurd hi (by omega)⟩
 | n + 1 => by
  obtain ⟨i1, i2⟩ := bulk_map D n
  have hp := bulk_pos (D n)
  rw [List.range_succ, List.map_append, bulk_app]
  simp only [List.map_cons, List.map_nil, Rows.uptoBulkAll]
  refine ⟨by omega, fun i hi => ?_⟩
  by_cases h : i = n
  ·
   rw [h]; omega
  ·
   have := i2 i (by omega); omega
theorem open_lists_bulk {fuel : Nat} {cs : List Value} {x : DataW H × List MemPlace} (h : DataW.trod enc Try.prog W base sp held fuel 60 cs = some x) :
  ∃ (A : Option Addr) (cap : Nat) (l : List (List S70)), cs = [.slice A l.length cap] ∧ l.length ≤ cap ∧ Kd.C (Kd.slice 70 k70) W A l.length l ∧ (l.length : Int) ≤ (Rows.uptoBulk x.1 : Int) ∧ ∀ d ∈ l, (d.length : Int) ≤ (Rows.uptoBulk x.1 : Int) ∧ txts d ≤ (Rows.uptoBulk x.1 : Int) := by
 rcases open_slice Try.underlying60 h with ⟨rfl, rfl⟩ | ⟨a, len, cap, m, n, D, Pl, rfl, hb, hl, hm, hmm, rfl, hi⟩
 ·
  exact ⟨none, 0, [], rfl, Nat.le_refl _, Kd.C_nil _ _, by simp, by simp⟩
 ·
  have hlm : len ≤ m := by rw [hmm]; split <;> omega
  have hC1 : Try.prog.cellsOf 25 = 1 := by kernel_rfl
  have hel : ∀ i, i < len → ∃ (e : List S70) (A0 : Option Addr) (c0 : Nat), W.cell? (a.add i) = some (.slice A0 e.length c0) ∧ e.length ≤ c0 ∧ Kd.C k70 W A0 e.length e ∧ (e.length : Int) ≤ (Rows.uptoBulk (D i) : Int) ∧ txts e ≤ (Rows.uptoBulk (D i) : Int) := by
   intro i hi0
   obtain ⟨cs', hc, ht⟩ := hi i (by omega)
   obtain ⟨A0, c0, e, rfl, h1, h2, h3, h4⟩ := open_ops_bulk ht
   obtain ⟨_, hcl, hat⟩ := World.cells?_some hc
   have h5 := hat 0 (by rw [hC1]; omega)
   refine ⟨e, A0, c0, ?_, h1, h2, h3, h4⟩
   rw [hC1] at h5
   have h6 : (a.add (i * 1)).add 0 = a.add i := by rw [Deep.add_add, Nat.mul_one, Nat.add_zero]
   rw [h6] at h5
   simpa using h5
  have hex : ∃ f : Nat → List S70, ∀ i, i < len → ∃ (A0 : Option Addr) (c0 : Nat), W.cell? (a.add i) = some (.slice A0 (f i).length c0) ∧ (f i).length ≤ c0 ∧ Kd.C k70 W A0 (f i).length (f i) ∧ ((f i).length : Int) ≤ (Rows.uptoBulk (D i) : Int) ∧ txts (f i) ≤ (Rows.uptoBulk (D i) : Int) := by
   refine ⟨fun i => if hi0 : i < len then (hel i hi0).choose else [], fun i hi0 => ?_⟩
   simp only [dif_pos hi0]
   exact (hel i hi0).choose_spec
  obtain ⟨f, hf⟩ := hex
  have hlen : ((List.range len).map f).length = len := by simp
  obtain ⟨b1, b2⟩ := bulk_map D len
  refine ⟨some a, cap, (List.range len).map f, by rw [hlen], by rw [hlen]; exact hl, ?_, ?_, ?_⟩
  ·
   rw [hlen]
   refine ⟨hlen, by have : maxLen = 9223372036854775807 := rfl; omega, fun _ => ⟨a, rfl, fun j p hj => ?_⟩⟩
   rw [List.getElem?_map] at hj
   obtain ⟨i, hi1, rfl⟩ := Option.map_eq_some_iff.1 hj
   obtain ⟨hjl, hji⟩ := List.getElem?_eq_some_iff.1 hi1
   rw [List.getElem_range] at hji
   subst hji
   rw [List.length_range] at hjl
   obtain ⟨A0, c0, g1, g2, g3, _⟩ := hf j hjl
   refine ⟨[.slice A0 (f j).length c0], rfl, ⟨A0, c0, rfl, g2, g3⟩, fun q u hu => ?_⟩
   have hq : q < 1 := (List.getElem?_eq_some_iff.1 hu).1
   have hq0 : q = 0 := by omega
   subst hq0
   have hu2 : u = .slice A0 (f j).length c0 := by simpa using hu.symm
   rw [hu2, ← g1]
   show W.cell? (a.add (j * 1 + 0)) = _
   rw [Nat.mul_one, Nat.add_zero]
  ·
   rw [hlen]
   simp only [Rows.uptoBulk]
   omega
  ·
   intro d hd
   obtain ⟨i, hi1, rfl⟩ := List.mem_map.1 hd
   rw [List.mem_range] at hi1
   obtain ⟨A0, c0, g1, g2, g3, g4, g5⟩ := hf i hi1
   have := b2 i hi1
   simp only [Rows.uptoBulk]
   omega
end Go.Proofs.Ytidihnnkcmeaeaa.A
