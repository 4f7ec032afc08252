/- ShiftRises in plain words: it answers true. Plain lists. No condition but sizes. -/
import Derived.Test.YtidihnnkcmeaeaaP2
import Derived.Test.YtidihnnkcmeaeaaA38
namespace Go.Proofs.Ytidihnnkcmeaeaa.A
open Go.RowKit Go.Proofs.YtidihnnkcmeaeaaW.PrintWords Go.Proofs.YtidihnnkcmeaeaaW.PrintLast Go.Proofs.YtidihnnkcmeaeaaW.PrintMore
set_option linter.unusedVariables false
set_option linter.unusedSimpArgs false

theorem place_in {d : List S70} (hl : d.length ≤ 9223372036854775807) (hc : canB d = true) {p g : Int} (h0 : 0 ≤ p) (h1 : p ≤ fromOf d) (hg : g = 1 ∨ g = 2) : Ev (fun k => shift_Place.f k d p g) (plc g p 0 (chs 0 d), 0) := by
  have := place_ev d hl p g
  unfold placeR at this
  rwa [if_pos hc, if_pos ⟨h0, h1, hg⟩] at this
theorem shiftRises_law (d : List S70) (p q : Int) (hl : d.length < 4398046511104) : Ev (fun k => galleylaw14_ShiftRises.f k d p q) true := by
  have hl' : d.length ≤ 9223372036854775807 := by omega
  unfold galleylaw14_ShiftRises.f
  refine Ev.bind (a := true) (Ev.now _) ?_
  simp only [if_true]
  have hyes : ∀ x y : Int, Ev (fun k => galleylaw14_ShiftRises.j0 k d p q x y true) true := fun x y => Ev.step (fun k => by rw [galleylaw14_ShiftRises.j0, if_pos rfl]) (Ev.now _)
  cases hc : canB d with
  | false =>
    refine Ev.bind (lens_bad hl' hc) ?_
    exact hyes 0 0
  | true =>
    refine Ev.bind (lens_all hl' hc) ?_
    simp only [if_true]
    by_cases h1 : p < 0
    · exact Ev.congr (fun k => by rw [if_pos h1]) (hyes _ _)
    · by_cases h2 : p > q
      · exact Ev.congr (fun k => by rw [if_neg h1, if_pos h2]) (hyes _ _)
      · refine Ev.congr (fun k => by rw [if_neg h1, if_neg h2]) ?_
        by_cases h3 : q > fromOf d
        · rw [show decide (q > fromOf d) = true from decide_eq_true h3]
          exact hyes _ _
        · rw [show decide (q > fromOf d) = false from decide_eq_false h3]
          obtain ⟨r1, r2⟩ := chs_all hc
          have hfn : 0 ≤ fromOf d := by omega
          have e1 := plc_low (g := 1) (p := p) (w := 0) r1 (by omega)
          have e2 := plc_sides (n := fromOf d) (p := p) (w := 0) (cs := chs 0 d)
          have e3 := plc_sides (n := fromOf d) (p := q) (w := 0) (cs := chs 0 d)
          have e4 := plc_rises (g := 1) (p := p) (q := q) (w := 0) (by omega) r1
          have e5 := plc_rises (g := 2) (p := p) (q := q) (w := 0) (by omega) r1
          have e6 := plc_high (g := 2) (p := q) (w := 0) r1 (by omega)
          have e7 := plc_end (w := 0) r1
          have e8 := plc_zero r1
          refine Ev.step (fun k => by rw [galleylaw14_ShiftRises.j0, if_neg (by decide)]) ?_
          refine Ev.bind (place_in hl' hc (p := p) (g := 1) (by omega) (by omega) (.inl rfl)) ?_
          refine Ev.bind (place_in hl' hc (p := p) (g := 2) (by omega) (by omega) (.inr rfl)) ?_
          refine Ev.bind (place_in hl' hc (p := q) (g := 1) (by omega) (by omega) (.inl rfl)) ?_
          refine Ev.bind (place_in hl' hc (p := q) (g := 2) (by omega) (by omega) (.inr rfl)) ?_
          simp only [if_true]
          refine Ev.congr (fun k => by rw [if_neg (by omega), if_neg (by omega), if_neg (by omega), if_neg (by omega), if_neg (by omega)]) ?_
          rw [show decide (plc 2 q 0 (chs 0 d) > toOf d) = false from decide_eq_false (by omega)]
          refine Ev.step (fun k => by rw [galleylaw14_ShiftRises.j1, if_neg (by decide)]) ?_
          refine Ev.bind (place_in hl' hc (p := fromOf d) (g := 2) (by omega) (by omega) (.inr rfl)) ?_
          refine Ev.bind (place_in hl' hc (p := 0) (g := 1) (by omega) (by omega) (.inl rfl)) ?_
          simp only [if_true]
          rw [e8]
          refine Ev.congr (fun k => by rw [if_pos (by omega)]) ?_
          exact Ev.now _
end Go.Proofs.Ytidihnnkcmeaeaa.A
