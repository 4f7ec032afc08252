/- ShiftThrough in plain words: it answers true. Plain lists. No condition but sizes. -/
import Derived.Test.YtidihnnkcmeaeaaP9
import Derived.Test.YtidihnnkcmeaeaaP2
import Derived.Test.YtidihnnkcmeaeaaA44
namespace Go.Proofs.Ytidihnnkcmeaeaa.A
open Go.RowKit Go.Proofs.YtidihnnkcmeaeaaW.PrintWords Go.Proofs.YtidihnnkcmeaeaaW.PrintLast
set_option linter.unusedVariables false
theorem place_at {d : List S70} (hl : d.length ≤ 9223372036854775807) (hc : canB d = true) {p g : Int} (h0 : 0 ≤ p) (h1 : p ≤ fromOf d) (hg : g = 1 ∨ g = 2) : Ev (fun k => shift_Place.f k d p g) (plc g p 0 (chs 0 d), 0) := by
  have := place_ev d hl p g
  unfold placeR at this
  rwa [if_pos hc, if_pos ⟨h0, h1, hg⟩] at this

theorem shiftThrough_law (a b : List S70) (x : Int) (hla : a.length < 4398046511104) (hlb : b.length < 4398046511104) : Ev (fun k => galleylaw14_ShiftThrough.f k a b x) true := by
  have hl' : a.length ≤ 9223372036854775807 := by omega
  unfold galleylaw14_ShiftThrough.f
  refine Ev.bind (a := true) (Ev.now _) ?_
  simp only [if_true]
  have hyes : ∀ r : List S70, Ev (fun k => galleylaw14_ShiftThrough.j0 k a x r true) true := fun r => Ev.step (fun k => by rw [galleylaw14_ShiftThrough.j0, if_pos rfl]) (Ev.now _)
  obtain ⟨c, e, he, hh⟩ := over_res a b false
  refine Ev.bind (a := (c, e)) (by rw [he]; exact Ev.now _) ?_
  rcases hh with ⟨h1, h2⟩ | ⟨h1, ha, hb, hf, hc, hcf, _⟩
  · refine Ev.congr (fun k => by rw [if_neg h1, h2]) ?_
    exact Ev.now _
  · refine Ev.congr (fun k => by rw [if_pos h1]) ?_
    refine Ev.bind (lens_all hl' ha) ?_
    by_cases x0 : x < 0
    · exact Ev.congr (fun k => by rw [if_pos x0]) (hyes _)
    · refine Ev.congr (fun k => by rw [if_neg x0]) ?_
      by_cases x1 : x > fromOf a
      · rw [show decide (x > fromOf a) = true from decide_eq_true x1]
        exact hyes _
      · rw [show decide (x > fromOf a) = false from decide_eq_false x1]
        have hk := comp_eqv ha hc hcf
        obtain ⟨k1, k2, k3, k4⟩ := hk
        have la := canB_lens ha
        have lc := canB_lens hc
        have hk : canB (canon (compOps a c)) = true := by
          simp only [canB, Bool.and_eq_true, decide_eq_true_eq]
          exact ⟨⟨k1, by rw [k2]; exact la.2.1⟩, by rw [k3]; exact lc.2.2⟩
        have lenB : (canon (compOps a c)).length ≤ 9223372036854775807 := by have := canB_length hk; omega
        have lenC : c.length ≤ 9223372036854775807 := by have := canB_length hc; omega
        obtain ⟨r1, r2⟩ := chs_all ha
        obtain ⟨t1, t2⟩ := chs_all hc
        obtain ⟨m1, m2⟩ := through_both ha hc hcf (x := x) (by omega) (by omega)
        have a1 := plc_low (g := 1) (p := x) (w := 0) r1 (by omega)
        have a2 := plc_sides (n := fromOf a) (p := x) (w := 0) (cs := chs 0 a)
        have a3 := plc_high (g := 2) (p := x) (w := 0) r1 (by omega)
        have b1 := plc_rises (g := 1) (p := plc 1 x 0 (chs 0 a)) (q := plc 2 x 0 (chs 0 a)) (w := 0) (by omega) t1
        have b2 := plc_sides (n := fromOf c) (p := plc 2 x 0 (chs 0 a)) (w := 0) (cs := chs 0 c)
        refine Ev.step (fun k => by rw [galleylaw14_ShiftThrough.j0, if_neg (by decide)]) ?_
        refine Ev.bind (a := (canon (compOps a c), 0)) (by rw [compose_fit ha hc hcf]; exact Ev.now _) ?_
        simp only [if_true]
        refine Ev.bind (place_at lenB hk (p := x) (g := 1) (by omega) (by omega) (.inl rfl)) ?_
        refine Ev.bind (place_at lenB hk (p := x) (g := 2) (by omega) (by omega) (.inr rfl)) ?_
        refine Ev.step (fun k => by rw [galleylaw14_ShiftThrough.l0, if_pos (by decide)]) ?_
        refine Ev.bind (place_at hl' ha (p := x) (g := 1) (by omega) (by omega) (.inl rfl)) ?_
        refine Ev.bind (place_at lenC hc (p := plc 1 x 0 (chs 0 a)) (g := 1) (by omega) (by omega) (.inl rfl)) ?_
        simp only [if_true]
        refine Ev.congr (fun k => by rw [if_neg (by omega), if_neg (by omega)]) ?_
        have w2 : wrap64 (1 + 1) = 2 := by unfold wrap64; omega
        rw [w2]
        refine Ev.step (fun k => by rw [galleylaw14_ShiftThrough.l0, if_pos (by decide)]) ?_
        refine Ev.bind (place_at hl' ha (p := x) (g := 2) (by omega) (by omega) (.inr rfl)) ?_
        refine Ev.bind (place_at lenC hc (p := plc 2 x 0 (chs 0 a)) (g := 2) (by omega) (by omega) (.inr rfl)) ?_
        simp only [if_true]
        refine Ev.congr (fun k => by rw [if_neg (by omega), if_neg (by omega)]) ?_
        refine Ev.step (fun k => by rw [galleylaw14_ShiftThrough.l0, if_neg (by unfold wrap64; omega)]) ?_
        exact Ev.now _
end Go.Proofs.Ytidihnnkcmeaeaa.A
