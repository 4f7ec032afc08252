/- What shift.Place answers, in plain words. Plain lists. No condition but sizes. -/
import Derived.Test.YtidihnnkcmeaeaaP1
import Derived.Test.YtidihnnkcmeaeaaO
import Derived.Test.YtidihnnkcmeaeaaA23
namespace Go.Proofs.Ytidihnnkcmeaeaa.A
open Go.RowKit Go.Proofs.YtidihnnkcmeaeaaW.PrintWords Go.Proofs.YtidihnnkcmeaeaaW.PrintLast Go.Proofs.YtidihnnkcmeaeaaW.PrintMore
set_option linter.unusedVariables false
set_option linter.unusedSimpArgs false

theorem rd91_here (pre : List S91) (o : S91) (rest : List S91) : rd_T91 (pre ++ o :: rest) (pre.length : Int) = o := by
  unfold rd_T91
  rw [Int.toNat_natCast, List.getD_eq_getElem?_getD, List.getElem?_append_right (Nat.le_refl _)]
  simp
theorem place_loop (g p n : Int) (hn2 : n ≤ 268435456) (hpn : p ≤ n) (rest : List S91) : ∀ (pre : List S91) (b : Bool) (lo w : Int), (pre ++ rest).length ≤ 9223372036854775807 → ris n b lo rest → 0 ≤ lo → 0 ≤ lo + w → n + w + growsBy rest ≤ 268435456 → lo ≤ p →
    Ev (fun k => shift_Place.l0 k p g w (pre ++ rest) ((pre ++ rest).length : Int) (pre.length : Int)) (plc g p w rest, 0) := by
  induction rest with
  | nil =>
    intro pre b lo w hl hr h0 h1 h2 hp
    simp only [ris] at hr
    simp only [growsBy] at h2
    refine Ev.step (f := fun _ => some (plc g p w [], 0)) (fun k => ?_) (Ev.now _)
    rw [shift_Place.l0, if_neg (by simp), plc, wrap_in (by omega) (by omega)]
  | cons c rest ih =>
    intro pre b lo w hl hr h0 h1 h2 hp
    have hrd := rd91_here pre c rest
    have hlt : (pre.length : Int) < ((pre ++ c :: rest).length : Int) := by simp; omega
    have hw := wrap_succ (i := pre.length) (n := (pre ++ c :: rest).length) (by simp) hl
    have hih := fun b lo w => ih (pre ++ [c]) b lo w (by simpa using hl)
    simp only [List.append_assoc, List.singleton_append] at hih
    have hpl : ((pre ++ [c]).length : Int) = ((pre.length + 1 : Nat) : Int) := by simp
    rw [hpl] at hih
    obtain ⟨r1, r2, r3, r4, r5⟩ := hr
    have hto := ris_to r5
    simp only [growsBy] at h2
    rw [plc]
    have hj : ∀ k, shift_Place.l0 (k + 1) p g w (pre ++ c :: rest) ((pre ++ c :: rest).length : Int) (pre.length : Int) = if p < c.f0 then some (p + w, 0) else if p ≤ c.f1 then (if g = 1 then some (c.f0 + w, 0) else some (c.f0 + w + (c.f2.size : Int), 0)) else shift_Place.l0 k p g (w + ((c.f2.size : Int) - (c.f1 - c.f0))) (pre ++ c :: rest) ((pre ++ c :: rest).length : Int) ((pre.length + 1 : Nat) : Int) := fun k => by
      rw [shift_Place.l0, if_pos hlt, if_pos (Int.natCast_nonneg _), if_pos hlt, hrd, hw]
      rw [wrap_in (x := p + w) (by omega) (by omega), wrap_in (x := c.f0 + w) (by omega) (by omega), wrap_in (x := c.f0 + w + (c.f2.size : Int)) (by omega) (by omega), wrap_in (x := c.f1 - c.f0) (by omega) (by omega), wrap_in (x := (c.f2.size : Int) - (c.f1 - c.f0)) (by omega) (by omega), wrap_in (x := w + ((c.f2.size : Int) - (c.f1 - c.f0))) (by omega) (by omega)]
    by_cases c1 : p < c.f0
    · rw [if_pos c1]
      exact Ev.step (fun k => by rw [hj, if_pos c1]) (Ev.now _)
    · rw [if_neg c1]
      by_cases c2 : p ≤ c.f1
      · rw [if_pos c2]
        by_cases c3 : g = 1
        · rw [if_pos c3]
          exact Ev.step (fun k => by rw [hj, if_neg c1, if_pos c2, if_pos c3]) (Ev.now _)
        · rw [if_neg c3]
          exact Ev.step (fun k => by rw [hj, if_neg c1, if_pos c2, if_neg c3]) (Ev.now _)
      · rw [if_neg c2]
        refine Ev.step (fun k => by rw [hj, if_neg c1, if_neg c2]) ?_
        exact hih true c.f1 _ r5 (by omega) (by omega) (by omega) (by omega)
theorem chs_all {d : List S70} (h : canB d = true) : ris (fromOf d) false 0 (chs 0 d) ∧ growsBy (chs 0 d) = toOf d - fromOf d := by
  have hc := canB_lens h
  have := chs_ris d 0 (fromOf d) hc.1 (by omega) (fun _ _ _ => trivial)
  exact ⟨this.1, this.2.2⟩
theorem chs_len {d : List S70} : ∀ x, (chs x d).length ≤ d.length := by
  have : ∀ (d : List S70) (x : Int), (chs x d).length ≤ d.length := by
    intro d
    induction hn : d.length using Nat.strongRecOn generalizing d with
    | ind n ih =>
      intro x
      match d, hn with
      | [], hn => simp [chs]
      | [o], hn =>
        rw [chs]
        split
        · simp
        · split <;> simp at hn ⊢ <;> omega
      | o :: q :: d, hn =>
        rw [chs]
        simp only [List.length_cons] at hn
        split
        · have := ih (d.length + 1) (by omega) (q :: d) rfl (x + o.f1)
          omega
        · split
          · split
            · have := ih d.length (by omega) d rfl (x + q.f1)
              simp only [List.length_cons]
              omega
            · have := ih (d.length + 1) (by omega) (q :: d) rfl x
              simp only [List.length_cons]
              omega
          · have := ih (d.length + 1) (by omega) (q :: d) rfl (x + o.f1)
            simp only [List.length_cons]
            omega
  exact this d
/-- what Place answers -/
def placeR (d : List S70) (p g : Int) : Int × Int := if canB d = true then (if 0 ≤ p ∧ p ≤ fromOf d ∧ (g = 1 ∨ g = 2) then (plc g p 0 (chs 0 d), 0) else (0, 2)) else (0, 130)
theorem place_ev (d : List S70) (hl : d.length ≤ 9223372036854775807) (p g : Int) : Ev (fun k => shift_Place.f k d p g) (placeR d p g) := by
  unfold placeR
  cases hc : canB d with
  | false =>
    refine Ev.bind (lens_bad hl hc) ?_
    exact Ev.now _
  | true =>
    refine Ev.bind (lens_all hl hc) ?_
    simp only [if_true]
    have hbad : Ev (fun k => shift_Place.j0 k d p g true) (0, 2) := Ev.step (fun k => by rw [shift_Place.j0, if_pos rfl]) (Ev.now _)
    by_cases h1 : p < 0
    · rw [if_neg (by omega)]
      refine Ev.congr (fun k => by rw [if_pos h1]) hbad
    · by_cases h2 : p > fromOf d
      · rw [if_neg (by omega)]
        refine Ev.congr (fun k => by rw [if_neg h1, if_pos h2]) hbad
      · have hgood : Ev (fun k => shift_Place.j0 k d p g false) (plc g p 0 (chs 0 d), 0) := by
          refine Ev.step (fun k => by rw [shift_Place.j0, if_neg (by decide)]) ?_
          have hcl := canB_lens hc
          have hch : delta_Changes.f d = some (chs 0 d, 0) := by
            unfold delta_Changes.f
            rw [if_pos hc, chg_chs d 0 [] hcl.1, List.nil_append]
          refine Ev.congr (fun k => by rw [hch, Option.bind_some]) ?_
          obtain ⟨r1, r2⟩ := chs_all hc
          have := place_loop g p (fromOf d) hcl.2.1 (by omega) (chs 0 d) [] false 0 0 (by have := chs_len (d := d) 0; simp; omega) r1 (by omega) (by omega) (by omega) (by omega)
          simpa using this
        by_cases h3 : g = 1
        · rw [if_pos ⟨by omega, by omega, .inl h3⟩]
          refine Ev.congr (fun k => by rw [if_neg h1, if_neg h2, if_pos h3]) hgood
        · by_cases h4 : g = 2
          · rw [if_pos ⟨by omega, by omega, .inr h4⟩]
            refine Ev.congr (fun k => by rw [if_neg h1, if_neg h2, if_neg h3, show (g != 2) = false by simp [h4]]) hgood
          · rw [if_neg (fun h => by rcases h.2.2 with h | h <;> omega)]
            refine Ev.congr (fun k => by rw [if_neg h1, if_neg h2, if_neg h3, show (g != 2) = true by simp [h4]]) hbad
end Go.Proofs.Ytidihnnkcmeaeaa.A
