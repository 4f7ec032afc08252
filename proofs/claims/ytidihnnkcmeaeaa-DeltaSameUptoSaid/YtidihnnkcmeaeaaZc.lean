/- galleyref13's Canon in plain words. Plain lists. No condition but sizes. -/
import Derived.Test.YtidihnnkcmeaeaaZa
import Derived.Test.YtidihnnkcmeaeaaA16
namespace Go.Proofs.Ytidihnnkcmeaeaa.A
open Go.RowKit Go.Proofs.YtidihnnkcmeaeaaW.PrintWords Go.Proofs.YtidihnnkcmeaeaaW.PrintLast Go.Proofs.YtidihnnkcmeaeaaW.PrintMore
set_option linter.unusedVariables false
set_option linter.unusedSimpArgs false
/-- Canon's second loop -/
theorem refCanon_from (rest : List S70) : ∀ (pre : List S70) (x6 x7 : Int) (b : Bs), (pre ++ rest).length ≤ 9223372036854775807 → 0 ≤ x6 → x6 ≤ 268435456 → 0 ≤ x7 → x7 ≤ 268435456 → BW b → BI b (x6 + x7) → (∀ o ∈ rest, kindOk o = true) → (∀ o ∈ rest, o.f2.size ≤ 140737488355328) →
    Ev (fun k => galleyref13_Canon.l1 k (pre ++ rest) x6 x7 b.done (pre.length : Int)) (if x6 + fromOf rest ≤ 268435456 ∧ x7 + toOf rest ≤ 268435456 then ((rest.foldl Bs.step b).done, 0) else ([], 5)) := by
  induction rest with
  | nil =>
    intro pre x6 x7 b hl h6 h6' h7 h7' hw hb hp hs
    refine Ev.step (f := fun _ => some (b.done, 0)) (fun k => ?_) ?_
    · rw [galleyref13_Canon.l1, if_neg (by simp)]
    · rw [if_pos (by simp only [fromOf, toOf]; omega)]
      exact Ev.now _
  | cons o rest ih =>
    intro pre x6 x7 b hl h6 h6' h7 h7' hbw hb hp hs
    have hrd := rd_at pre o rest
    have hlt : (pre.length : Int) < ((pre ++ o :: rest).length : Int) := by simp; omega
    have hko := hp o List.mem_cons_self
    have hso := hs o List.mem_cons_self
    have hpo := kindOk_posN hko
    have hpr : ∀ x ∈ rest, kindOk x = true := fun x hx => hp x (List.mem_cons_of_mem _ hx)
    have hf := fromOf_nonneg (d := rest) (fun x hx => kindOk_posN (hpr x hx))
    have ht := toOf_nonneg (d := rest) (fun x hx => kindOk_posN (hpr x hx))
    have hw := wrap_succ (i := pre.length) (n := (pre ++ o :: rest).length) (by simp) hl
    have hih := fun y2 y3 c => ih (pre ++ [o]) y2 y3 c (by simpa using hl)
    simp only [List.append_assoc, List.singleton_append] at hih
    have hpl : ((pre ++ [o]).length : Int) = ((pre.length + 1 : Nat) : Int) := by simp
    rw [hpl] at hih
    rw [fromOf_cons, toOf_cons, List.foldl_cons]
    obtain ⟨n, hn⟩ : ∃ n, n = if o.f0 = 2 then 0 else o.f1 := ⟨_, rfl⟩
    obtain ⟨s, hsx⟩ : ∃ s, s = if o.f0 = 2 then o.f2 else noText := ⟨_, rfl⟩
    have hn0 : 0 ≤ n := by rw [hn]; split; exact Int.le_refl 0; exact hpo ‹_›
    have hss : s.size ≤ 140737488355328 := by rw [hsx]; split; exact hso; rw [noText_size]; omega
    refine Ev.step (f := fun k => galleyref13_Canon.j2 k (pre ++ o :: rest) x6 x7 b.done (pre.length : Int) o.f0 n s) (fun k => ?_) ?_
    · rw [galleyref13_Canon.l1, if_pos hlt, if_pos (by omega), hrd, hn, hsx]
      split <;> rfl
    obtain ⟨t, ht2⟩ : ∃ t, t = if o.f0 = 2 then (o.f2.size : Int) else if o.f0 = 3 then 0 else o.f1 := ⟨_, rfl⟩
    rw [← hn, ← ht2]
    have ht0 : 0 ≤ t := by
      rw [ht2]
      split
      · omega
      · rename_i h2
        have := hpo h2
        split <;> omega
    have hopw : opw o ≤ n + t := by
      rw [hn, ht2]
      unfold opw
      split
      · omega
      · rename_i h2
        have := hpo h2
        split <;> omega
    by_cases hbig : n > 268435456
    · refine Ev.step (f := fun _ => some ([], 5)) (fun k => ?_) ?_
      · rw [galleyref13_Canon.j2, if_pos hbig]
      · rw [if_neg (by omega)]
        exact Ev.now _
    · have ht3 : t = (if o.f0 = 1 then n else 0) + (s.size : Int) := by
        rw [ht2, hsx, hn]
        simp only [kindOk, Bool.and_eq_true, decide_eq_true_eq] at hko
        by_cases c2 : o.f0 = 2
        · rw [if_pos c2, if_pos c2, if_pos c2, if_neg (by omega)]
          omega
        · rw [if_neg c2, if_neg c2, if_neg c2, noText_size]
          by_cases c3 : o.f0 = 3
          · rw [if_pos c3, if_neg (by omega)]
            rfl
          · rw [if_neg c3, if_pos (by omega)]
            omega
      have hj : ∀ k, galleyref13_Canon.j2 (k + 1) (pre ++ o :: rest) x6 x7 b.done (pre.length : Int) o.f0 n s = if x6 + n > 268435456 then some ([], 5) else if x7 + t > 268435456 then some ([], 5) else (galleyref13_add.f k b.done o.f0 n s).bind fun r => galleyref13_Canon.l1 k (pre ++ o :: rest) (x6 + n) (x7 + t) r ((pre.length + 1 : Nat) : Int) := fun k => by
        rw [galleyref13_Canon.j2, if_neg hbig, hw]
        by_cases c1 : o.f0 = 1
        · rw [if_pos c1] at ht3
          rw [if_pos c1, wrap_in (x := x6 + n) (by omega) (by omega), wrap_in (x := x7 + n) (by omega) (by omega), wrap_in (x := x7 + n + (s.size : Int)) (by omega) (by omega), ht3, ← Int.add_assoc]
        · rw [if_neg c1] at ht3
          rw [if_neg c1, wrap_in (x := x6 + n) (by omega) (by omega), wrap_in (x := x7 + (s.size : Int)) (by omega) (by omega), ht3, Int.zero_add]
      by_cases h6b : x6 + n > 268435456
      · refine Ev.step (f := fun _ => some ([], 5)) (fun k => by rw [hj, if_pos h6b]) ?_
        rw [if_neg (by omega)]
        exact Ev.now _
      · by_cases h7b : x7 + t > 268435456
        · refine Ev.step (f := fun _ => some ([], 5)) (fun k => by rw [hj, if_neg h6b, if_pos h7b]) ?_
          rw [if_neg (by omega)]
          exact Ev.now _
        · refine Ev.step (fun k => by rw [hj, if_neg h6b, if_neg h7b]) ?_
          have hs3 : s.size ≤ 3000000000 := by
            have : (s.size : Int) ≤ t := by rw [ht3]; split <;> omega
            omega
          obtain ⟨g1, g2⟩ := add_step hbw (hb.mono (by omega)) hko hn hsx (by omega) hs3
          refine Ev.bind g2 ?_
          have := hih (x6 + n) (x7 + t) (b.step o) (by omega) (by omega) (by omega) (by omega) g1 ((hb.step hpo).mono (by omega)) hpr (fun x hx => hs x (List.mem_cons_of_mem _ hx))
          rw [Int.add_assoc, Int.add_assoc] at this
          exact this

/-- Canon's first loop -/
theorem refCanon_kinds (rest : List S70) : ∀ (pre : List S70), (pre ++ rest).length ≤ 9223372036854775807 → (∀ r, (rest.all kindOk = true → Ev (fun k => galleyref13_Canon.l1 k (pre ++ rest) 0 0 [] 0) r) → Ev (fun k => galleyref13_Canon.l0 k (pre ++ rest) (pre.length : Int)) (if rest.all kindOk then r else ([], 130))) := by
  induction rest with
  | nil =>
    intro pre hl r hr
    rw [if_pos (by rfl)]
    refine Ev.step (fun k => ?_) (hr rfl)
    rw [galleyref13_Canon.l0, if_neg (by simp)]
  | cons o rest ih =>
    intro pre hl r hr
    have hrd := rd_at pre o rest
    have hlt : (pre.length : Int) < ((pre ++ o :: rest).length : Int) := by simp; omega
    have hw := wrap_succ (i := pre.length) (n := (pre ++ o :: rest).length) (by simp) hl
    have hih0 := fun h => ih (pre ++ [o]) (by simpa using hl) r h
    simp only [List.append_assoc, List.singleton_append] at hih0
    have hpl : ((pre ++ [o]).length : Int) = ((pre.length + 1 : Nat) : Int) := by simp
    rw [hpl] at hih0
    have hj : ∀ k, galleyref13_Canon.l0 (k + 1) (pre ++ o :: rest) (pre.length : Int) = if o.f0 < 1 then some ([], 130) else if o.f0 > 3 then some ([], 130) else if o.f0 = 2 then galleyref13_Canon.l0 k (pre ++ o :: rest) ((pre.length + 1 : Nat) : Int) else if o.f1 < 0 then some ([], 130) else galleyref13_Canon.l0 k (pre ++ o :: rest) ((pre.length + 1 : Nat) : Int) := fun k => by
      rw [galleyref13_Canon.l0, if_pos hlt, if_pos (by omega), hrd, hw]
    rw [List.all_cons] at hr ⊢
    cases hk : kindOk o with
    | true =>
      rw [Bool.true_and]
      rw [hk, Bool.true_and] at hr
      have hih := hih0 hr
      refine Ev.step (f := fun k => galleyref13_Canon.l0 k (pre ++ o :: rest) ((pre.length + 1 : Nat) : Int)) (fun k => ?_) hih
      have hpo := kindOk_posN hk
      simp only [kindOk, Bool.and_eq_true, decide_eq_true_eq] at hk
      rw [hj, if_neg (by omega), if_neg (by omega)]
      by_cases c2 : o.f0 = 2
      · rw [if_pos c2]
      · rw [if_neg c2, if_neg (by have := hpo c2; omega)]
    | false =>
      rw [Bool.false_and, if_neg (by decide)]
      refine Ev.step (f := fun _ => some ([], 130)) (fun k => ?_) (Ev.now _)
      rw [hj]
      by_cases d1 : o.f0 < 1
      · rw [if_pos d1]
      · by_cases d3 : o.f0 > 3
        · rw [if_neg d1, if_pos d3]
        · have hx : ¬ (o.f0 = 2 ∨ 0 ≤ o.f1) := by
            intro hx
            have : kindOk o = true := by
              simp only [kindOk, Bool.and_eq_true, decide_eq_true_eq, Bool.or_eq_true, beq_iff_eq]
              exact ⟨⟨by omega, by omega⟩, hx⟩
            rw [hk] at this
            cases this
          rw [if_neg d1, if_neg d3, if_neg (fun e => hx (.inl e)), if_pos (by omega)]
theorem refCanon_ev (d : List S70) (hl : d.length ≤ 9223372036854775807) (hs : ∀ o ∈ d, o.f2.size ≤ 140737488355328) : ∃ r, delta_Canon.f d = some r ∧ Ev (fun k => galleyref13_Canon.f k d) r := by
  refine ⟨_, rfl, ?_⟩
  by_cases hk : d.all kindOk = true
  · have h1 := refCanon_from d [] 0 0 ⟨[], 0, noText, 0⟩ (by simpa using hl) (by omega) (by omega) (by omega) (by omega) BW.zero BI.new (fun o ho => List.all_eq_true.mp hk o ho) hs
    rw [done_zero] at h1
    have h2 := refCanon_kinds d [] (by simpa using hl) _ (fun _ => h1)
    rw [if_pos hk] at h2
    rw [if_pos hk]
    simp only [List.nil_append, Int.zero_add] at h2
    exact h2
  · have h2 := refCanon_kinds d [] (by simpa using hl) ([], 0) (fun h => absurd h hk)
    rw [if_neg hk] at h2
    rw [if_neg hk]
    exact h2
end Go.Proofs.Ytidihnnkcmeaeaa.A
