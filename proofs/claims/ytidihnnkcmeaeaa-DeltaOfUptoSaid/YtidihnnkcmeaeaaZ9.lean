/- DeltaOf in plain words: it answers true where what comes in is of small bulk. Plain lists. -/
import Derived.Test.YtidihnnkcmeaeaaZa
import Derived.Test.YtidihnnkcmeaeaaA15
namespace Go.Proofs.Ytidihnnkcmeaeaa.A
open Go.RowKit Go.Proofs.YtidihnnkcmeaeaaW.PrintWords Go.Proofs.YtidihnnkcmeaeaaW.PrintLast Go.Proofs.YtidihnnkcmeaeaaW.PrintMore
set_option linter.unusedVariables false
set_option linter.unusedSimpArgs false

theorem rd91_in (pre : List S91) (o : S91) (rest : List S91) : rd_T91 (pre ++ o :: rest) (pre.length : Int) = o := by
  unfold rd_T91
  rw [Int.toNat_natCast, List.getD_eq_getElem?_getD, List.getElem?_append_right (Nat.le_refl _)]
  simp
theorem inRange_le {n : Int} {c : S91} (h : inRange n c = true) : 0 ≤ c.f0 ∧ c.f0 ≤ c.f1 ∧ c.f1 ≤ n := by
  simpa [inRange, and_assoc] using h
theorem refOf_l0 (n : Int) (rest : List S91) : ∀ (pre : List S91), (pre ++ rest).length ≤ 1048576 → ∀ r, (rest.all (inRange n) = true → Ev (fun k => galleyref13_Of.l1 k n (pre ++ rest) n 0) r) →
    Ev (fun k => galleyref13_Of.l0 k n (pre ++ rest) (pre.length : Int)) (if rest.all (inRange n) = true then r else ([], 2)) := by
  induction rest with
  | nil =>
    intro pre hl r hr
    rw [if_pos (by rfl)]
    refine Ev.step (fun k => ?_) (hr rfl)
    rw [galleyref13_Of.l0, if_neg (by simp)]
  | cons o rest ih =>
    intro pre hl r hr
    have hrd := rd91_in pre o rest
    have hlt : (pre.length : Int) < ((pre ++ o :: rest).length : Int) := by simp; omega
    have hw := wrap_succ (i := pre.length) (n := (pre ++ o :: rest).length) (by simp) (by omega)
    have hih0 := ih (pre ++ [o]) (by simpa using hl) r
    simp only [List.append_assoc, List.singleton_append] at hih0
    have hpl : ((pre ++ [o]).length : Int) = ((pre.length + 1 : Nat) : Int) := by simp
    rw [hpl] at hih0
    have hj : ∀ k, galleyref13_Of.l0 (k + 1) n (pre ++ o :: rest) (pre.length : Int) = if o.f0 < 0 then some ([], 2) else if o.f0 > o.f1 then some ([], 2) else if o.f1 > n then some ([], 2) else galleyref13_Of.l0 k n (pre ++ o :: rest) ((pre.length + 1 : Nat) : Int) := fun k => by
      rw [galleyref13_Of.l0, if_pos hlt, if_pos (by omega), hrd, hw]
    rw [List.all_cons] at hr ⊢
    cases hk : inRange n o with
    | true =>
      have h3 := inRange_le hk
      rw [Bool.true_and]
      rw [hk, Bool.true_and] at hr
      refine Ev.step (fun k => by rw [hj, if_neg (by omega), if_neg (by omega), if_neg (by omega)]) ?_
      exact hih0 hr
    | false =>
      have h3 : ¬ (0 ≤ o.f0 ∧ o.f0 ≤ o.f1 ∧ o.f1 ≤ n) := by
        intro h
        have : inRange n o = true := by simp [inRange, h]
        rw [hk] at this
        exact absurd this (by decide)
      rw [Bool.false_and, if_neg (by decide)]
      refine Ev.step (f := fun _ => some ([], 2)) (fun k => ?_) (Ev.now _)
      rw [hj]
      by_cases q1 : o.f0 < 0
      · rw [if_pos q1]
      · rw [if_neg q1]
        by_cases q2 : o.f0 > o.f1
        · rw [if_pos q2]
        · rw [if_neg q2, if_pos (by omega)]
theorem refOf_l1 (n : Int) (hn : 0 ≤ n) (hn2 : n ≤ 268435456) (rest : List S91) : ∀ (pre : List S91) (x7 hi : Int), (pre = [] ∧ hi = 0 ∨ ∃ p c, pre = p ++ [c] ∧ hi = c.f1) → (pre ++ rest).length ≤ 1048576 → rest.all (inRange n) = true → -268435456 * (pre.length : Int) ≤ x7 → x7 + putsOf rest ≤ 1000000000 →
    ∀ r, (risesFrom hi rest = true → x7 + growsBy rest ≤ 268435456 → Ev (fun k => galleyref13_Of.l2 k n (pre ++ rest) [] 0 0) r) →
    Ev (fun k => galleyref13_Of.l1 k n (pre ++ rest) x7 (pre.length : Int)) (if risesFrom hi rest = true then (if x7 + growsBy rest ≤ 268435456 then r else ([], 5)) else ([], 120)) := by
  induction rest with
  | nil =>
    intro pre x7 hi hp hl hall h7 h7b r hr
    rw [if_pos (by rfl)]
    have hg : x7 + growsBy [] = x7 := by simp [growsBy]
    rw [hg] at hr ⊢
    by_cases hx : x7 ≤ 268435456
    · rw [if_pos hx]
      refine Ev.step (fun k => ?_) (hr rfl hx)
      rw [galleyref13_Of.l1, if_neg (by simp), if_neg (by omega)]
    · rw [if_neg hx]
      refine Ev.step (f := fun _ => some ([], 5)) (fun k => ?_) (Ev.now _)
      rw [galleyref13_Of.l1, if_neg (by simp), if_pos (by omega)]
  | cons o rest ih =>
    intro pre x7 hi hp hl hall h7 h7b r hr
    have hrd := rd91_in pre o rest
    have hlt : (pre.length : Int) < ((pre ++ o :: rest).length : Int) := by simp; omega
    have hw := wrap_succ (i := pre.length) (n := (pre ++ o :: rest).length) (by simp) (by omega)
    rw [List.all_cons, Bool.and_eq_true] at hall
    obtain ⟨h3a, h3b, h3c⟩ := inRange_le hall.1
    have hpn := putsOf_nonneg rest
    have hpl0 : pre.length ≤ 1048576 := by simp only [List.length_append] at hl; omega
    simp only [putsOf] at h7b
    have hih0 := fun x7 => ih (pre ++ [o]) x7 o.f1 (.inr ⟨pre, o, rfl, rfl⟩) (by simpa using hl) hall.2
    simp only [List.append_assoc, List.singleton_append] at hih0
    have hpl : ((pre ++ [o]).length : Int) = ((pre.length + 1 : Nat) : Int) := by simp
    rw [hpl] at hih0
    have hto : wrap64 (wrap64 (x7 + (o.f2.size : Int)) - wrap64 (o.f1 - o.f0)) = x7 + ((o.f2.size : Int) - (o.f1 - o.f0)) := by
      rw [wrap_in (x := x7 + (o.f2.size : Int)) (by omega) (by omega), wrap_in (x := o.f1 - o.f0) (by omega) (by omega), wrap_in (by omega) (by omega)]
      omega
    have hg : ∀ y : Int, y + growsBy (o :: rest) = (y + ((o.f2.size : Int) - (o.f1 - o.f0))) + growsBy rest := fun y => by simp only [growsBy]; omega
    have hrs : risesFrom hi (o :: rest) = (decide (hi ≤ o.f0) && risesFrom o.f1 rest) := rfl
    rw [hg] at hr ⊢
    rw [hrs] at hr ⊢
    have hj : ∀ k, galleyref13_Of.l1 (k + 1) n (pre ++ o :: rest) x7 (pre.length : Int) = if o.f0 < hi then some ([], 120) else galleyref13_Of.l1 k n (pre ++ o :: rest) (x7 + ((o.f2.size : Int) - (o.f1 - o.f0))) ((pre.length + 1 : Nat) : Int) := fun k => by
      rw [galleyref13_Of.l1, if_pos hlt, hrd, hw, hto]
      rcases hp with ⟨rfl, rfl⟩ | ⟨p, c, rfl, rfl⟩
      · rw [if_neg (by simp), if_pos (by simp), if_neg (by omega)]
      · have hm : wrap64 ((((p ++ [c]).length : Nat) : Int) - 1) = (p.length : Int) := by
          rw [List.length_append, List.length_singleton] at hpl0 ⊢
          unfold wrap64
          omega
        have hrp : rd_T91 ((p ++ [c]) ++ o :: rest) (p.length : Int) = c := by
          rw [List.append_assoc]
          exact rd91_in p c _
        rw [hm, hrp, if_pos (by simp), if_pos (by omega), if_pos (by omega), if_pos (by simp; omega)]
    by_cases hlo : o.f0 < hi
    · rw [show decide (hi ≤ o.f0) = false by simpa using hlo, Bool.false_and, if_neg (by decide)]
      refine Ev.step (f := fun _ => some ([], 120)) (fun k => ?_) (Ev.now _)
      rw [hj, if_pos hlo]
    · rw [show decide (hi ≤ o.f0) = true by simpa using hlo, Bool.true_and] at hr ⊢
      refine Ev.step (fun k => by rw [hj, if_neg hlo]) ?_
      exact hih0 _ (by rw [Int.natCast_add]; omega) (by omega) r hr
/-- the builder doesn't care which of the two comes first -/
theorem put_drop (b : Bs) (s : ByteArray) (n : Int) : (b.onPut s).onDrop n = (b.onDrop n).onPut s := by
  unfold Bs.onPut Bs.onDrop
  by_cases h1 : s.size = 0
  · simp only [if_pos h1]
  · simp only [if_neg h1]
    by_cases h2 : 0 < n
    · simp only [if_pos h2]
    · simp only [if_neg h2]
theorem refOf_l2 (n : Int) (hn : 0 ≤ n) (hn2 : n ≤ 268435456) (rest : List S91) : ∀ (pre : List S91) (b : Bs) (m at_ : Int), (pre ++ rest).length ≤ 1048576 → rest.all (inRange n) = true → risesFrom at_ rest = true → 0 ≤ at_ → at_ ≤ n → BW b → 0 ≤ m → BI b m → m + (n - at_) + putsOf rest ≤ 3000000000 →
    Ev (fun k => galleyref13_Of.l2 k n (pre ++ rest) b.done at_ (pre.length : Int)) (((ofOps n at_ rest).foldl Bs.step b).done, 0) := by
  induction rest with
  | nil =>
    intro pre b m at_ hl hall hrs ha ha2 hbw hm0 hb hm
    simp only [putsOf] at hm
    obtain ⟨g1, g2⟩ := add_keep hbw (n := n - at_) (by omega) (hb.mono (by omega)) (by omega)
    refine Ev.step (fun k => by rw [galleyref13_Of.l2, if_neg (by simp), wrap_in (x := n - at_) (by omega) (by omega)]) ?_
    have he : (ofOps n at_ []).foldl Bs.step b = b.onKeep (n - at_) := by simp [ofOps, step_keep]
    rw [he]
    exact Ev.bind g2 (Ev.now _)
  | cons c rest ih =>
    intro pre b m at_ hl hall hrs ha ha2 hbw hm0 hb hm
    have hrd := rd91_in pre c rest
    have hlt : (pre.length : Int) < ((pre ++ c :: rest).length : Int) := by simp; omega
    have hw := wrap_succ (i := pre.length) (n := (pre ++ c :: rest).length) (by simp) (by omega)
    rw [List.all_cons, Bool.and_eq_true] at hall
    obtain ⟨h3a, h3b, h3c⟩ := inRange_le hall.1
    have hpn := putsOf_nonneg rest
    simp only [putsOf] at hm
    have hrs2 : (decide (at_ ≤ c.f0) && risesFrom c.f1 rest) = true := hrs
    rw [Bool.and_eq_true, decide_eq_true_eq] at hrs2
    have hih0 := fun b m => ih (pre ++ [c]) b m c.f1 (by simpa using hl) hall.2 hrs2.2 (by omega) h3c
    simp only [List.append_assoc, List.singleton_append] at hih0
    have hpl : ((pre ++ [c]).length : Int) = ((pre.length + 1 : Nat) : Int) := by simp
    rw [hpl] at hih0
    have i1 := hb.keep (n := c.f0 - at_) (by omega)
    have i2 := i1.dropN (n := c.f1 - c.f0) (by omega)
    have i3 := i2.putS c.f2
    obtain ⟨g1, g2⟩ := add_keep hbw (n := c.f0 - at_) (by omega) (hb.mono (by omega)) (by omega)
    obtain ⟨g3, g4⟩ := add_drop g1 (n := c.f1 - c.f0) (by omega) (i1.mono (by omega)) (by omega)
    obtain ⟨g5, g6⟩ := add_put (s := c.f2) g3 (i2.mono (by omega)) (by omega)
    refine Ev.step (fun k => by rw [galleyref13_Of.l2, if_pos hlt, if_pos (by omega), hrd, hw, wrap_in (x := c.f0 - at_) (by omega) (by omega), wrap_in (x := c.f1 - c.f0) (by omega) (by omega)]) ?_
    refine Ev.bind g2 ?_
    refine Ev.bind g4 ?_
    refine Ev.bind g6 ?_
    have he : (ofOps n at_ (c :: rest)).foldl Bs.step b = (ofOps n c.f1 rest).foldl Bs.step (((b.onKeep (c.f0 - at_)).onDrop (c.f1 - c.f0)).onPut c.f2) := by
      rw [ofOps, List.foldl_cons, List.foldl_cons, List.foldl_cons, step_keep, step_put, step_drop, put_drop]
    rw [he]
    exact hih0 _ _ g5 (by omega) i3 (by omega)
theorem of_len {n : Int} {cs : List S91} (h0 : 0 ≤ n) (h1 : n ≤ 268435456) (hall : cs.all (inRange n) = true) (hr : risesFrom 0 cs = true) (hp : putsOf cs ≤ 1048576) : (canon (ofOps n 0 cs)).length ≤ 9223372036854775807 := by
  have hpos : ∀ (cs : List S91) (a : Int), a ≤ n → cs.all (inRange n) = true → risesFrom a cs = true → ∀ o ∈ ofOps n a cs, posN o := by
    intro cs
    induction cs with
    | nil =>
      intro a ha _ _ o ho
      have : o = ⟨1, n - a, noText⟩ := by simpa [ofOps] using ho
      rw [this]
      intro _
      show 0 ≤ n - a
      omega
    | cons c cs ih =>
      intro a ha hall hr o ho
      rw [List.all_cons, Bool.and_eq_true] at hall
      obtain ⟨h3a, h3b, h3c⟩ := inRange_le hall.1
      have hr2 : (decide (a ≤ c.f0) && risesFrom c.f1 cs) = true := hr
      rw [Bool.and_eq_true, decide_eq_true_eq] at hr2
      rw [ofOps] at ho
      rcases List.mem_cons.1 ho with rfl | ho
      · intro _
        show 0 ≤ c.f0 - a
        omega
      · rcases List.mem_cons.1 ho with rfl | ho
        · intro hc
          exact absurd rfl hc
        · rcases List.mem_cons.1 ho with rfl | ho
          · intro _
            show 0 ≤ c.f1 - c.f0
            omega
          · exact ih c.f1 h3c hall.2 hr2.2 o ho
  have h2 := (BI.fold (hpos cs 0 h0 hall hr) BI.new).len
  rw [opws_ofOps] at h2
  have h3 := done_len ((ofOps n 0 cs).foldl Bs.step Bs.new)
  unfold canon
  omega
theorem deltaOf_law (n : Int) (cs : List S91) (hl : cs.length ≤ 1048576) (hp : putsOf cs ≤ 1048576) : Ev (fun k => galleylaw13_DeltaOf.f k n cs) true := by
  unfold galleylaw13_DeltaOf.f
  refine Ev.bind (a := true) (Ev.now _) ?_
  rw [show (fun n_1 => if true = true then _ else some false) = _ from by funext n; rw [if_pos rfl]]
  refine Ev.bind (a := ([] : List S91)) (Ev.now _) ?_
  refine Ev.congr (fun k => by rw [if_pos (show ([] : List S91).length + cs.length < 4398046511104 by simp; omega), List.nil_append]) ?_
  -- both answers
  have hkey : ∃ r : List S70 × Int, delta_Of.f n cs = some r ∧ Ev (fun k => galleyref13_Of.f k n cs) r ∧ r.1.length ≤ 9223372036854775807 := by
    unfold delta_Of.f
    rw [if_pos (by omega)]
    by_cases hn : 0 ≤ n ∧ n ≤ 268435456
    · refine ⟨_, rfl, ?_, ?_⟩
      · rw [if_pos hn]
        have h0 := refOf_l0 n cs [] (by simpa using hl) (if risesFrom 0 cs = true then (if n + growsBy cs ≤ 268435456 then (canon (ofOps n 0 cs), 0) else ([], 5)) else ([], 120)) (fun hall => by
          have h1 := refOf_l1 n hn.1 hn.2 cs [] n 0 (.inl ⟨rfl, rfl⟩) (by simpa using hl) hall (by simp; omega) (by omega) (canon (ofOps n 0 cs), 0) (fun hr hg => by
            have h2 := refOf_l2 n hn.1 hn.2 cs [] Bs.new 0 0 (by simpa using hl) hall hr (by omega) hn.1 BW.zero (by omega) BI.new (by omega)
            exact h2)
          exact h1)
        refine Ev.congr (fun k => by rw [galleyref13_Of.f, if_neg (by omega), show decide (n > 268435456) = false by simpa using hn.2]) ?_
        refine Ev.step (fun k => by rw [galleyref13_Of.j0, if_neg (by decide)]) ?_
        exact h0
      · rw [if_pos hn]
        by_cases hall : cs.all (inRange n) = true
        · rw [if_pos hall]
          by_cases hr : risesFrom 0 cs = true
          · rw [if_pos hr]
            by_cases hg : n + growsBy cs ≤ 268435456
            · rw [if_pos hg]
              exact of_len hn.1 hn.2 hall hr hp
            · rw [if_neg hg]; simp
          · rw [if_neg hr]; simp
        · rw [if_neg hall]; simp
    · refine ⟨_, rfl, ?_, ?_⟩
      · rw [if_neg hn]
        by_cases h0 : n < 0
        · refine Ev.congr (fun k => by rw [galleyref13_Of.f, if_pos h0]) ?_
          exact Ev.step (fun k => by rw [galleyref13_Of.j0, if_pos rfl]) (Ev.now _)
        · refine Ev.congr (fun k => by rw [galleyref13_Of.f, if_neg h0, show decide (n > 268435456) = true by simp; omega]) ?_
          exact Ev.step (fun k => by rw [galleyref13_Of.j0, if_pos rfl]) (Ev.now _)
      · rw [if_neg hn]
        simp
  obtain ⟨r, h1, h2, h3⟩ := hkey
  refine Ev.bind (a := r) (by rw [h1]; exact Ev.now _) ?_
  refine Ev.bind h2 ?_
  refine Ev.bind (same_self r.1 h3) ?_
  simp only [if_true]
  have he : (r.2 == r.2) = true := by simp
  rw [he]
  exact Ev.now _
end Go.Proofs.Ytidihnnkcmeaeaa.A
