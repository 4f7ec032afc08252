/- What lens and Valid of the program answer, in plain words. No program in sight but their printed functions. No condition but that the list's length is an int's. -/
import Derived.Test.YtidihnnkcmeaeaaMG1
import Derived.Test.YtidihnnkcmeaeaaA4
namespace Go.Proofs.Ytidihnnkcmeaeaa.A
open Go.RowKit Go.Proofs.YtidihnnkcmeaeaaW.PrintWords Go.Proofs.YtidihnnkcmeaeaaW.PrintLast
theorem rd_at (pre : List S70) (o : S70) (rest : List S70) : rd_T70 (pre ++ o :: rest) (pre.length : Int) = o := by
 unfold rd_T70
 rw [Int.toNat_natCast, List.getD_eq_getElem?_getD, List.getElem?_append_right (Nat.le_refl _)]
 simp
theorem wrap_succ {i n : Nat} (h : i < n) (hn : n ≤ 9223372036854775807) : wrap64 ((i : Int) + 1) = ((i + 1 : Nat) : Int) := by unfold wrap64; omega
theorem wrap_in {x : Int} (h0 : -9223372036854775808 ≤ x) (h1 : x ≤ 9223372036854775807) : wrap64 x = x := by unfold wrap64; omega
def posN (o : S70) : Prop := o.f0 ≠ 2 → 0 ≤ o.f1
theorem fromOf_cons (o : S70) (d : List S70) : fromOf (o :: d) = (if o.f0 = 2 then 0 else o.f1) + fromOf d := rfl
theorem toOf_cons (o : S70) (d : List S70) : toOf (o :: d) = (if o.f0 = 2 then (o.f2.size : Int) else if o.f0 = 3 then 0 else o.f1) + toOf d := rfl
theorem fromOf_nonneg : ∀ {d : List S70}, (∀ o ∈ d, posN o) → 0 ≤ fromOf d
 | [], _ => Int.le_refl 0
 | o :: d, h => by
  have h1 := fromOf_nonneg (d := d) (fun x hx => h x (List.mem_cons_of_mem _ hx))
  have h2 := h o List.mem_cons_self
  unfold fromOf
  unfold posN at h2
  split
  ·
   omega
  ·
   have := h2 ‹_›; omega
theorem toOf_nonneg : ∀ {d : List S70}, (∀ o ∈ d, posN o) → 0 ≤ toOf d
 | [], _ => Int.le_refl 0
 | o :: d, h => by
  have h1 := toOf_nonneg (d := d) (fun x hx => h x (List.mem_cons_of_mem _ hx))
  have h2 := h o List.mem_cons_self
  unfold toOf
  unfold posN at h2
  split
  ·
   omega
  ·
   have := h2 ‹_›
   split <;> omega
def lensR (x2 x3 : Int) (rest : List S70) : Int × Int × Bool :=
 if x2 + fromOf rest ≤ 268435456 ∧ x3 + toOf rest ≤ 268435456 then (x2 + fromOf rest, x3 + toOf rest, true) else (0, 0, false)
theorem lens_from (rest : List S70) : ∀ (pre : List S70) (x2 x3 : Int), (pre ++ rest).length ≤ 9223372036854775807 → 0 ≤ x2 → x2 ≤ 268435456 → 0 ≤ x3 → x3 ≤ 268435456 → (∀ o ∈ rest, posN o) →
  Ev (fun k => delta_lens.l0 k x2 x3 (pre ++ rest) ((pre ++ rest).length : Int) (pre.length : Int)) (lensR x2 x3 rest) := by
 induction rest with
 | nil =>
  intro pre x2 x3 hl h2 h2' h3 h3' hp
  refine Ev.step (f := fun _ => some (lensR x2 x3 [])) (fun k => ?_) (Ev.now _)
  simp only [delta_lens.l0]
  rw [if_neg (by simp)]
  simp [lensR, fromOf, toOf, h2', h3']
 | cons o rest ih =>
  intro pre x2 x3 hl h2 h2' h3 h3' hp
  have hrd := rd_at pre o rest
  have hlt : (pre.length : Int) < ((pre ++ o :: rest).length : Int) := by simp; omega
  have hpo := hp o List.mem_cons_self
  have hpr : ∀ x ∈ rest, posN x := fun x hx => hp x (List.mem_cons_of_mem _ hx)
  have hf := fromOf_nonneg hpr
  have ht := toOf_nonneg hpr
  have hw := wrap_succ (i := pre.length) (n := (pre ++ o :: rest).length) (by simp) hl
  have hih := fun y2 y3 => ih (pre ++ [o]) y2 y3 (by simpa using hl)
  simp only [List.append_assoc, List.singleton_append] at hih
  have hpl : ((pre ++ [o]).length : Int) = ((pre.length + 1 : Nat) : Int) := by simp
  obtain ⟨n, hn⟩ : ∃ n, n = if o.f0 = 2 then (o.f2.size : Int) else o.f1 := ⟨_, rfl⟩
  have hn0 : 0 ≤ n := by
   rw [hn]
   split
   ·
    omega
   ·
    exact hpo ‹_›
  refine Ev.step (f := fun k => delta_lens.j1 k x2 x3 n (pre ++ o :: rest) ((pre ++ o :: rest).length : Int) (pre.length : Int) o.f0 o.f1 o.f2) (fun k => ?_) ?_
  ·
   simp only [delta_lens.l0]
   rw [if_pos hlt, if_pos (by omega), if_pos hlt, hrd, hn]
   split <;> rfl
  by_cases hbig : n > 268435456
  ·
   refine Ev.step (f := fun _ => some (0, 0, false)) (fun k => ?_) ?_
   ·
    simp only [delta_lens.j1]
    rw [if_pos hbig]
   ·
    have : lensR x2 x3 (o :: rest) = (0, 0, false) := by
     unfold lensR
     rw [fromOf_cons, toOf_cons, if_neg]
     by_cases c2 : o.f0 = 2
     ·
      rw [if_pos c2] at hn
      simp only [c2, if_true]
      omega
     ·
      rw [if_neg c2] at hn
      simp only [c2, if_false]
      omega
    rw [this]
    exact Ev.now _
  ·
   obtain ⟨y2, hy2⟩ : ∃ y, y = if o.f0 = 2 then x2 else x2 + n := ⟨_, rfl⟩
   have hy20 : 0 ≤ y2 ∧ y2 ≤ 600000000 := by rw [hy2]; split <;> omega
   refine Ev.step (f := fun k => delta_lens.j2 k y2 x3 n (pre ++ o :: rest) ((pre ++ o :: rest).length : Int) (pre.length : Int) o.f0 o.f1 o.f2) (fun k => ?_) ?_
   ·
    simp only [delta_lens.j1]
    rw [if_neg hbig, hy2, wrap_in (x := x2 + n) (by omega) (by omega)]
    split <;> rfl
   obtain ⟨y3, hy3⟩ : ∃ y, y = if o.f0 = 3 then x3 else x3 + n := ⟨_, rfl⟩
   have hy30 : 0 ≤ y3 ∧ y3 ≤ 600000000 := by rw [hy3]; split <;> omega
   have e2 : x2 + fromOf (o :: rest) = y2 + fromOf rest := by
    rw [hy2, hn, fromOf_cons]
    by_cases c2 : o.f0 = 2 <;> simp [c2] <;> omega
   have e3 : x3 + toOf (o :: rest) = y3 + toOf rest := by
    rw [hy3, hn, toOf_cons]
    by_cases c2 : o.f0 = 2
    ·
     simp [c2]; omega
    ·
     by_cases c3 : o.f0 = 3 <;> simp [c2, c3] <;> omega
   have e4 : lensR x2 x3 (o :: rest) = lensR y2 y3 rest := by unfold lensR; rw [e2, e3]
   rw [e4]
   by_cases hb2 : y2 > 268435456
   ·
    refine Ev.step (f := fun _ => some (0, 0, false)) (fun k => ?_) ?_
    ·
     simp only [delta_lens.j2]
     rw [if_pos hb2]
     split <;> rfl
    ·
     rw [show lensR y2 y3 rest = (0, 0, false) from by unfold lensR; rw [if_neg]; omega]
     exact Ev.now _
   ·
    by_cases hb3 : y3 > 268435456
    ·
     refine Ev.step (f := fun _ => some (0, 0, false)) (fun k => ?_) ?_
     ·
      simp only [delta_lens.j2]
      rw [wrap_in (x := x3 + n) (by omega) (by omega), if_neg hb2]
      by_cases c3 : o.f0 = 3
      ·
       rw [if_pos c3] at hy3
       rw [if_pos c3, if_pos (by omega)]
      ·
       rw [if_neg c3] at hy3
       rw [if_neg c3, if_neg hb2, if_pos (by omega)]
     ·
      rw [show lensR y2 y3 rest = (0, 0, false) from by unfold lensR; rw [if_neg]; omega]
      exact Ev.now _
    ·
     refine Ev.step (f := fun k => delta_lens.l0 k y2 y3 (pre ++ o :: rest) ((pre ++ o :: rest).length : Int) ((pre.length + 1 : Nat) : Int)) (fun k => ?_) ?_
     ·
      simp only [delta_lens.j2]
      rw [wrap_in (x := x3 + n) (by omega) (by omega), hw, if_neg hb2]
      by_cases c3 : o.f0 = 3
      ·
       rw [if_pos c3] at hy3
       rw [if_pos c3, if_neg (by omega), hy3]
      ·
       rw [if_neg c3] at hy3
       rw [if_neg c3, if_neg hb2, if_neg (by omega), hy3]
     ·
      have := hih y2 y3 hy20.1 (by omega) hy30.1 (by omega) hpr
      rw [hpl] at this
      exact this
theorem lens_ev (d : List S70) (hl : d.length ≤ 9223372036854775807) (hp : ∀ o ∈ d, posN o) : Ev (fun k => delta_lens.f k d) (lensR 0 0 d) := by
 have := lens_from d [] 0 0 (by simpa using hl) (by omega) (by omega) (by omega) (by omega) hp
 simpa [delta_lens.f] using this
def pvOk : Option S70 → S70 → Bool
 | none, _ => true
 | some q, o => nbOk q o
def chainP : Option S70 → List S70 → Bool
 | _, [] => true
 | p, o :: rest => opOk o && pvOk p o && chainP (some o) rest
theorem chainP_some (q : S70) (d : List S70) (hq : opOk q = true) : (hdOk q d && chainOk d) = chainP (some q) d := by
 induction d generalizing q with
 | nil => rfl
 | cons o rest ih =>
  rw [show hdOk q (o :: rest) = nbOk q o from rfl, show chainOk (o :: rest) = (opOk o && hdOk o rest && chainOk rest) from rfl, show chainP (some q) (o :: rest) = (opOk o && nbOk q o && chainP (some o) rest) from rfl]
  by_cases ho : opOk o = true
  ·
   rw [← ih o ho]
   simp only [ho, Bool.true_and]
  ·
   simp [Bool.not_eq_true] at ho
   simp [ho]
theorem chainP_none (d : List S70) : chainP none d = chainOk d := by
 cases d with
 | nil => rfl
 | cons o rest =>
  rw [show chainOk (o :: rest) = (opOk o && hdOk o rest && chainOk rest) from rfl, show chainP none (o :: rest) = (opOk o && true && chainP (some o) rest) from rfl]
  by_cases ho : opOk o = true
  ·
   rw [← chainP_some o rest ho]
   simp only [ho, Bool.true_and, Bool.and_true]
  ·
   simp [Bool.not_eq_true] at ho
   simp [ho]
theorem chainP_posN : ∀ {p : Option S70} {d : List S70}, chainP p d = true → ∀ o ∈ d, posN o
 | _, [], _, o, ho => by simp at ho
 | p, a :: d, h, o, ho => by
  simp only [chainP, Bool.and_eq_true] at h
  rcases List.mem_cons.1 ho with rfl | ho
  ·
   intro h2
   have := h.1.1
   simp only [opOk, Bool.or_eq_true, Bool.and_eq_true, beq_iff_eq, decide_eq_true_eq, bne_iff_ne] at this
   omega
  ·
   exact chainP_posN h.2 o ho
theorem toList_size (s : ByteArray) : (s.toList == ([] : List UInt8)) = (s.size == 0) := by
 rw [Bool.eq_iff_iff, beq_iff_eq, beq_iff_eq, ByteArray.toList_eq]
 constructor
 ·
  intro h
  have := congrArg List.length h
  simpa using this
 ·
  intro h
  exact List.eq_nil_of_length_eq_zero (by simpa using h)
theorem toList_size' (s : ByteArray) : (s.toList != ([] : List UInt8)) = !(s.size == 0) := by rw [bne, toList_size]
theorem valid_from (L : Bool) (a b : Int) (rest : List S70) : ∀ (pre : List S70), (pre ++ rest).length ≤ 9223372036854775807 →
  (chainP pre.getLast? rest = true → Ev (fun k => delta_lens.f k (pre ++ rest)) (a, b, L)) →
  Ev (fun k => delta_Valid.l0 k (pre ++ rest) (pre ++ rest) ((pre ++ rest).length : Int) (pre.length : Int)) (chainP pre.getLast? rest && L) := by
 induction rest with
 | nil =>
  intro pre hl hL
  refine Ev.step (f := fun k => (delta_lens.f k (pre ++ [])).bind fun bt => some bt.2.2) (fun k => ?_) ?_
  ·
   simp only [delta_Valid.l0]
   rw [if_neg (by simp)]
  ·
   exact Ev.bind (hL rfl) (by simp only [chainP, Bool.true_and]; exact Ev.now _)
 | cons o rest ih =>
  intro pre hl hL
  have hrd := rd_at pre o rest
  have hlt : (pre.length : Int) < ((pre ++ o :: rest).length : Int) := by simp; omega
  have hw := wrap_succ (i := pre.length) (n := (pre ++ o :: rest).length) (by simp) hl
  have hpl : ((pre ++ [o]).length : Int) = ((pre.length + 1 : Nat) : Int) := by simp
  have hnext : opOk o = true → ∀ g : Nat → Option Bool,
    ((fun k => g (k + 1)) = fun k => if (pre.length : Int) > 0 then (if 0 ≤ (wrap64 ((pre.length : Int) - 1)) then (if (wrap64 ((pre.length : Int) - 1)) < ((pre ++ o :: rest).length : Int) then (if ((rd_T70 (pre ++ o :: rest) (wrap64 ((pre.length : Int) - 1))).f0) = o.f0 then (some false) else (if ((rd_T70 (pre ++ o :: rest) (wrap64 ((pre.length : Int) - 1))).f0) = 3 then (if o.f0 = 2 then (some false) else (delta_Valid.l0 k (pre ++ o :: rest) (pre ++ o :: rest) ((pre ++ o :: rest).length : Int) (wrap64 ((pre.length : Int) + 1)))) else (delta_Valid.l0 k (pre ++ o :: rest) (pre ++ o :: rest) ((pre ++ o :: rest).length : Int) (wrap64 ((pre.length : Int) + 1))))) else (none)) else (none)) else (delta_Valid.l0 k (pre ++ o :: rest) (pre ++ o :: rest) ((pre ++ o :: rest).length : Int) (wrap64 ((pre.length : Int) + 1)))) →
    Ev g (chainP pre.getLast? (o :: rest) && L) := by
   intro hok g hg
   have hgo : pvOk pre.getLast? o = true → Ev (fun k => delta_Valid.l0 k (pre ++ o :: rest) (pre ++ o :: rest) ((pre ++ o :: rest).length : Int) (wrap64 ((pre.length : Int) + 1))) (chainP pre.getLast? (o :: rest) && L) := by
    intro hnb
    have h1 := ih (pre ++ [o]) (by simpa using hl)
    simp only [List.append_assoc, List.singleton_append] at h1
    rw [show (pre ++ [o]).getLast? = some o by simp] at h1
    have h2 : chainP pre.getLast? (o :: rest) = chainP (some o) rest := by simp only [chainP, hok, hnb, Bool.true_and]
    rw [h2] at hL ⊢
    rw [hw]
    have h3 := h1 hL
    rw [hpl] at h3
    exact h3
   rcases List.eq_nil_or_concat pre with rfl | ⟨pre', q, hpq⟩
   ·
    refine Ev.step (fun k => ?_) (hgo rfl)
    rw [show ∀ k, g (k + 1) = _ from fun k => congrFun hg k, if_neg (by simp)]
   ·
    try rw [List.concat_eq_append] at hpq
    subst hpq
    have hlast : (pre' ++ [q]).getLast? = some q := by simp
    have hprev : wrap64 (((pre' ++ [q]).length : Int) - 1) = (pre'.length : Int) := by
     have : (pre' ++ [q]).length ≤ 9223372036854775807 := by simp at hl ⊢; omega
     simp at this
     unfold wrap64
     simp
     omega
    have hrq : rd_T70 (pre' ++ [q] ++ o :: rest) (pre'.length : Int) = q := by
     have := rd_at pre' q (o :: rest)
     simpa using this
    rw [hprev, hrq] at hg
    have hp0 : ((pre' ++ [q]).length : Int) > 0 := by rw [List.length_append, List.length_singleton]; omega
    have hp1 : (pre'.length : Int) < ((pre' ++ [q] ++ o :: rest).length : Int) := by simp; omega
    by_cases c1 : q.f0 = o.f0
    ·
     have hn : nbOk q o = false := by simp [nbOk, c1]
     refine Ev.step (f := fun _ => some false) (fun k => ?_) ?_
     ·
      rw [show ∀ k, g (k + 1) = _ from fun k => congrFun hg k, if_pos hp0, if_pos (by omega), if_pos hp1, if_pos c1]
     ·
      have : chainP (pre' ++ [q]).getLast? (o :: rest) = false := by rw [hlast]; simp [chainP, pvOk, hn]
      rw [this]
      exact Ev.now _
    ·
     by_cases c2 : q.f0 = 3 ∧ o.f0 = 2
     ·
      have hn : nbOk q o = false := by simp [nbOk, c2]
      refine Ev.step (f := fun _ => some false) (fun k => ?_) ?_
      ·
       rw [show ∀ k, g (k + 1) = _ from fun k => congrFun hg k, if_pos hp0, if_pos (by omega), if_pos hp1, if_neg c1, if_pos c2.1, if_pos c2.2]
      ·
       have : chainP (pre' ++ [q]).getLast? (o :: rest) = false := by rw [hlast]; simp [chainP, pvOk, hn]
       rw [this]
       exact Ev.now _
     ·
      have hn : nbOk q o = true := by
       simp only [nbOk, Bool.and_eq_true, bne_iff_ne, Bool.not_eq_true', Bool.and_eq_false_iff, beq_eq_false_iff_ne]
       refine ⟨c1, ?_⟩
       by_cases c3 : q.f0 = 3
       ·
        exact .inr (fun h => c2 ⟨c3, h⟩)
       ·
        exact .inl c3
      refine Ev.step (fun k => ?_) (hgo (by rw [hlast]; exact hn))
      rw [show ∀ k, g (k + 1) = _ from fun k => congrFun hg k, if_pos hp0, if_pos (by omega), if_pos hp1, if_neg c1]
      by_cases c3 : q.f0 = 3
      ·
       rw [if_pos c3, if_neg (fun h => c2 ⟨c3, h⟩)]
      ·
       rw [if_neg c3]
  have hbad : opOk o = false → (chainP pre.getLast? (o :: rest) && L) = false := by
   intro h
   simp [chainP, h]
  refine Ev.step (f := fun k => delta_Valid.j1 k (pre ++ o :: rest) (pre.length : Int) (pre ++ o :: rest) ((pre ++ o :: rest).length : Int) (pre.length : Int) o.f0 (o.f0 == 1 || o.f0 == 3) o.f0 o.f1 o.f2) (fun k => ?_) ?_
  ·
   simp only [delta_Valid.l0]
   rw [if_pos hlt, if_pos (by omega), if_pos hlt, hrd]
   by_cases c1 : o.f0 = 1
   ·
    simp [c1]
   ·
    rw [if_neg c1]
    have : (o.f0 == 1) = false := beq_eq_false_iff_ne.mpr c1
    rw [this, Bool.false_or]
  by_cases ckd : (o.f0 == 1 || o.f0 == 3) = true
  ·
   have hk : o.f0 = 1 ∨ o.f0 = 3 := by simpa using ckd
   refine Ev.step (f := fun k => delta_Valid.j2 k (pre ++ o :: rest) (pre.length : Int) (pre ++ o :: rest) ((pre ++ o :: rest).length : Int) (pre.length : Int) (decide (o.f1 < 1) || !(o.f2.size == 0)) o.f0 o.f1 o.f2) (fun k => ?_) ?_
   ·
    simp only [delta_Valid.j1]
    rw [if_pos ckd]
    by_cases c1 : o.f1 < 1
    ·
     simp [c1]
    ·
     rw [if_neg c1, toList_size']
     simp [c1]
   by_cases cb : (decide (o.f1 < 1) || !(o.f2.size == 0)) = true
   ·
    have hno : opOk o = false := by
     simp only [Bool.or_eq_true, decide_eq_true_eq, Bool.not_eq_true', beq_eq_false_iff_ne] at cb
     simp only [opOk, Bool.or_eq_false_iff, Bool.and_eq_false_iff, decide_eq_false_iff_not, beq_eq_false_iff_ne, bne_eq_false_iff_eq]
     constructor
     ·
      rcases cb with h | h
      ·
       exact .inl (.inr (by omega))
      ·
       exact .inr h
     ·
      exact .inl (.inl (by omega))
    rw [hbad hno]
    refine Ev.step (f := fun _ => some false) (fun k => ?_) (Ev.now _)
    simp only [delta_Valid.j2]
    rw [if_pos cb]
   ·
    have hok : opOk o = true := by
     simp only [Bool.or_eq_true, decide_eq_true_eq, Bool.not_eq_true', beq_eq_false_iff_ne, not_or, Decidable.not_not] at cb
     simp only [opOk, Bool.or_eq_true, Bool.and_eq_true, decide_eq_true_eq, beq_iff_eq, bne_iff_ne]
     exact .inl ⟨⟨hk, by omega⟩, cb.2⟩
    refine hnext hok _ (funext fun k => ?_)
    simp only [delta_Valid.j2]
    rw [if_neg cb]
  ·
   have hk : ¬ (o.f0 = 1 ∨ o.f0 = 3) := by simpa using ckd
   by_cases c2 : o.f0 = 2
   ·
    refine Ev.step (f := fun k => delta_Valid.j3 k (pre ++ o :: rest) (pre.length : Int) (pre ++ o :: rest) ((pre ++ o :: rest).length : Int) (pre.length : Int) (!(o.f1 == 0) || (o.f2.size == 0)) o.f0 o.f1 o.f2) (fun k => ?_) ?_
    ·
     simp only [delta_Valid.j1]
     rw [if_neg ckd, if_pos c2]
     by_cases c1 : o.f1 = 0
     ·
      rw [if_pos c1, toList_size]
      simp [c1]
     ·
      rw [if_neg c1, beq_eq_false_iff_ne.mpr c1]
      rfl
    by_cases cb : (!(o.f1 == 0) || (o.f2.size == 0)) = true
    ·
     have hno : opOk o = false := by
      simp only [Bool.or_eq_true, Bool.not_eq_true', beq_eq_false_iff_ne, beq_iff_eq] at cb
      simp only [opOk, Bool.or_eq_false_iff, Bool.and_eq_false_iff, decide_eq_false_iff_not, beq_eq_false_iff_ne, bne_eq_false_iff_eq]
      constructor
      ·
       exact .inl (.inl (by omega))
      ·
       rcases cb with h | h
       ·
        exact .inl (.inr h)
       ·
        exact .inr h
     rw [hbad hno]
     refine Ev.step (f := fun _ => some false) (fun k => ?_) (Ev.now _)
     simp only [delta_Valid.j3]
     rw [if_pos cb]
    ·
     have hok : opOk o = true := by
      simp only [Bool.or_eq_true, Bool.not_eq_true', beq_eq_false_iff_ne, beq_iff_eq, not_or, Decidable.not_not] at cb
      simp only [opOk, Bool.or_eq_true, Bool.and_eq_true, decide_eq_true_eq, beq_iff_eq, bne_iff_ne]
      exact .inr ⟨⟨c2, cb.1⟩, cb.2⟩
     refine hnext hok _ (funext fun k => ?_)
     simp only [delta_Valid.j3]
     rw [if_neg cb]
   ·
    have hno : opOk o = false := by
     simp only [opOk, Bool.or_eq_false_iff, Bool.and_eq_false_iff, decide_eq_false_iff_not, beq_eq_false_iff_ne, bne_eq_false_iff_eq]
     constructor
     ·
      exact .inl (.inl (by omega))
     ·
      exact .inl (.inl c2)
    rw [hbad hno]
    refine Ev.step (f := fun _ => some false) (fun k => ?_) (Ev.now _)
    simp only [delta_Valid.j1]
    rw [if_neg ckd, if_neg c2]
theorem canB_lens {d : List S70} (h : canB d = true) : chainOk d = true ∧ fromOf d ≤ 268435456 ∧ toOf d ≤ 268435456 := by
 simp only [canB, Bool.and_eq_true, decide_eq_true_eq] at h
 exact ⟨h.1.1, h.1.2, h.2⟩
theorem chainOk_posN {d : List S70} (h : chainOk d = true) : ∀ o ∈ d, posN o := chainP_posN (by rw [chainP_none]; exact h)
theorem valid_ev (d : List S70) (hl : d.length ≤ 9223372036854775807) : Ev (fun k => delta_Valid.f k d) (canB d) := by
 have h := valid_from (lensR 0 0 d).2.2 (lensR 0 0 d).1 (lensR 0 0 d).2.1 d [] (by simpa using hl) (fun hc => lens_ev d hl (chainP_posN hc))
 have e : (chainP ([] : List S70).getLast? d && (lensR 0 0 d).2.2) = canB d := by
  simp only [List.getLast?_nil, chainP_none, canB, lensR, Int.zero_add]
  by_cases c : fromOf d ≤ 268435456 ∧ toOf d ≤ 268435456
  ·
   simp [c]
  ·
   rw [if_neg c]
   simp only [Bool.and_false]
   by_cases c1 : fromOf d ≤ 268435456
   ·
    have : ¬ toOf d ≤ 268435456 := fun h => c ⟨c1, h⟩
    simp [this]
   ·
    simp [c1]
 rw [e] at h
 simpa [delta_Valid.f] using h
theorem lens_can {d : List S70} (hl : d.length ≤ 9223372036854775807) (h : canB d = true) : Ev (fun k => delta_lens.f k d) (fromOf d, toOf d, true) := by
 obtain ⟨h1, h2, h3⟩ := canB_lens h
 have := lens_ev d hl (chainOk_posN h1)
 rwa [show lensR 0 0 d = (fromOf d, toOf d, true) from by simp [lensR, h2, h3]] at this
end Go.Proofs.Ytidihnnkcmeaeaa.A
