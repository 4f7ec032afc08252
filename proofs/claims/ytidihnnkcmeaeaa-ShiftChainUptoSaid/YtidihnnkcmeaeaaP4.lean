/- What galleyref14's lens, Valid and Place answer where the texts together are small. Plain lists. -/
import Derived.Test.YtidihnnkcmeaeaaMG2
import Derived.Test.YtidihnnkcmeaeaaA7
import Derived.Test.YtidihnnkcmeaeaaMG5
namespace Go.Proofs.Ytidihnnkcmeaeaa.A
open Go.RowKit Go.Proofs.YtidihnnkcmeaeaaW.PrintWords Go.Proofs.YtidihnnkcmeaeaaW.PrintLast Go.Proofs.YtidihnnkcmeaeaaW.PrintMore
set_option linter.unusedVariables false
set_option linter.unusedSimpArgs false
theorem toOf_txts : ∀ {d : List S70}, (∀ o ∈ d, opOk o = true) → toOf d ≤ fromOf d + txts d
 | [], _ => Int.le_refl 0
 | o :: d, h => by
  have h1 := toOf_txts (d := d) (fun x hx => h x (List.mem_cons_of_mem _ hx))
  rw [toOf_cons, fromOf_cons]
  simp only [txts]
  have hs : (0 : Int) ≤ (o.f2.size : Int) := Int.natCast_nonneg _
  rcases opOk_cases (h o List.mem_cons_self) with ⟨k1, k2, k3⟩ | ⟨k1, k2, k3⟩
  ·
   have c2 : ¬ o.f0 = 2 := by omega
   rw [if_neg c2, if_neg c2]
   by_cases c3 : o.f0 = 3
   ·
    rw [if_pos c3]; omega
   ·
    rw [if_neg c3]; omega
  ·
   rw [if_pos k1, if_pos k1]
   omega
theorem lens14_from (rest : List S70) : ∀ (pre : List S70) (x4 x5 : Int), (pre ++ rest).length ≤ 9223372036854775807 → 0 ≤ x4 → 0 ≤ x5 → x4 + fromOf rest ≤ 1000000000 → x5 + toOf rest ≤ 1000000000 → (∀ o ∈ rest, opOk o = true) →
  Ev (fun k => galleyref14_lens.l0 k (pre ++ rest) x4 x5 (pre.length : Int)) (x4 + fromOf rest, x5 + toOf rest) := by
 induction rest with
 | nil =>
  intro pre x4 x5 hl h4 h5 h6 h7 hp
  refine Ev.step (f := fun _ => some (x4 + fromOf [], x5 + toOf [])) (fun k => ?_) (Ev.now _)
  rw [galleyref14_lens.l0, if_neg (by simp)]
  simp [fromOf, toOf]
 | cons o rest ih =>
  intro pre x4 x5 hl h4 h5 h6 h7 hp
  have hrd := rd_at pre o rest
  have hge : (0 : Int) ≤ (pre.length : Int) := Int.natCast_nonneg _
  have hlt : (pre.length : Int) < ((pre ++ o :: rest).length : Int) := by simp; omega
  have ho := opOk_cases (hp o List.mem_cons_self)
  have hpr : ∀ x ∈ rest, opOk x = true := fun x hx => hp x (List.mem_cons_of_mem _ hx)
  have hf := fromOf_nonneg (d := rest) (fun x hx => kindOk_posN (opOk_kindOk (hpr x hx)))
  have ht := toOf_nonneg (d := rest) (fun x hx => kindOk_posN (opOk_kindOk (hpr x hx)))
  have hw := wrap_succ (i := pre.length) (n := (pre ++ o :: rest).length) (by simp) hl
  have hih := fun y2 y3 => ih (pre ++ [o]) y2 y3 (by simpa using hl)
  simp only [List.append_assoc, List.singleton_append] at hih
  have hpl : ((pre ++ [o]).length : Int) = ((pre.length + 1 : Nat) : Int) := by simp
  rw [hpl] at hih
  rw [fromOf_cons] at h6
  rw [toOf_cons] at h7
  rw [fromOf_cons, toOf_cons]
  rcases ho with ⟨k1, k2, k3⟩ | ⟨k1, k2, k3⟩
  ·
   rw [if_neg (by omega)] at h6 h7
   rw [if_neg (by omega), if_neg (by omega)]
   rcases k1 with k1 | k1
   ·
    rw [if_neg (by omega)] at h7
    rw [if_neg (by omega)]
    refine Ev.step (fun k => by rw [galleyref14_lens.l0, if_pos hlt, if_pos hge, hrd, if_pos k1]) ?_
    refine Ev.step (fun k => by rw [galleyref14_lens.j1, if_pos rfl, if_pos hge, if_pos hlt, hrd, if_pos k1, hw, k3, noText_size, wrap_in (x := x4 + o.f1) (by omega) (by omega), wrap_in (x := x5 + o.f1) (by omega) (by omega), wrap_in (by omega) (by omega)]) ?_
    rw [← Int.add_assoc, ← Int.add_assoc]
    have := hih (x4 + o.f1) (x5 + o.f1 + ((0 : Nat) : Int)) (by omega) (by omega) (by omega) (by omega) hpr
    simpa using this
   ·
    rw [if_pos k1] at h7
    rw [if_pos k1]
    refine Ev.step (fun k => by rw [galleyref14_lens.l0, if_pos hlt, if_pos hge, hrd, if_neg (by omega), show (o.f0 == 3) = true from beq_iff_eq.mpr k1]) ?_
    refine Ev.step (fun k => by rw [galleyref14_lens.j1, if_pos rfl, if_pos hge, if_pos hlt, hrd, if_neg (by omega), hw, k3, noText_size, wrap_in (x := x4 + o.f1) (by omega) (by omega), wrap_in (by omega) (by omega)]) ?_
    rw [← Int.add_assoc, Int.zero_add]
    have := hih (x4 + o.f1) (x5 + ((0 : Nat) : Int)) (by omega) (by omega) (by omega) (by omega) hpr
    simpa using this
  ·
   rw [if_pos k1] at h6 h7
   rw [if_pos k1, if_pos k1]
   refine Ev.step (fun k => by rw [galleyref14_lens.l0, if_pos hlt, if_pos hge, hrd, if_neg (by omega), show (o.f0 == 3) = false from beq_eq_false_iff_ne.mpr (by omega)]) ?_
   refine Ev.step (fun k => by rw [galleyref14_lens.j1, if_neg (by decide), if_pos hge, if_pos hlt, hrd, if_neg (by omega), hw, wrap_in (by omega) (by omega)]) ?_
   rw [Int.zero_add, ← Int.add_assoc]
   exact hih x4 (x5 + (o.f2.size : Int)) (by omega) (by omega) (by omega) (by omega) hpr
theorem lens14_ev {d : List S70} (hl : d.length ≤ 9223372036854775807) (hok : ∀ o ∈ d, opOk o = true) (h1 : fromOf d ≤ 1000000000) (h2 : toOf d ≤ 1000000000) : Ev (fun k => galleyref14_lens.f k d) (fromOf d, toOf d) := by
 have := lens14_from d [] 0 0 (by simpa using hl) (by omega) (by omega) (by omega) (by omega) hok
 simpa [galleyref14_lens.f] using this
theorem valid14_from (rest : List S70) : ∀ (pre : List S70), (pre ++ rest).length ≤ 9223372036854775807 → (∀ o ∈ pre, opOk o = true) → fromOf pre ≤ 268435456 → txts (pre ++ rest) ≤ 300000000 →
  Ev (fun k => galleyref14_Valid.l0 k (pre ++ rest) (fromOf pre) (pre.length : Int)) (chainP pre.getLast? rest && (decide (fromOf (pre ++ rest) ≤ 268435456) && decide (toOf (pre ++ rest) ≤ 268435456))) := by
 induction rest with
 | nil =>
  intro pre hl hok hf ht
  rw [List.append_nil] at hl ht ⊢
  have hto := toOf_txts hok
  have hch : chainP pre.getLast? [] = true := by cases pre.getLast? <;> rfl
  rw [hch, Bool.true_and, decide_eq_true hf, Bool.true_and]
  refine Ev.step (fun k => by rw [galleyref14_Valid.l0, if_neg (by simp)]) ?_
  refine Ev.bind (lens14_ev hl hok (by omega) (by omega)) ?_
  refine Ev.congr (fun k => by rw [if_pos hf]) ?_
  exact Ev.now _
 | cons o rest ih =>
  intro pre hl hok hf ht
  have hrd := rd_at pre o rest
  have hge : (0 : Int) ≤ (pre.length : Int) := Int.natCast_nonneg _
  have hlt : (pre.length : Int) < ((pre ++ o :: rest).length : Int) := by simp; omega
  have hw := wrap_succ (i := pre.length) (n := (pre ++ o :: rest).length) (by simp) hl
  have hf0 := fromOf_nonneg (d := pre) (fun x hx => kindOk_posN (opOk_kindOk (hok x hx)))
  have hpl : ((pre ++ [o]).length : Int) = ((pre.length + 1 : Nat) : Int) := by simp
  have hbad : ∀ b : Bool, b = false → Ev (fun k => (some false : Option Bool)) b := by rintro b rfl; exact Ev.now _
  have hcP : chainP pre.getLast? (o :: rest) = (pvOk pre.getLast? o && (opOk o && chainP (some o) rest)) ∨ chainP pre.getLast? (o :: rest) = (opOk o && pvOk pre.getLast? o && chainP (some o) rest) := by
   right
   rfl
  have hcE : chainP pre.getLast? (o :: rest) = (opOk o && pvOk pre.getLast? o && chainP (some o) rest) := rfl
  have hgo : opOk o = true → ∀ (J : Nat → Option Bool), (∀ k, J (k + 1) = if fromOf pre + (if o.f0 = 2 then 0 else o.f1) > 268435456 then some false else if (pre.length : Int) > 0 then (if 0 ≤ wrap64 ((pre.length : Int) - 1) then (if wrap64 ((pre.length : Int) - 1) < ((pre ++ o :: rest).length : Int) then (if (rd_T70 (pre ++ o :: rest) (wrap64 ((pre.length : Int) - 1))).f0 = o.f0 then some false else (if (rd_T70 (pre ++ o :: rest) (wrap64 ((pre.length : Int) - 1))).f0 = 3 then (if o.f0 = 2 then some false else galleyref14_Valid.l0 k (pre ++ o :: rest) (fromOf pre + (if o.f0 = 2 then 0 else o.f1)) ((pre.length + 1 : Nat) : Int)) else galleyref14_Valid.l0 k (pre ++ o :: rest) (fromOf pre + (if o.f0 = 2 then 0 else o.f1)) ((pre.length + 1 : Nat) : Int))) else none) else none) else galleyref14_Valid.l0 k (pre ++ o :: rest) (fromOf pre + (if o.f0 = 2 then 0 else o.f1)) ((pre.length + 1 : Nat) : Int)) →
    Ev J (chainP pre.getLast? (o :: rest) && (decide (fromOf (pre ++ o :: rest) ≤ 268435456) && decide (toOf (pre ++ o :: rest) ≤ 268435456))) := by
   intro hok1 J hJ
   have hfa : fromOf (pre ++ o :: rest) = fromOf pre + (if o.f0 = 2 then 0 else o.f1) + fromOf rest := by
    rw [fromOf_append, fromOf_cons, Int.add_assoc]
   have hpo := kindOk_posN (opOk_kindOk hok1)
   by_cases hbig : fromOf pre + (if o.f0 = 2 then 0 else o.f1) > 268435456
   ·
    refine Ev.step (f := fun _ => some false) (fun k => by rw [hJ, if_pos hbig]) ?_
    refine hbad _ ?_
    cases hc : chainP (some o) rest with
    | false => rw [hcE, hc, Bool.and_false, Bool.false_and]
    | true =>
     have := fromOf_nonneg (chainP_posN hc)
     rw [decide_eq_false (by omega), Bool.false_and, Bool.and_false]
   ·
    have hih := ih (pre ++ [o]) (by simpa using hl) (by
     intro x hx
     rcases List.mem_append.1 hx with hx | hx
     ·
      exact hok x hx
     ·
      rw [List.mem_singleton.1 hx]; exact hok1) (by rw [fromOf_append, fromOf_cons]; simp only [fromOf]; omega) (by simpa using ht)
    simp only [List.append_assoc, List.singleton_append, List.getLast?_append, List.getLast?_singleton, Option.some_or] at hih
    rw [hpl] at hih
    have hfp : fromOf (pre ++ [o]) = fromOf pre + (if o.f0 = 2 then 0 else o.f1) := by rw [fromOf_append, fromOf_cons]; simp only [fromOf]; omega
    rw [hfp] at hih
    rw [hcE, hok1, Bool.true_and]
    rcases List.eq_nil_or_concat pre with rfl | ⟨init, q, hcc⟩
    ·
     refine Ev.step (fun k => by rw [hJ, if_neg hbig, if_neg (by simp)]) ?_
     have hpv : pvOk ([] : List S70).getLast? o = true := rfl
     rw [hpv, Bool.true_and]
     exact hih
    ·
     rw [List.concat_eq_append] at hcc
     subst hcc
     have hq : rd_T70 (init ++ [q] ++ o :: rest) ((init.length : Nat) : Int) = q := by
      have := rd_at init q (o :: rest)
      simpa using this
     have hwp : wrap64 (((init ++ [q]).length : Int) - 1) = (init.length : Int) := by
      rw [List.length_append, List.length_singleton]
      rw [List.length_append, List.length_append, List.length_singleton] at hl
      unfold wrap64
      omega
     have hpos : ((init ++ [q]).length : Int) > 0 := by rw [List.length_append, List.length_singleton]; omega
     have hlq : (init.length : Int) < ((init ++ [q] ++ o :: rest).length : Int) := by simp; omega
     have hgl : (init ++ [q]).getLast? = some q := by simp
     rw [hgl]
     have hj : ∀ k, J (k + 1) = if q.f0 = o.f0 then some false else if q.f0 = 3 then (if o.f0 = 2 then some false else galleyref14_Valid.l0 k (init ++ [q] ++ o :: rest) (fromOf (init ++ [q]) + (if o.f0 = 2 then 0 else o.f1)) (((init ++ [q]).length + 1 : Nat) : Int)) else galleyref14_Valid.l0 k (init ++ [q] ++ o :: rest) (fromOf (init ++ [q]) + (if o.f0 = 2 then 0 else o.f1)) (((init ++ [q]).length + 1 : Nat) : Int) := fun k => by
      rw [hJ, if_neg hbig, if_pos hpos, hwp, if_pos (Int.natCast_nonneg _), if_pos hlq, hq]
     by_cases d1 : q.f0 = o.f0
     ·
      refine Ev.step (f := fun _ => some false) (fun k => by rw [hj, if_pos d1]) (hbad _ ?_)
      have hpv : pvOk (some q) o = false := by
       show (q.f0 != o.f0 && !(q.f0 == 3 && o.f0 == 2)) = false
       rw [bne_eq_false_iff_eq.mpr d1, Bool.false_and]
      rw [hpv, Bool.false_and, Bool.false_and]
     ·
      by_cases d2 : o.f0 = 2 ∧ q.f0 = 3
      ·
       refine Ev.step (f := fun _ => some false) (fun k => by rw [hj, if_neg d1, if_pos d2.2, if_pos d2.1]) (hbad _ ?_)
       have hpv : pvOk (some q) o = false := by
        show (q.f0 != o.f0 && !(q.f0 == 3 && o.f0 == 2)) = false
        rw [beq_iff_eq.mpr d2.1, beq_iff_eq.mpr d2.2, Bool.and_self, Bool.not_true, Bool.and_false]
       rw [hpv, Bool.false_and, Bool.false_and]
      ·
       have hpv : pvOk (some q) o = true := by
        show (q.f0 != o.f0 && !(q.f0 == 3 && o.f0 == 2)) = true
        rw [bne_iff_ne.mpr d1, Bool.true_and]
        cases h3 : (q.f0 == 3 && o.f0 == 2) with
        | false => rfl
        | true =>
         rw [Bool.and_eq_true, beq_iff_eq, beq_iff_eq] at h3
         exact absurd ⟨h3.2, h3.1⟩ d2
       rw [hpv, Bool.true_and]
       refine Ev.step (fun k => ?_) hih
       rw [hj, if_neg d1]
       by_cases d3 : q.f0 = 3
       ·
        rw [if_pos d3, if_neg (fun e => d2 ⟨e, d3⟩)]
       ·
        rw [if_neg d3]
  have hno : opOk o = false → chainP pre.getLast? (o :: rest) = false := by
   intro h
   rw [hcE, h, Bool.false_and, Bool.false_and]
  by_cases c13 : o.f0 = 1 ∨ o.f0 = 3
  ·
   refine Ev.step (f := fun k => galleyref14_Valid.j1 k (pre ++ o :: rest) (fromOf pre) (pre.length : Int) o.f0 true o.f0 o.f1 o.f2) (fun k => ?_) ?_
   ·
    rw [galleyref14_Valid.l0, if_pos hlt, if_pos hge, hrd]
    by_cases c1 : o.f0 = 1
    ·
     rw [if_pos c1, show (o.f0 == 1) = true from beq_iff_eq.mpr c1]
    ·
     rw [if_neg c1, show (o.f0 == 3) = true from beq_iff_eq.mpr (by omega)]
   by_cases hn : o.f1 < 1 ∨ o.f1 > 268435456 ∨ o.f2.size ≠ 0
   ·
    refine Ev.step (f := fun k => galleyref14_Valid.j2 k (pre ++ o :: rest) (fromOf pre) (pre.length : Int) true o.f0 o.f1 o.f2) (fun k => ?_) (Ev.step (f := fun _ => some false) (fun k => by rw [galleyref14_Valid.j2, if_pos rfl]) (hbad _ ?_))
    ·
     rw [galleyref14_Valid.j1, if_pos rfl]
     by_cases e1 : o.f1 < 1
     ·
      rw [if_pos e1]
     ·
      by_cases e2 : o.f1 > 268435456
      ·
       rw [if_neg e1, if_pos e2]
      ·
       rw [if_neg e1, if_neg e2, toList_size']
       have : o.f2.size ≠ 0 := by omega
       rw [beq_eq_false_iff_ne.mpr this]
       rfl
    ·
     cases hok1 : opOk o with
     | false => rw [hno hok1, Bool.false_and]
     | true =>
      rcases opOk_cases hok1 with ⟨k1, k2, k3⟩ | ⟨k1, k2, k3⟩
      ·
       rw [k3, noText_size] at hn
       have hbig : o.f1 > 268435456 := by omega
       cases hc : chainP (some o) rest with
       | false => rw [hcE, hc, Bool.and_false, Bool.false_and]
       | true =>
        have := fromOf_nonneg (chainP_posN hc)
        have hfa : fromOf (pre ++ o :: rest) = fromOf pre + o.f1 + fromOf rest := by
         rw [fromOf_append, fromOf_cons, if_neg (by omega), Int.add_assoc]
        rw [decide_eq_false (by omega), Bool.false_and, Bool.and_false]
      ·
       omega
   ·
    have hok1 : opOk o = true := by
     simp only [opOk, Bool.or_eq_true, Bool.and_eq_true, beq_iff_eq, decide_eq_true_eq]
     exact .inl ⟨⟨c13, by omega⟩, by omega⟩
    refine Ev.step (f := fun k => galleyref14_Valid.j2 k (pre ++ o :: rest) (fromOf pre) (pre.length : Int) false o.f0 o.f1 o.f2) (fun k => ?_) ?_
    ·
     rw [galleyref14_Valid.j1, if_pos rfl, if_neg (by omega), if_neg (by omega), toList_size', beq_iff_eq.mpr (show o.f2.size = 0 by omega)]
     rfl
    ·
     refine hgo hok1 _ (fun k => ?_)
     have c2 : ¬ o.f0 = 2 := by omega
     rw [galleyref14_Valid.j2, if_neg (by decide), wrap_in (x := fromOf pre + o.f1) (by omega) (by omega), hw]
     simp only [if_neg c2]
  ·
   refine Ev.step (f := fun k => galleyref14_Valid.j1 k (pre ++ o :: rest) (fromOf pre) (pre.length : Int) o.f0 false o.f0 o.f1 o.f2) (fun k => ?_) ?_
   ·
    rw [galleyref14_Valid.l0, if_pos hlt, if_pos hge, hrd, if_neg (by omega), show (o.f0 == 3) = false from beq_eq_false_iff_ne.mpr (by omega)]
   by_cases c2 : o.f0 = 2
   ·
    by_cases hg : o.f1 = 0 ∧ o.f2.size ≠ 0
    ·
     have hok1 : opOk o = true := by
      simp only [opOk, Bool.or_eq_true, Bool.and_eq_true, beq_iff_eq, decide_eq_true_eq, bne_iff_ne]
      exact .inr ⟨⟨c2, hg.1⟩, hg.2⟩
     refine Ev.step (f := fun k => galleyref14_Valid.j3 k (pre ++ o :: rest) (fromOf pre) (pre.length : Int) false o.f0 o.f1 o.f2) (fun k => ?_) ?_
     ·
      rw [galleyref14_Valid.j1, if_neg (by decide), if_pos c2, if_pos hg.1, toList_size, beq_eq_false_iff_ne.mpr hg.2]
     ·
      refine hgo hok1 _ (fun k => ?_)
      rw [galleyref14_Valid.j3, if_neg (by decide), hw]
      simp only [if_pos c2, Int.add_zero]
    ·
     refine Ev.step (f := fun k => galleyref14_Valid.j3 k (pre ++ o :: rest) (fromOf pre) (pre.length : Int) true o.f0 o.f1 o.f2) (fun k => ?_) (Ev.step (f := fun _ => some false) (fun k => by rw [galleyref14_Valid.j3, if_pos rfl]) (hbad _ ?_))
     ·
      rw [galleyref14_Valid.j1, if_neg (by decide), if_pos c2]
      by_cases e1 : o.f1 = 0
      ·
       rw [if_pos e1, toList_size, beq_iff_eq.mpr (show o.f2.size = 0 from by
        by_cases h : o.f2.size = 0
        ·
         exact h
        ·
         exact absurd ⟨e1, h⟩ hg)]
      ·
       rw [if_neg e1]
     ·
      have hok1 : opOk o = false := by
       cases h : opOk o with
       | false => rfl
       | true =>
        rcases opOk_cases h with ⟨k1, k2, k3⟩ | ⟨k1, k2, k3⟩
        ·
         omega
        ·
         exact absurd ⟨k2, by omega⟩ hg
      rw [hno hok1, Bool.false_and]
   ·
    refine Ev.step (f := fun _ => some false) (fun k => by rw [galleyref14_Valid.j1, if_neg (by decide), if_neg c2]) (hbad _ ?_)
    have hok1 : opOk o = false := by
     cases h : opOk o with
     | false => rfl
     | true => rcases opOk_cases h with ⟨k1, k2, k3⟩ | ⟨k1, k2, k3⟩ <;> omega
    rw [hno hok1, Bool.false_and]
theorem valid14_ev (d : List S70) (hl : d.length ≤ 9223372036854775807) (ht : txts d ≤ 300000000) : Ev (fun k => galleyref14_Valid.f k d) (canB d) := by
 have := valid14_from d [] (by simpa using hl) (by simp) (by simp [fromOf]) (by simpa using ht)
 have he : (chainP ([] : List S70).getLast? d && (decide (fromOf d ≤ 268435456) && decide (toOf d ≤ 268435456))) = canB d := by
  show (chainP none d && _) = _
  rw [chainP_none, canB, Bool.and_assoc]
 simp only [List.nil_append] at this
 rw [he] at this
 exact this
end Go.Proofs.Ytidihnnkcmeaeaa.A
