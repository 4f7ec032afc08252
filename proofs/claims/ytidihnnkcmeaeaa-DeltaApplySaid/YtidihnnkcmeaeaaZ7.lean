/- DeltaApply in plain words: it answers true. Plain lists. No condition but sizes that fit into memory. -/
import Derived.Test.YtidihnnkcmeaeaaZa
import Derived.Test.YtidihnnkcmeaeaaA13
namespace Go.Proofs.Ytidihnnkcmeaeaa.A
open Go.RowKit Go.Proofs.YtidihnnkcmeaeaaW.PrintWords Go.Proofs.YtidihnnkcmeaeaaW.PrintLast Go.Proofs.YtidihnnkcmeaeaaW.PrintMore
set_option linter.unusedVariables false
set_option linter.unusedSimpArgs false

/-- what lies between two places -/
theorem cut_mid (xs : List Int) (at_ : Nat) (n : Int) (h : 0 ≤ n) (h2 : (at_ : Int) + n ≤ (xs.length : Int)) : wrap64 ((at_ : Int) + n) = ((at_ + n.toNat : Nat) : Int) ∨ ¬ (at_ : Int) + n ≤ 9223372036854775807 := by
  by_cases h3 : (at_ : Int) + n ≤ 9223372036854775807
  · left
    unfold wrap64
    omega
  · exact .inr h3
theorem take_drop_mid (xs : List Int) (at_ m : Nat) : (xs.take (at_ + m)).drop at_ = (xs.drop at_).take m := by
  rw [List.drop_take, Nat.add_sub_cancel_left]
theorem refApply_from (l0 : List Int) (hl0 : l0.length < 140737488355328) (rest : List S70) : ∀ (pre : List S70) (x5 : List Int) (at_ : Nat), (pre ++ rest).length ≤ 9223372036854775807 → (at_ : Int) + fromOf rest ≤ (l0.length : Int) → (x5.length : Int) + toOf rest ≤ 268435456 → (∀ o ∈ rest, kindOk o = true) →
    Ev (fun k => galleyref13_Apply.l0 k l0 (pre ++ rest) x5 (at_ : Int) (pre.length : Int)) (x5 ++ ap bytesOf rest (l0.drop at_)) := by
  induction rest with
  | nil =>
    intro pre x5 at_ hl hf ht hp
    refine Ev.step (f := fun _ => some (x5 ++ ap bytesOf [] (l0.drop at_))) (fun k => ?_) (Ev.now _)
    rw [galleyref13_Apply.l0, if_neg (by simp)]
    simp [ap]
  | cons o rest ih =>
    intro pre x5 at_ hl hf ht hp
    have hrd := rd_at pre o rest
    have hlt : (pre.length : Int) < ((pre ++ o :: rest).length : Int) := by simp; omega
    have hko := hp o List.mem_cons_self
    have hpo := kindOk_posN hko
    have hpr : ∀ x ∈ rest, kindOk x = true := fun x hx => hp x (List.mem_cons_of_mem _ hx)
    have hfn := fromOf_nonneg (d := rest) (fun x hx => kindOk_posN (hpr x hx))
    have htn := toOf_nonneg (d := rest) (fun x hx => kindOk_posN (hpr x hx))
    have hw := wrap_succ (i := pre.length) (n := (pre ++ o :: rest).length) (by simp) hl
    have hih := fun y2 y3 => ih (pre ++ [o]) y2 y3 (by simpa using hl)
    simp only [List.append_assoc, List.singleton_append] at hih
    have hpl : ((pre ++ [o]).length : Int) = ((pre.length + 1 : Nat) : Int) := by simp
    rw [hpl] at hih
    rw [fromOf_cons] at hf
    rw [toOf_cons] at ht
    by_cases c2 : o.f0 = 2
    · rw [if_pos c2] at hf ht
      have hap : ap bytesOf (o :: rest) (l0.drop at_) = bytesOf o.f2 ++ ap bytesOf rest (l0.drop at_) := by rw [ap, if_pos c2]
      rw [hap]
      refine Ev.step (fun k => by rw [galleyref13_Apply.l0, if_pos hlt, if_pos (by omega), hrd, hw, if_neg (by omega), if_neg (by omega), if_pos (by omega)]) ?_
      have := hih (x5 ++ bytesOf o.f2) at_ (by omega) (by rw [List.length_append, bytesOf_length]; omega) hpr
      rwa [List.append_assoc] at this
    · have hn := hpo c2
      rw [if_neg c2] at hf ht
      have hwn : wrap64 ((at_ : Int) + o.f1) = ((at_ + o.f1.toNat : Nat) : Int) := by unfold wrap64; omega
      have hdd : (l0.drop at_).drop o.f1.toNat = l0.drop (at_ + o.f1.toNat) := by rw [List.drop_drop]
      by_cases c3 : o.f0 = 3
      · rw [if_pos c3] at ht
        have hap : ap bytesOf (o :: rest) (l0.drop at_) = ap bytesOf rest (l0.drop (at_ + o.f1.toNat)) := by rw [ap, if_neg c2, if_neg (by omega), hdd]
        rw [hap]
        refine Ev.step (fun k => by rw [galleyref13_Apply.l0, if_pos hlt, if_pos (by omega), hrd, hw, if_neg (by omega), if_pos c3, hwn]) ?_
        exact hih x5 (at_ + o.f1.toNat) (by omega) (by omega) hpr
      · rw [if_neg c3] at ht
        have c1 : o.f0 = 1 := by
          simp only [kindOk, Bool.and_eq_true, decide_eq_true_eq] at hko
          omega
        have hmid := take_drop_mid l0 at_ o.f1.toNat
        have hap : ap bytesOf (o :: rest) (l0.drop at_) = (l0.drop at_).take o.f1.toNat ++ ap bytesOf rest (l0.drop (at_ + o.f1.toNat)) := by rw [ap, if_neg c2, if_pos c1, hdd]
        rw [hap]
        have hlm : ((l0.drop at_).take o.f1.toNat).length = o.f1.toNat := by rw [List.length_take, List.length_drop]; omega
        refine Ev.step (fun k => by rw [galleyref13_Apply.l0, if_pos hlt, if_pos (by omega), hrd, hw, if_pos c1, hwn, if_pos (by omega), if_pos (by omega), if_pos (by omega), Int.toNat_natCast, Int.toNat_natCast, hmid, if_pos (by omega)]) ?_
        have := hih (x5 ++ (l0.drop at_).take o.f1.toNat) (at_ + o.f1.toNat) (by omega) (by rw [List.length_append, hlm]; omega) hpr
        rwa [List.append_assoc] at this
theorem refApply_ev {l0 : List Int} {d : List S70} (hl0 : l0.length < 140737488355328) (hl : d.length ≤ 9223372036854775807) (h : canB d = true) (hf : fromOf d = (l0.length : Int)) : Ev (fun k => galleyref13_Apply.f k l0 d) (ap bytesOf d l0) := by
  have hc := canB_lens h
  have := refApply_from l0 hl0 d [] [] 0 (by simpa using hl) (by omega) (by simp; omega) (fun o ho => opOk_kindOk (chainOk_opOk hc.1 o ho))
  simpa [galleyref13_Apply.f] using this

theorem refInvert_from (l0 : List Int) (hl0 : l0.length < 140737488355328) (rest : List S70) : ∀ (pre : List S70) (b : Bs) (m : Int) (at_ : Nat), (pre ++ rest).length ≤ 9223372036854775807 → (at_ : Int) + fromOf rest ≤ (l0.length : Int) → 0 ≤ m → m + opws rest ≤ 3000000000 → BW b → BI b m → (∀ o ∈ rest, kindOk o = true) →
    Ev (fun k => galleyref13_Invert.l0 k l0 (pre ++ rest) b.done (at_ : Int) (pre.length : Int)) (rest.foldl invStep (b, l0.drop at_)).1.done := by
  induction rest with
  | nil =>
    intro pre b m at_ hl hf hm0 hm hbw hb hp
    refine Ev.step (f := fun _ => some b.done) (fun k => ?_) (Ev.now _)
    rw [galleyref13_Invert.l0, if_neg (by simp)]
  | cons o rest ih =>
    intro pre b m at_ hl hf hm0 hm hbw hb hp
    have hrd := rd_at pre o rest
    have hlt : (pre.length : Int) < ((pre ++ o :: rest).length : Int) := by simp; omega
    have hko := hp o List.mem_cons_self
    have hpo := kindOk_posN hko
    have hpr : ∀ x ∈ rest, kindOk x = true := fun x hx => hp x (List.mem_cons_of_mem _ hx)
    have hfn := fromOf_nonneg (d := rest) (fun x hx => kindOk_posN (hpr x hx))
    have hon := opws_nonneg (d := rest) (fun x hx => kindOk_posN (hpr x hx))
    have hw := wrap_succ (i := pre.length) (n := (pre ++ o :: rest).length) (by simp) hl
    have hih := fun c m y2 => ih (pre ++ [o]) c m y2 (by simpa using hl)
    simp only [List.append_assoc, List.singleton_append] at hih
    have hpl : ((pre ++ [o]).length : Int) = ((pre.length + 1 : Nat) : Int) := by simp
    rw [hpl] at hih
    rw [fromOf_cons] at hf
    simp only [opws, opw] at hm
    rw [List.foldl_cons]
    have hb3 : BI b 3000000000 := hb.mono (by
      split at hm
      · omega
      · rename_i h2
        have := hpo h2
        omega)
    by_cases c2 : o.f0 = 2
    · rw [if_pos c2] at hf hm
      have hst : invStep (b, l0.drop at_) o = (b.onDrop (o.f2.size : Int), l0.drop at_) := by unfold invStep; rw [if_pos c2]
      rw [hst]
      obtain ⟨g1, g2⟩ := add_drop hbw (n := (o.f2.size : Int)) (by omega) hb3 (by omega)
      refine Ev.step (fun k => by rw [galleyref13_Invert.l0, if_pos hlt, if_pos (by omega), hrd, hw, if_neg (by omega), if_neg (by omega)]) ?_
      refine Ev.bind g2 ?_
      exact hih _ (m + (o.f2.size : Int)) at_ (by omega) (by omega) (by omega) g1 (hb.dropN (by omega)) hpr
    · have hn := hpo c2
      rw [if_neg c2] at hf hm
      have hwn : wrap64 ((at_ : Int) + o.f1) = ((at_ + o.f1.toNat : Nat) : Int) := by unfold wrap64; omega
      have hdd : (l0.drop at_).drop o.f1.toNat = l0.drop (at_ + o.f1.toNat) := by rw [List.drop_drop]
      by_cases c1 : o.f0 = 1
      · have hst : invStep (b, l0.drop at_) o = (b.onKeep o.f1, l0.drop (at_ + o.f1.toNat)) := by unfold invStep; rw [if_neg c2, if_pos c1, hdd]
        rw [hst]
        obtain ⟨g1, g2⟩ := add_keep hbw hn hb3 (by omega)
        refine Ev.step (fun k => by rw [galleyref13_Invert.l0, if_pos hlt, if_pos (by omega), hrd, hw, if_pos c1, hwn]) ?_
        refine Ev.bind g2 ?_
        exact hih _ (m + o.f1) (at_ + o.f1.toNat) (by omega) (by omega) (by omega) g1 (hb.keep hn) hpr
      · have c3 : o.f0 = 3 := by
          simp only [kindOk, Bool.and_eq_true, decide_eq_true_eq] at hko
          omega
        have hmid := take_drop_mid l0 at_ o.f1.toNat
        have hst : invStep (b, l0.drop at_) o = (b.onPut (strOfNums ((l0.drop at_).take o.f1.toNat)), l0.drop (at_ + o.f1.toNat)) := by unfold invStep; rw [if_neg c2, if_neg c1, hdd]
        rw [hst]
        have hlm : ((l0.drop at_).take o.f1.toNat).length = o.f1.toNat := by rw [List.length_take, List.length_drop]; omega
        have hsz : (strOfNums ((l0.drop at_).take o.f1.toNat)).size = o.f1.toNat := by rw [strOfNums_size, hlm]
        obtain ⟨g1, g2⟩ := add_put (s := strOfNums ((l0.drop at_).take o.f1.toNat)) hbw hb3 (by omega)
        refine Ev.step (fun k => by rw [galleyref13_Invert.l0, if_pos hlt, if_pos (by omega), hrd, hw, if_neg c1, if_pos c3, hwn, if_pos (by omega), if_pos (by omega), if_pos (by omega), Int.toNat_natCast, Int.toNat_natCast, hmid]) ?_
        refine Ev.bind g2 ?_
        have := hb.putS (strOfNums ((l0.drop at_).take o.f1.toNat))
        exact hih _ (m + o.f1) (at_ + o.f1.toNat) (by omega) (by omega) (by omega) g1 (this.mono (by omega)) hpr
theorem refInvert_ev {l0 : List Int} {d : List S70} (hl0 : l0.length < 140737488355328) (hl : d.length ≤ 9223372036854775807) (h : canB d = true) (hf : fromOf d = (l0.length : Int)) : Ev (fun k => galleyref13_Invert.f k l0 d) (canon (invOps d l0)) := by
  have hc := canB_lens h
  have hk : ∀ o ∈ d, kindOk o = true := fun o ho => opOk_kindOk (chainOk_opOk hc.1 o ho)
  have hw : opws d ≤ 536870912 := by have := opws_le (fun o ho => kindOk_posN (hk o ho)); omega
  have := refInvert_from l0 hl0 d [] Bs.new 0 0 (by simpa using hl) (by omega) (by omega) (by omega) BW.zero BI.new hk
  rw [invStep_fold] at this
  have hd0 : Bs.new.done = [] := done_zero
  rw [hd0] at this
  simpa [galleyref13_Invert.f, canon] using this
theorem bytes_f {l0 : List Int} (h : l0.length < 140737488355328) : galleylaw13_bytes.f l0 = some l0 := by
  unfold galleylaw13_bytes.f
  rw [Option.bind_some, if_pos (by simpa using h), List.nil_append]
theorem inv_len {l0 : List Int} {d : List S70} (h : canB d = true) (hf : fromOf d = (l0.length : Int)) : (canon (invOps d l0)).length ≤ 9223372036854775807 := by
  have hc := canB_lens h
  have hok := chainOk_opOk hc.1
  have hp : ∀ o ∈ d, posN o := fun o ho => kindOk_posN (opOk_kindOk (hok o ho))
  have h1 := (invAt_len hok hf d.length (Nat.le_refl _)).2
  unfold invAt at h1
  rw [List.take_length, invStep_fold] at h1
  have h2 := h1.len
  have h3 := opws_le hp
  have h4 := done_len ((invOps d l0).foldl Bs.step Bs.new)
  unfold canon
  have h5 : (List.foldl Bs.step (Bs.new, l0).1 (invOps d (Bs.new, l0).2)) = (invOps d l0).foldl Bs.step Bs.new := rfl
  rw [h5] at h2
  omega

theorem deltaApply_law (l0 : List Int) (d : List S70) (hl0 : l0.length < 140737488355328) (hl : d.length < 4398046511104) (hs : ∀ o ∈ d, o.f2.size ≤ 140737488355328) : Ev (fun k => galleylaw13_DeltaApply.f k l0 d) true := by
  have hl' : d.length ≤ 9223372036854775807 := by omega
  have hown := own_f hl
  have hby := bytes_f hl0
  unfold galleylaw13_DeltaApply.f
  refine Ev.bind (a := true) (Ev.now _) ?_
  rw [show (fun n => if true = true then _ else some false) = _ from by funext n; rw [if_pos rfl]]
  refine Ev.bind (a := l0) (by rw [hby]; exact Ev.now _) ?_
  refine Ev.bind (a := d) (by rw [hown]; exact Ev.now _) ?_
  cases hc : canB d with
  | true =>
    by_cases hf : fromOf d = (l0.length : Int)
    · have h1 : delta_Apply.f l0 d = some (ap bytesOf d l0, 0) := by unfold delta_Apply.f; rw [if_pos hc, if_pos hf]
      have h2 : delta_Invert.f l0 d = some (canon (invOps d l0), 0) := by unfold delta_Invert.f; rw [if_pos hc, if_pos hf]
      refine Ev.bind (a := (ap bytesOf d l0, 0)) (by rw [h1]; exact Ev.now _) ?_
      refine Ev.bind (a := l0) (by rw [hby]; exact Ev.now _) ?_
      refine Ev.bind (a := d) (by rw [hown]; exact Ev.now _) ?_
      refine Ev.bind (a := (canon (invOps d l0), 0)) (by rw [h2]; exact Ev.now _) ?_
      refine Ev.bind (refValid_ev d hl' hs) ?_
      rw [hc]
      simp only [if_true]
      refine Ev.bind (refLens_ev hl' hc) ?_
      simp only [hf, if_true]
      refine Ev.step (fun k => by rw [galleylaw13_DeltaApply.j0, if_pos rfl]) ?_
      refine Ev.step (fun k => by rw [galleylaw13_DeltaApply.j1]) ?_
      simp only [show ((0 : Int) != 0) = false by decide, Bool.false_eq_true, if_false, if_true]
      refine Ev.bind (refApply_ev hl0 hl' hc hf) ?_
      simp only [if_true]
      refine Ev.bind (refInvert_ev hl0 hl' hc hf) ?_
      exact Ev.bind (same_self _ (inv_len hc hf)) (Ev.now _)
    · have h1 : delta_Apply.f l0 d = some (([] : List Int), 131) := by unfold delta_Apply.f; rw [if_pos hc, if_neg hf]
      have h2 : delta_Invert.f l0 d = some (([] : List S70), 131) := by unfold delta_Invert.f; rw [if_pos hc, if_neg hf]
      refine Ev.bind (a := (([] : List Int), 131)) (by rw [h1]; exact Ev.now _) ?_
      refine Ev.bind (a := l0) (by rw [hby]; exact Ev.now _) ?_
      refine Ev.bind (a := d) (by rw [hown]; exact Ev.now _) ?_
      refine Ev.bind (a := (([] : List S70), 131)) (by rw [h2]; exact Ev.now _) ?_
      refine Ev.bind (refValid_ev d hl' hs) ?_
      rw [hc]
      simp only [if_true]
      refine Ev.bind (refLens_ev hl' hc) ?_
      simp only [hf, if_false]
      refine Ev.step (fun k => by rw [galleylaw13_DeltaApply.j0, if_pos rfl]) ?_
      refine Ev.step (fun k => by rw [galleylaw13_DeltaApply.j1]) ?_
      exact Ev.now _
  | false =>
    have h1 : delta_Apply.f l0 d = some (([] : List Int), 130) := by unfold delta_Apply.f; rw [if_neg (by rw [hc]; decide)]
    have h2 : delta_Invert.f l0 d = some (([] : List S70), 130) := by unfold delta_Invert.f; rw [if_neg (by rw [hc]; decide)]
    refine Ev.bind (a := (([] : List Int), 130)) (by rw [h1]; exact Ev.now _) ?_
    refine Ev.bind (a := l0) (by rw [hby]; exact Ev.now _) ?_
    refine Ev.bind (a := d) (by rw [hown]; exact Ev.now _) ?_
    refine Ev.bind (a := (([] : List S70), 130)) (by rw [h2]; exact Ev.now _) ?_
    refine Ev.bind (refValid_ev d hl' hs) ?_
    rw [hc]
    simp only [Bool.false_eq_true, if_false]
    refine Ev.step (fun k => by rw [galleylaw13_DeltaApply.j0, if_pos rfl]) ?_
    refine Ev.step (fun k => by rw [galleylaw13_DeltaApply.j1]) ?_
    exact Ev.now _
end Go.Proofs.Ytidihnnkcmeaeaa.A
