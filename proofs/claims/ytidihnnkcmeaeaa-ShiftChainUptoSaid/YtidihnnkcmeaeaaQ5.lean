/- Over and Compose meet: what they do, and that both orders make one delta. Plain lists. No condition but sizes. -/
import Derived.Test.YtidihnnkcmeaeaaQ3
import Derived.Test.YtidihnnkcmeaeaaQ4
import Derived.Test.YtidihnnkcmeaeaaMG4
import Derived.Test.YtidihnnkcmeaeaaECompose
import Derived.Test.YtidihnnkcmeaeaaMG2
namespace Go.Proofs.Ytidihnnkcmeaeaa.A
open Go.RowKit Go.Proofs.YtidihnnkcmeaeaaW.PrintWords Go.Proofs.YtidihnnkcmeaeaaW.PrintLast Go.Proofs.YtidihnnkcmeaeaaW.PrintMore
set_option linter.unusedVariables false
set_option linter.unusedSimpArgs false
theorem same14_go : ∀ (rest pre : List S70), (pre ++ rest).length ≤ 9223372036854775807 → Ev (fun k => galleyref14_Same.l0 k (pre ++ rest) (pre ++ rest) (pre.length : Int)) true
 | [], pre, hl => by
  refine Ev.step (f := fun _ => some true) (fun k => ?_) (Ev.now _)
  rw [galleyref14_Same.l0, if_neg (by simp)]
 | o :: rest, pre, hl => by
  have hlt : (pre.length : Int) < ((pre ++ o :: rest).length : Int) := by simp; omega
  have hw := wrap_succ (i := pre.length) (n := (pre ++ o :: rest).length) (by simp) hl
  have hih := same14_go rest (pre ++ [o]) (by simpa using hl)
  simp only [List.append_assoc, List.singleton_append] at hih
  have hpl : ((pre ++ [o]).length : Int) = ((pre.length + 1 : Nat) : Int) := by simp
  rw [hpl] at hih
  refine Ev.step (fun k => by rw [galleyref14_Same.l0, if_pos hlt, if_pos (Int.natCast_nonneg _), if_pos hlt, if_neg (by simp), hw]) ?_
  exact hih
theorem same14_one (d : List S70) (hl : d.length ≤ 9223372036854775807) : Ev (fun k => galleyref14_Same.f k d d) true := by
 refine Ev.congr (fun k => by rw [galleyref14_Same.f, if_pos rfl]) ?_
 have := same14_go d [] (by simpa using hl)
 simpa using this
theorem over_res (a b : List S70) (first : Bool) : ∃ r e, shift_Over.f a b first = some (r, e) ∧ (e ≠ 0 ∧ r = [] ∨ e = 0 ∧ canB a = true ∧ canB b = true ∧ fromOf a = fromOf b ∧ canB r = true ∧ fromOf r = toOf a ∧ Eqv r (overOps first (a.length + b.length + 1) a 0 b 0)) := by
 unfold shift_Over.f
 cases hca : canB a with
 | false => exact ⟨[], 130, by rw [Bool.false_and, if_neg (by decide)], .inl ⟨by decide, rfl⟩⟩
 | true =>
  cases hcb : canB b with
  | false => exact ⟨[], 130, by rw [Bool.and_false, if_neg (by decide)], .inl ⟨by decide, rfl⟩⟩
  | true =>
   by_cases hf : fromOf a = fromOf b
   ·
    rw [Bool.and_self, if_pos rfl, if_pos hf]
    have oka := chainOk_opOk (canB_lens hca).1
    have okb := chainOk_opOk (canB_lens hcb).1
    obtain ⟨o1, o2⟩ := over_from first (a.length + b.length + 1) a b 0 0 oka okb ⟨Int.le_refl 0, .inl rfl⟩ ⟨Int.le_refl 0, .inl rfl⟩ (by rw [cutH_zero, cutH_zero]; exact hf) (by omega)
    rw [cutH_zero] at o1
    obtain ⟨c1, c2⟩ := canon_sem o2
    unfold delta_Canon.f
    rw [if_pos (List.all_eq_true.mpr o2)]
    by_cases hs : fromOf (overOps first (a.length + b.length + 1) a 0 b 0) ≤ 268435456 ∧ toOf (overOps first (a.length + b.length + 1) a 0 b 0) ≤ 268435456
    ·
     rw [if_pos hs]
     refine ⟨_, 0, rfl, .inr ⟨rfl, rfl, rfl, hf, ?_, by rw [c2.from_, o1], c2⟩⟩
     simp only [canB, Bool.and_eq_true, decide_eq_true_eq]
     exact ⟨⟨c1, by rw [c2.from_]; exact hs.1⟩, by rw [c2.tto]; exact hs.2⟩
    ·
     rw [if_neg hs]
     exact ⟨[], 5, rfl, .inl ⟨by decide, rfl⟩⟩
   ·
    rw [Bool.and_self, if_pos rfl, if_neg hf]
    exact ⟨[], 131, rfl, .inl ⟨by decide, rfl⟩⟩
theorem comp_eqv {a y : List S70} (ha : canB a = true) (hy : canB y = true) (hf : fromOf y = toOf a) : chainOk (canon (compOps a y)) = true ∧ fromOf (canon (compOps a y)) = fromOf a ∧ toOf (canon (compOps a y)) = toOf y ∧
  (∀ {α : Type} {g : ByteArray → List α}, Wr g → ∀ xs : List α, fromOf a ≤ (xs.length : Int) → ap g (canon (compOps a y)) xs = ap g y (ap g a xs)) := by
 have oka := chainOk_opOk (canB_lens ha).1
 have oky := chainOk_opOk (canB_lens hy).1
 have hsa := canB_small ha
 have hfa := fromOf_nonneg (d := a) (fun o ho => kindOk_posN (opOk_kindOk (oka o ho)))
 obtain ⟨n, hn⟩ : ∃ n : Nat, fromOf a = (n : Int) := ⟨(fromOf a).toNat, by omega⟩
 obtain ⟨s1, s2, s3⟩ := comp_sem wr_gs y a (tk 0 n) oka oky hsa hf (by rw [tk_len]; omega)
 obtain ⟨c1, c2⟩ := canon_sem s3
 have hsem : ∀ {α : Type} {g : ByteArray → List α}, Wr g → ∀ xs : List α, fromOf a ≤ (xs.length : Int) → ap g (canon (compOps a y)) xs = ap g y (ap g a xs) := by
  intro α g hg xs hx
  rw [c2.sem hg xs (by rw [c2.from_, s2]; exact hx)]
  exact (comp_sem hg y a xs oka oky hsa hf hx).1
 refine ⟨c1, by rw [c2.from_, s2], ?_, hsem⟩
 have h1 := hsem wr_gs (tk 0 n) (by rw [tk_len]; omega)
 have h2 := ap_len wr_gs (canon (compOps a y)) (tk 0 n) (okc c1) (by rw [tk_len, c2.from_, s2]; omega)
 have h3 := ap_len wr_gs a (tk 0 n) (okc (canB_lens ha).1) (by rw [tk_len]; omega)
 have h4 := ap_len wr_gs y (ap gs a (tk 0 n)) (okc (canB_lens hy).1) (by rw [h3]; omega)
 rw [h1] at h2
 rw [← h2, h4]
theorem meet_one {a b x y : List S70} (ha : canB a = true) (hb : canB b = true) (hf : fromOf a = fromOf b) (hx : canB x = true) (hy : canB y = true) (hfy : fromOf y = toOf a) (hfx : fromOf x = toOf b)
  (ey : Eqv y (overOps false (a.length + b.length + 1) a 0 b 0)) (ex : Eqv x (overOps true (b.length + a.length + 1) b 0 a 0)) :
  (∀ {α : Type} {g : ByteArray → List α}, Wr g → ∀ xs : List α, fromOf a ≤ (xs.length : Int) → ap g y (ap g a xs) = ap g x (ap g b xs)) ∧ canon (compOps a y) = canon (compOps b x) := by
 have oka := chainOk_opOk (canB_lens ha).1
 have okb := chainOk_opOk (canB_lens hb).1
 have hmeet : ∀ {α : Type} {g : ByteArray → List α}, Wr g → ∀ xs : List α, fromOf a ≤ (xs.length : Int) → ap g y (ap g a xs) = ap g x (ap g b xs) := by
  intro α g hg xs hxs
  have h3 := ap_len hg a xs (okc (canB_lens ha).1) hxs
  have h4 := ap_len hg b xs (okc (canB_lens hb).1) (by omega)
  rw [ey.sem hg _ (by rw [h3]; omega), ex.sem hg _ (by rw [h4]; omega)]
  have := over_meet hg (a.length + b.length + 1) a b 0 0 xs oka okb ⟨Int.le_refl 0, .inl rfl⟩ ⟨Int.le_refl 0, .inl rfl⟩ (by rw [cutH_zero]; exact hxs) (by rw [cutH_zero]; omega)
  rw [cutH_zero, cutH_zero] at this
  rw [this, Nat.add_comm a.length b.length]
 refine ⟨hmeet, ?_⟩
 obtain ⟨p1, p2, p3, p4⟩ := comp_eqv ha hy hfy
 obtain ⟨q1, q2, q3, q4⟩ := comp_eqv hb hx hfx
 have hfa := fromOf_nonneg (d := a) (fun o ho => kindOk_posN (opOk_kindOk (oka o ho)))
 obtain ⟨n, hn⟩ : ∃ n : Nat, fromOf a = (n : Int) := ⟨(fromOf a).toNat, by omega⟩
 refine uniq _ _ 0 n p1 q1 (by rw [p2, hn]) (by rw [q2, ← hf, hn]) ?_
 rw [p4 wr_gs (tk 0 n) (by rw [tk_len]; omega), q4 wr_gs (tk 0 n) (by rw [tk_len]; omega)]
 exact hmeet wr_gs (tk 0 n) (by rw [tk_len]; omega)
end Go.Proofs.Ytidihnnkcmeaeaa.A
