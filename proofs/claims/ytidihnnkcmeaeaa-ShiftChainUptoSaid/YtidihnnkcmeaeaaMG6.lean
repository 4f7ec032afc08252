/- Part of a claim: theorems about the program's functions, written by a program over the translation. No condition. ShiftChains in plain words: it answers true. Plain lists. No condition but sizes. -/
import Derived.Test.YtidihnnkcmeaeaaA0
import Derived.Test.YtidihnnkcmeaeaaMG1
import Derived.Test.YtidihnnkcmeaeaaMG4
import Derived.Test.YtidihnnkcmeaeaaA24
import Derived.Test.YtidihnnkcmeaeaaA29
import Derived.Test.YtidihnnkcmeaeaaECompose
import Derived.Test.YtidihnnkcmeaeaaEOver
import Derived.Test.YtidihnnkcmeaeaaQ5
import Derived.Test.YtidihnnkcmeaeaaP8
namespace Go.Proofs.Ytidihnnkcmeaeaa.A
open Go.RowKit Go.Proofs.YtidihnnkcmeaeaaW.PrintWords Go.Proofs.YtidihnnkcmeaeaaW.PrintLast Go.Proofs.YtidihnnkcmeaeaaW.PrintMore
attribute [local go_sem] max2_int min2_int max_two min_two max_three min_three max_four min_four
set_option linter.unusedVariables false
set_option linter.unusedSimpArgs false
def galleylaw14_ShiftChains.l0 : Nat → List (List (S70)) → List (S70) → List (List (S70)) → List (S70) → List (S70) → Int → Int → Option (Bool)
 | 0, _, _, _, _, _, _, _ => none
 | k + 1, x0, x5, x6, x8, x9, x52, x53 => if x53 < x52 then (if x53 > 0 then (if 0 ≤ x53 then (if x53 < (x0.length : Int) then ((delta_Compose.f x8 (rd_L6 x0 x53)).bind fun bt726 => (if bt726.2 = 0 then (if x53 < (x6.length : Int) then ((delta_Compose.f x9 (rd_L6 x6 x53)).bind fun bt731 => (if bt731.2 = 0 then (galleylaw14_ShiftChains.l0 k x0 x5 x6 bt726.1 bt731.1 x52 (wrap64 (x53 + 1))) else (some false))) else (none)) else (some false))) else (none)) else (none)) else (if 0 ≤ x53 then (if x53 < (x6.length : Int) then ((delta_Compose.f x9 (rd_L6 x6 x53)).bind fun bt736 => (if bt736.2 = 0 then (galleylaw14_ShiftChains.l0 k x0 x5 x6 x8 bt736.1 x52 (wrap64 (x53 + 1))) else (some false))) else (none)) else (none))) else ((delta_Compose.f x8 x5).bind fun bt720 => (if bt720.2 = 0 then ((galleyref14_Same.f k bt720.1 x9).bind fun t724 => (some t724)) else (some false)))
def galleylaw14_ShiftChains.f (k : Nat) (l0 : List (List (S70))) (l1 : List (S70)) : Option (Bool) := (galleylaw14_fixed.f k).bind fun t710 => (if t710 = true then ((shift_Chain.f k l0 l1).bind fun bt711 => (if bt711.2.2 = 0 then (if (bt711.2.1.length : Int) = (l0.length : Int) then (if (l0.length : Int) = 0 then ((galleyref14_Same.f k bt711.1 l1).bind fun t718 => (some t718)) else (if 0 < (l0.length : Int) then (galleylaw14_ShiftChains.l0 k l0 bt711.1 bt711.2.1 (rd_L6 l0 0) l1 (l0.length : Int) 0) else (none))) else (some false)) else (if (bt711.1.length : Int) = 0 then (some ((bt711.2.1.length : Int) == 0)) else (some false)))) else (some false))
end Go.Proofs.Ytidihnnkcmeaeaa.A
namespace Go.Proofs.Ytidihnnkcmeaeaa.A
open Go.RowKit Go.Proofs.YtidihnnkcmeaeaaW.PrintWords Go.Proofs.YtidihnnkcmeaeaaW.PrintLast Go.Proofs.YtidihnnkcmeaeaaW.PrintMore
set_option linter.unusedVariables false
set_option linter.unusedSimpArgs false
theorem rd6_at (pre : List (List S70)) (o : List S70) (rest : List (List S70)) : rd_L6 (pre ++ o :: rest) (pre.length : Int) = o := by
 unfold rd_L6
 rw [Int.toNat_natCast, List.getD_eq_getElem?_getD, List.getElem?_append_right (Nat.le_refl _)]
 simp
def fitsFrom : Int → List (List S70) → Bool
 | _, [] => true
 | x, d :: ds => decide (fromOf d = x) && fitsFrom (toOf d) ds
theorem chained_l1 (rest : List (List S70)) : ∀ (pre : List (List S70)) (x : Int), (pre ++ rest).length ≤ 9223372036854775807 → (∀ d ∈ rest, canB d = true ∧ d.length ≤ 9223372036854775807) →
  Ev (fun k => shift_chained.l1 k x (pre ++ rest) ((pre ++ rest).length : Int) (pre.length : Int)) (if fitsFrom x rest = true then 0 else 131) := by
 induction rest with
 | nil =>
  intro pre x hl h
  refine Ev.step (f := fun _ => some 0) (fun k => ?_) (Ev.now _)
  rw [shift_chained.l1, if_neg (by simp)]
 | cons d rest ih =>
  intro pre x hl h
  have hrd := rd6_at pre d rest
  have hge : (0 : Int) ≤ (pre.length : Int) := Int.natCast_nonneg _
  have hlt : (pre.length : Int) < ((pre ++ d :: rest).length : Int) := by simp; omega
  have hw := wrap_succ (i := pre.length) (n := (pre ++ d :: rest).length) (by simp) hl
  have hih := fun x => ih (pre ++ [d]) x (by simpa using hl) (fun y hy => h y (List.mem_cons_of_mem _ hy))
  simp only [List.append_assoc, List.singleton_append] at hih
  have hpl : ((pre ++ [d]).length : Int) = ((pre.length + 1 : Nat) : Int) := by simp
  rw [hpl] at hih
  obtain ⟨hc, hdl⟩ := h d List.mem_cons_self
  refine Ev.step (fun k => by rw [shift_chained.l1, if_pos hlt, if_pos hge, if_pos hlt, hrd, hw]) ?_
  refine Ev.bind (lens_all hdl hc) ?_
  rw [fitsFrom]
  by_cases hf : fromOf d = x
  ·
   rw [decide_eq_true hf, Bool.true_and]
   refine Ev.congr (fun k => by rw [if_pos hf]) ?_
   exact hih (toOf d)
  ·
   rw [decide_eq_false hf, Bool.false_and, if_neg (by decide)]
   refine Ev.congr (fun k => by rw [if_neg hf]) ?_
   exact Ev.now _
theorem chained_l0 (x0 : List (List S70)) (x1 : List S70) (R : Int) (rest : List (List S70)) : ∀ (pre : List (List S70)), (pre ++ rest).length ≤ 9223372036854775807 → (∀ d ∈ rest, d.length ≤ 9223372036854775807) →
  (rest.all canB = true → Ev (fun k => (delta_Lens.f k x1).bind fun bt687 => (shift_chained.l1 k bt687.1 x0 (x0.length : Int) 0)) R) →
  Ev (fun k => shift_chained.l0 k x0 x1 (pre ++ rest) ((pre ++ rest).length : Int) (pre.length : Int)) (if rest.all canB = true then R else 130) := by
 induction rest with
 | nil =>
  intro pre hl h hR
  rw [if_pos (by rfl)]
  refine Ev.step (fun k => by rw [shift_chained.l0, if_neg (by simp)]) (hR rfl)
 | cons d rest ih =>
  intro pre hl h hR
  have hrd := rd6_at pre d rest
  have hge : (0 : Int) ≤ (pre.length : Int) := Int.natCast_nonneg _
  have hlt : (pre.length : Int) < ((pre ++ d :: rest).length : Int) := by simp; omega
  have hw := wrap_succ (i := pre.length) (n := (pre ++ d :: rest).length) (by simp) hl
  have hdl := h d List.mem_cons_self
  refine Ev.step (fun k => by rw [shift_chained.l0, if_pos hlt, if_pos hge, if_pos hlt, hrd, hw]) ?_
  rw [List.all_cons] at hR ⊢
  cases hc : canB d with
  | true =>
   rw [hc, Bool.true_and] at hR
   rw [Bool.true_and]
   refine Ev.bind (lens_all hdl hc) ?_
   simp only [if_true]
   have hih := ih (pre ++ [d]) (by simpa using hl) (fun y hy => h y (List.mem_cons_of_mem _ hy)) hR
   simp only [List.append_assoc, List.singleton_append] at hih
   have hpl : ((pre ++ [d]).length : Int) = ((pre.length + 1 : Nat) : Int) := by simp
   rw [hpl] at hih
   exact hih
  | false =>
   rw [Bool.false_and, if_neg (by decide)]
   refine Ev.bind (lens_bad hdl hc) ?_
   exact Ev.now _
theorem chained_ev {aa : List (List S70)} {b : List S70} (hl : aa.length < 5864062014804) (hd : ∀ d ∈ aa, d.length ≤ 9223372036854775807) (hb : b.length ≤ 9223372036854775807) :
  Ev (fun k => shift_chained.f k aa b) (if (aa ++ [b]).all canB = true then (if fitsFrom (fromOf b) aa = true then 0 else 131) else 130) := by
 refine Ev.congr (fun k => by rw [shift_chained.f, Option.bind_some, if_pos (show ([] : List (List S70)).length + aa.length < 5864062014805 by simp; omega), Option.bind_some, List.nil_append, if_pos (by omega), Option.bind_some]) ?_
 have := chained_l0 aa b (if fitsFrom (fromOf b) aa = true then 0 else 131) (aa ++ [b]) [] (by simp; omega) (fun d hd' => by
  rcases List.mem_append.1 hd' with h | h
  ·
   exact hd d h
  ·
   rw [List.mem_singleton.1 h]; exact hb) (fun hall => by
  have hal := List.all_eq_true.1 hall
  have hcb := hal b (by simp)
  refine Ev.bind (lens_all hb hcb) ?_
  have := chained_l1 aa [] (fromOf b) (by simp; omega) (fun d hd' => ⟨hal d (by simp [hd']), hd d hd'⟩)
  simpa using this)
 simpa using this
inductive Run : List (List S70) → List S70 → List (List S70) → List S70 → Prop
 | nil (l : List S70) : Run [] l [] l
 | cons {a x y l l' : List S70} {aa xs : List (List S70)} (ha : canB a = true) (hl : canB l = true) (hf : fromOf a = fromOf l) (hx : canB x = true) (hy : canB y = true) (hfy : fromOf y = toOf a) (hfx : fromOf x = toOf l)
   (ey : Eqv y (overOps false (a.length + l.length + 1) a 0 l 0)) (ex : Eqv x (overOps true (l.length + a.length + 1) l 0 a 0)) (h : Run aa y xs l') : Run (a :: aa) l (x :: xs) l'
theorem Run.len {aa xs : List (List S70)} {l l' : List S70} (h : Run aa l xs l') : aa.length = xs.length := by
 induction h with
 | nil => rfl
 | cons _ _ _ _ _ _ _ _ _ _ ih => simp [ih]
structure CJ (one two l : List S70) : Prop where
 hone : canB one = true
 htwo : canB two = true
 hll : canB l = true
 from_ : fromOf one = fromOf two
 fit : fromOf l = toOf one
 tto : toOf two = toOf l
 sem : ∀ {α : Type} {g : ByteArray → List α}, Wr g → ∀ xs : List α, fromOf one ≤ (xs.length : Int) → ap g l (ap g one xs) = ap g two xs
theorem comp_can {a y : List S70} (ha : canB a = true) (hy : canB y = true) (hf : fromOf y = toOf a) : canB (canon (compOps a y)) = true := by
 obtain ⟨p1, p2, p3, p4⟩ := comp_eqv ha hy hf
 simp only [canB, Bool.and_eq_true, decide_eq_true_eq]
 exact ⟨⟨p1, by rw [p2]; exact (canB_lens ha).2.1⟩, by rw [p3]; exact (canB_lens hy).2.2⟩
theorem CJ.step {one two l a x y : List S70} (h : CJ one two l) (ha : canB a = true) (hf : fromOf a = fromOf l) (hx : canB x = true) (hy : canB y = true) (hfy : fromOf y = toOf a) (hfx : fromOf x = toOf l)
  (ey : Eqv y (overOps false (a.length + l.length + 1) a 0 l 0)) (ex : Eqv x (overOps true (l.length + a.length + 1) l 0 a 0)) : fromOf a = toOf one ∧ fromOf x = toOf two ∧ CJ (canon (compOps one a)) (canon (compOps two x)) y := by
 have h1 : fromOf a = toOf one := by rw [hf, h.fit]
 have h2 : fromOf x = toOf two := by rw [hfx, h.tto]
 obtain ⟨m1, m2⟩ := meet_one ha h.hll hf hx hy hfy hfx ey ex
 obtain ⟨p1, p2, p3, p4⟩ := comp_eqv h.hone ha h1
 obtain ⟨q1, q2, q3, q4⟩ := comp_eqv h.htwo hx h2
 obtain ⟨r1, r2, r3, r4⟩ := comp_eqv ha hy hfy
 obtain ⟨s1, s2, s3, s4⟩ := comp_eqv h.hll hx hfx
 refine ⟨h1, h2, comp_can h.hone ha h1, comp_can h.htwo hx h2, hy, by rw [p2, q2, h.from_], by rw [p3, hfy], by rw [q3, ← s3, ← m2, r3], ?_⟩
 intro α g hg xs hxs
 rw [p2] at hxs
 have hln := ap_len hg one xs (okc (canB_lens h.hone).1) hxs
 rw [p4 hg xs hxs, q4 hg xs (by rw [← h.from_]; exact hxs), ← h.sem hg xs hxs]
 exact m1 hg _ (by rw [hln]; omega)
end Go.Proofs.Ytidihnnkcmeaeaa.A
