/- The changes of a canonical delta, and places behind them. Plain lists. No condition but canonical operations. -/
import Derived.Test.YtidihnnkcmeaeaaP0
namespace Go.Proofs.Ytidihnnkcmeaeaa.A
open Go.RowKit Go.Proofs.YtidihnnkcmeaeaaW.PrintWords Go.Proofs.YtidihnnkcmeaeaaW.PrintLast Go.Proofs.YtidihnnkcmeaeaaW.PrintMore
set_option linter.unusedVariables false
set_option linter.unusedSimpArgs false

/-- the changes, run by run -/
def chs : Int → List S70 → List S91
  | _, [] => []
  | x, [o] => if o.f0 = 1 then [] else if o.f0 = 2 then [(⟨x, x, o.f2⟩ : S91)] else [(⟨x, x + o.f1, noText⟩ : S91)]
  | x, o :: q :: d =>
    if o.f0 = 1 then chs (x + o.f1) (q :: d)
    else if o.f0 = 2 then (if q.f0 = 3 then (⟨x, x + q.f1, o.f2⟩ : S91) :: chs (x + q.f1) d else (⟨x, x, o.f2⟩ : S91) :: chs x (q :: d))
    else (⟨x, x + o.f1, noText⟩ : S91) :: chs (x + o.f1) (q :: d)
theorem set_last (out : List S91) (c c' : S91) : (out ++ [c]).set ((out ++ [c]).length - 1) c' = out ++ [c'] := by
  rw [List.length_append, List.length_singleton, Nat.add_sub_cancel, List.set_append_right _ _ (Nat.le_refl _), Nat.sub_self]
  rfl
theorem getD_last (out : List S91) (c : S91) : (out ++ [c]).getD ((out ++ [c]).length - 1) z91 = c := by
  rw [List.length_append, List.length_singleton, Nat.add_sub_cancel, List.getD_eq_getElem?_getD, List.getElem?_append_right (Nat.le_refl _)]
  simp
theorem noText_append (s : ByteArray) : noText ++ s = s := by
  apply ByteArray.ext
  simp [noText]
/-- what stands behind an open change that can't go on -/
theorem chg_shut {x : Int} {out : List S91} : ∀ {d : List S70}, (∀ o t, d = o :: t → o.f0 = 1) → chgFrom x true out d = chgFrom x false out d
  | [], _ => rfl
  | o :: t, h => by
    have := h o t rfl
    rw [chgFrom, chgFrom, if_pos this, if_pos this]
theorem chg_put {x : Int} {out : List S91} {o : S70} {d : List S70} (h : o.f0 = 2) : chgFrom x false out (o :: d) = chgFrom x true (out ++ [(⟨x, x, o.f2⟩ : S91)]) d := by
  rw [chgFrom, if_neg (by omega)]
  simp only [Bool.false_eq_true, if_false, if_pos h, getD_last, set_last, noText_append]
theorem chg_drop {x : Int} {out : List S91} {o : S70} {d : List S70} (h : o.f0 = 3) : chgFrom x false out (o :: d) = chgFrom (x + o.f1) true (out ++ [(⟨x, x + o.f1, noText⟩ : S91)]) d := by
  rw [chgFrom, if_neg (by omega)]
  simp only [Bool.false_eq_true, if_false, if_neg (show ¬ o.f0 = 2 by omega), getD_last, set_last]
theorem chg_drop2 {x y : Int} {s : ByteArray} {out : List S91} {o : S70} {d : List S70} (h : o.f0 = 3) : chgFrom x true (out ++ [(⟨y, y, s⟩ : S91)]) (o :: d) = chgFrom (x + o.f1) true (out ++ [(⟨y, x + o.f1, s⟩ : S91)]) d := by
  rw [chgFrom, if_neg (by omega)]
  simp only [if_true, if_neg (show ¬ o.f0 = 2 by omega), getD_last, set_last]
theorem chg_chs : ∀ (d : List S70) (x : Int) (out : List S91), chainOk d = true → chgFrom x false out d = out ++ chs x d
  | [], x, out, _ => by simp [chgFrom, chs]
  | [o], x, out, h => by
    obtain ⟨ho, _, _⟩ := chainOk_cons h
    rcases opOk_cases ho with ⟨k1, k2, k3⟩ | ⟨k1, k2, k3⟩
    · rcases k1 with k1 | k1
      · simp [chgFrom, chs, k1]
      · rw [chg_drop k1, chs, if_neg (by omega), if_neg (by omega)]
        rfl
    · rw [chg_put k1, chs, if_neg (by omega), if_pos k1]
      rfl
  | o :: q :: d, x, out, h => by
    obtain ⟨ho, hh, hc⟩ := chainOk_cons h
    obtain ⟨hq, hh2, hc2⟩ := chainOk_cons hc
    have hnb : nbOk o q = true := hh
    have hne := nbOk_ne hnb
    rcases opOk_cases ho with ⟨k1, k2, k3⟩ | ⟨k1, k2, k3⟩
    · rcases k1 with k1 | k1
      · rw [chgFrom, if_pos k1, chg_chs (q :: d) _ _ hc, chs, if_pos k1]
      · have hq1 : q.f0 = 1 := by rcases opOk_cases hq with ⟨j1, j2, j3⟩ | ⟨j1, j2, j3⟩ <;> omega
        rw [chg_drop k1, chs, if_neg (by omega), if_neg (by omega), chg_shut (by intro a t e; injection e with e1 e2; rw [← e1]; exact hq1), chg_chs (q :: d) _ _ hc, List.append_assoc]
        rfl
    · rw [chg_put k1, chs, if_neg (by omega), if_pos k1]
      by_cases q3 : q.f0 = 3
      · rw [if_pos q3, chg_drop2 q3, chg_shut, chg_chs d _ _ hc2, List.append_assoc]
        · rfl
        · intro a t e
          subst e
          have hn2 := nbOk_ne (show nbOk q a = true from hh2)
          obtain ⟨ha, _, _⟩ := chainOk_cons hc2
          rcases opOk_cases ha with ⟨j1, j2, j3⟩ | ⟨j1, j2, j3⟩ <;> omega
      · have hq1 : q.f0 = 1 := by rcases opOk_cases hq with ⟨j1, j2, j3⟩ | ⟨j1, j2, j3⟩ <;> omega
        rw [if_neg q3, chg_shut (by intro a t e; injection e with e1 e2; rw [← e1]; exact hq1), chg_chs (q :: d) _ _ hc, List.append_assoc]
        rfl
/-- changes that rise, with something kept between two of them; lo: where the first may begin (b: not at lo itself) -/
def ris (n : Int) : Bool → Int → List S91 → Prop
  | _, lo, [] => lo ≤ n
  | b, lo, c :: cs => lo ≤ c.f0 ∧ (b = true → lo < c.f0) ∧ c.f0 ≤ c.f1 ∧ c.f1 ≤ n ∧ ris n true c.f1 cs
theorem ris_weak {n lo lo' : Int} {b b' : Bool} {cs : List S91} (h : ris n b lo cs) (hl : lo' < lo ∨ (lo' = lo ∧ (b' = true → b = true))) : ris n b' lo' cs := by
  cases cs with
  | nil => simp only [ris] at h ⊢; omega
  | cons c cs =>
    obtain ⟨h1, h2, h3, h4, h5⟩ := h
    refine ⟨by omega, fun hb => ?_, h3, h4, h5⟩
    rcases hl with hl | ⟨hl, hbb⟩
    · omega
    · have := h2 (hbb hb); omega
theorem chs_ris : ∀ (d : List S70) (x : Int) (n : Int), chainOk d = true → n = x + fromOf d → (∀ o t, d = o :: t → True) → ris n false x (chs x d) ∧ ((∀ o t, d = o :: t → o.f0 = 1) → ris n true x (chs x d)) ∧ growsBy (chs x d) = toOf d - fromOf d
  | [], x, n, _, hn, _ => by simp [chs, ris, fromOf, toOf, growsBy] at hn ⊢; omega
  | [o], x, n, h, hn, _ => by
    obtain ⟨ho, _, _⟩ := chainOk_cons h
    simp only [fromOf, toOf] at hn ⊢
    rcases opOk_cases ho with ⟨k1, k2, k3⟩ | ⟨k1, k2, k3⟩
    · rw [if_neg (by omega)] at hn
      rw [if_neg (show ¬ o.f0 = 2 by omega)]
      rcases k1 with k1 | k1
      · rw [chs, if_pos k1]
        simp only [ris, growsBy]
        rw [if_neg (show ¬ o.f0 = 2 by omega), if_neg (by omega)]
        omega
      · rw [chs, if_neg (by omega), if_neg (by omega)]
        simp only [ris, growsBy]
        rw [if_neg (show ¬ o.f0 = 2 by omega), if_pos k1]
        have : ((noText.size : Nat) : Int) = 0 := rfl
        refine ⟨⟨by omega, fun h => by simp at h, by omega, by omega, by omega⟩, fun h1 => absurd (h1 o [] rfl) (by omega), by omega⟩
    · rw [if_pos k1] at hn
      rw [if_pos k1, if_pos k1, chs, if_neg (by omega), if_pos k1]
      simp only [ris, growsBy]
      refine ⟨⟨by omega, fun h => by simp at h, by omega, by omega, by omega⟩, fun h1 => absurd (h1 o [] rfl) (by omega), by omega⟩
  | o :: q :: d, x, n, h, hn, _ => by
    obtain ⟨ho, hh, hc⟩ := chainOk_cons h
    obtain ⟨hq, hh2, hc2⟩ := chainOk_cons hc
    have hnb : nbOk o q = true := hh
    have hne := nbOk_ne hnb
    rw [fromOf_cons] at hn
    rw [fromOf_cons, toOf_cons]
    have hfn := fromOf_nonneg (d := q :: d) (fun o ho => kindOk_posN (opOk_kindOk (chainOk_opOk hc o ho)))
    have hfn2 := fromOf_nonneg (d := d) (fun o ho => kindOk_posN (opOk_kindOk (chainOk_opOk hc2 o ho)))
    rcases opOk_cases ho with ⟨k1, k2, k3⟩ | ⟨k1, k2, k3⟩
    · rw [if_neg (by omega)] at hn
      rw [if_neg (show ¬ o.f0 = 2 by omega), if_neg (show ¬ o.f0 = 2 by omega)]
      rcases k1 with k1 | k1
      · obtain ⟨i1, i2, i3⟩ := chs_ris (q :: d) (x + o.f1) n hc (by omega) (fun _ _ _ => trivial)
        rw [chs, if_pos k1, if_neg (by omega)]
        exact ⟨ris_weak i1 (.inl (by omega)), fun _ => ris_weak i1 (.inl (by omega)), by omega⟩
      · have hq1 : q.f0 = 1 := by rcases opOk_cases hq with ⟨j1, j2, j3⟩ | ⟨j1, j2, j3⟩ <;> omega
        obtain ⟨i1, i2, i3⟩ := chs_ris (q :: d) (x + o.f1) n hc (by omega) (fun _ _ _ => trivial)
        rw [chs, if_neg (by omega), if_neg (by omega), if_pos k1]
        have i4 := i2 (by intro a t e; injection e with e1 e2; rw [← e1]; exact hq1)
        have : ((noText.size : Nat) : Int) = 0 := rfl
        refine ⟨⟨by show x ≤ x; omega, fun h => by simp at h, by show x ≤ x + o.f1; omega, by show x + o.f1 ≤ n; omega, i4⟩, fun h1 => absurd (h1 o _ rfl) (by omega), ?_⟩
        simp only [growsBy]
        omega
    · rw [if_pos k1] at hn
      rw [if_pos k1, if_pos k1, chs, if_neg (by omega), if_pos k1]
      by_cases q3 : q.f0 = 3
      · rw [fromOf_cons, if_neg (by omega)] at hn
        rw [if_pos q3, fromOf_cons, toOf_cons, if_neg (show ¬ q.f0 = 2 by omega), if_neg (show ¬ q.f0 = 2 by omega), if_pos q3]
        have hq1 : 1 ≤ q.f1 := by rcases opOk_cases hq with ⟨j1, j2, j3⟩ | ⟨j1, j2, j3⟩ <;> omega
        obtain ⟨i1, i2, i3⟩ := chs_ris d (x + q.f1) n hc2 (by omega) (fun _ _ _ => trivial)
        have i4 := i2 (by
          intro a t e
          subst e
          have hn2 := nbOk_ne (show nbOk q a = true from hh2)
          obtain ⟨ha, _, _⟩ := chainOk_cons hc2
          rcases opOk_cases ha with ⟨j1, j2, j3⟩ | ⟨j1, j2, j3⟩ <;> omega)
        refine ⟨⟨by show x ≤ x; omega, fun h => by simp at h, by show x ≤ x + q.f1; omega, by show x + q.f1 ≤ n; omega, i4⟩, fun h1 => absurd (h1 o _ rfl) (by omega), ?_⟩
        simp only [growsBy]
        omega
      · have hq1 : q.f0 = 1 := by rcases opOk_cases hq with ⟨j1, j2, j3⟩ | ⟨j1, j2, j3⟩ <;> omega
        obtain ⟨i1, i2, i3⟩ := chs_ris (q :: d) x n hc (by omega) (fun _ _ _ => trivial)
        have i4 := i2 (by intro a t e; injection e with e1 e2; rw [← e1]; exact hq1)
        rw [if_neg q3]
        refine ⟨⟨by show x ≤ x; omega, fun h => by simp at h, by show x ≤ x; omega, by show x ≤ n; omega, i4⟩, fun h1 => absurd (h1 o _ rfl) (by omega), ?_⟩
        simp only [growsBy]
        omega

/-- a place behind changes -/
def plc (g p : Int) : Int → List S91 → Int
  | w, [] => p + w
  | w, c :: cs => if p < c.f0 then p + w else if p ≤ c.f1 then (if g = 1 then c.f0 + w else c.f0 + w + (c.f2.size : Int)) else plc g p (w + ((c.f2.size : Int) - (c.f1 - c.f0))) cs
theorem plc_low {n g p : Int} : ∀ {cs : List S91} {b : Bool} {lo w : Int}, ris n b lo cs → lo ≤ p → lo + w ≤ plc g p w cs
  | [], b, lo, w, _, hp => by simp only [plc]; omega
  | c :: cs, b, lo, w, h, hp => by
    obtain ⟨h1, h2, h3, h4, h5⟩ := h
    rw [plc]
    by_cases c1 : p < c.f0
    · rw [if_pos c1]; omega
    · rw [if_neg c1]
      by_cases c2 : p ≤ c.f1
      · rw [if_pos c2]; split <;> omega
      · rw [if_neg c2]
        have := plc_low (g := g) (p := p) (w := w + ((c.f2.size : Int) - (c.f1 - c.f0))) h5 (by omega)
        omega
theorem ris_to {n : Int} : ∀ {cs : List S91} {b : Bool} {lo : Int}, ris n b lo cs → lo ≤ n + growsBy cs
  | [], b, lo, h => by simp only [ris] at h; simp only [growsBy]; omega
  | c :: cs, b, lo, h => by
    obtain ⟨h1, h2, h3, h4, h5⟩ := h
    have := ris_to h5
    simp only [growsBy]
    omega
theorem plc_high {n g p : Int} : ∀ {cs : List S91} {b : Bool} {lo w : Int}, ris n b lo cs → p ≤ n → plc g p w cs ≤ n + w + growsBy cs
  | [], b, lo, w, _, hp => by simp only [plc, growsBy]; omega
  | c :: cs, b, lo, w, h, hp => by
    obtain ⟨h1, h2, h3, h4, h5⟩ := h
    have ht := ris_to h5
    rw [plc]
    simp only [growsBy]
    by_cases c1 : p < c.f0
    · rw [if_pos c1]; omega
    · rw [if_neg c1]
      by_cases c2 : p ≤ c.f1
      · rw [if_pos c2]; split <;> omega
      · rw [if_neg c2]
        have := plc_high (g := g) (p := p) (w := w + ((c.f2.size : Int) - (c.f1 - c.f0))) h5 hp
        omega
theorem plc_sides {n p : Int} : ∀ {cs : List S91} {w : Int}, plc 1 p w cs ≤ plc 2 p w cs
  | [], w => by simp only [plc]; omega
  | c :: cs, w => by
    rw [plc, plc]
    by_cases c1 : p < c.f0
    · rw [if_pos c1, if_pos c1]; omega
    · rw [if_neg c1, if_neg c1]
      by_cases c2 : p ≤ c.f1
      · rw [if_pos c2, if_pos c2, if_pos rfl, if_neg (by decide)]; omega
      · rw [if_neg c2, if_neg c2]
        exact plc_sides (n := n)
theorem plc_rises {n g p q : Int} (hpq : p ≤ q) : ∀ {cs : List S91} {b : Bool} {lo w : Int}, ris n b lo cs → plc g p w cs ≤ plc g q w cs
  | [], b, lo, w, _ => by simp only [plc]; omega
  | c :: cs, b, lo, w, h => by
    obtain ⟨h1, h2, h3, h4, h5⟩ := h
    rw [plc, plc]
    by_cases c1 : q < c.f0
    · rw [if_pos c1, if_pos (by omega)]; omega
    · rw [if_neg c1]
      by_cases c2 : q ≤ c.f1
      · rw [if_pos c2]
        by_cases d1 : p < c.f0
        · rw [if_pos d1]; split <;> omega
        · rw [if_neg d1, if_pos (by omega)]; split <;> omega
      · rw [if_neg c2]
        have hl := plc_low (g := g) (p := q) (w := w + ((c.f2.size : Int) - (c.f1 - c.f0))) h5 (by omega)
        by_cases d1 : p < c.f0
        · rw [if_pos d1]; omega
        · rw [if_neg d1]
          by_cases d2 : p ≤ c.f1
          · rw [if_pos d2]; split <;> omega
          · rw [if_neg d2]
            exact plc_rises hpq h5
theorem plc_end {n : Int} : ∀ {cs : List S91} {b : Bool} {lo w : Int}, ris n b lo cs → plc 2 n w cs = n + w + growsBy cs
  | [], b, lo, w, _ => by simp only [plc, growsBy]; omega
  | c :: cs, b, lo, w, h => by
    obtain ⟨h1, h2, h3, h4, h5⟩ := h
    rw [plc, if_neg (by omega)]
    simp only [growsBy]
    by_cases c2 : n ≤ c.f1
    · rw [if_pos c2, if_neg (by decide)]
      cases cs with
      | nil => simp only [growsBy]; omega
      | cons c' cs =>
        obtain ⟨j1, j2, j3, j4, j5⟩ := h5
        have := j2 rfl
        omega
    · rw [if_neg c2, plc_end h5]
      omega
theorem plc_zero {n : Int} {cs : List S91} {b : Bool} (h : ris n b 0 cs) : plc 1 0 0 cs = 0 := by
  cases cs with
  | nil => simp [plc]
  | cons c cs =>
    obtain ⟨h1, h2, h3, h4, h5⟩ := h
    rw [plc]
    by_cases c1 : 0 < c.f0
    · rw [if_pos c1]; omega
    · rw [if_neg c1, if_pos (by omega), if_pos rfl]; omega
end Go.Proofs.Ytidihnnkcmeaeaa.A
