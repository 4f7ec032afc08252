/- What Invert's operations are and do: they take back, and of themselves give the delta again. Plain lists. No condition but that the delta is canonical and fits. -/
import Derived.Test.YtidihnnkcmeaeaaP0
import Derived.Test.YtidihnnkcmeaeaaL0
import Derived.Test.YtidihnnkcmeaeaaF
namespace Go.Proofs.Ytidihnnkcmeaeaa.A
open Go.RowKit Go.Proofs.YtidihnnkcmeaeaaW.PrintWords Go.Proofs.YtidihnnkcmeaeaaW.PrintLast
set_option linter.unusedVariables false

theorem Eqv.symm_ {a b : List S70} (h : Eqv a b) : Eqv b a := ⟨fun hg xs hx => (h.sem hg xs (by rw [h.from_]; exact hx)).symm, h.from_.symm, h.tto.symm⟩
theorem okN {k n : Int} (h : k = 1 ∨ k = 3) (hn : 1 ≤ n) : opOk (⟨k, n, noText⟩ : S70) = true := by
  rcases h with rfl | rfl <;> (simp only [opOk, decide_eq_true hn]; rfl)
theorem okT {s : ByteArray} (h : s.size ≠ 0) : opOk (⟨2, 0, s⟩ : S70) = true := by simp [opOk, h]
def inv1 (o : S70) (xs : List Int) : S70 :=
  if o.f0 = 2 then ⟨3, (o.f2.size : Int), noText⟩ else if o.f0 = 1 then ⟨1, o.f1, noText⟩ else ⟨2, 0, strOfNums (xs.take o.f1.toNat)⟩
/-- Invert's operations in canonical order -/
def invC : List S70 → List Int → List S70
  | [], _ => []
  | [o], xs => [inv1 o xs]
  | o :: q :: d, xs =>
    if o.f0 = 2 then
      (if q.f0 = 3 then (⟨2, 0, strOfNums (xs.take q.f1.toNat)⟩ : S70) :: (⟨3, (o.f2.size : Int), noText⟩ : S70) :: invC d (xs.drop q.f1.toNat)
       else inv1 o xs :: invC (q :: d) xs)
    else inv1 o xs :: invC (q :: d) (xs.drop o.f1.toNat)

theorem strNums_size (l : List Int) : (strOfNums l).size = l.length := by
  show (strOfNums l).data.size = _
  unfold strOfNums
  simp

theorem inv1_ok {o : S70} {xs : List Int} (h : opOk o = true) (hx : o.f0 ≠ 2 → o.f1 ≤ (xs.length : Int)) : opOk (inv1 o xs) = true ∧ ((inv1 o xs).f0 = 1 ↔ o.f0 = 1) := by
  rcases opOk_cases h with ⟨k1, k2, k3⟩ | ⟨k1, k2, k3⟩
  · have hx := hx (by omega)
    rcases k1 with k1 | k1
    · unfold inv1
      rw [if_neg (by omega), if_pos k1]
      exact ⟨okN (.inl rfl) k2, by simp [k1]⟩
    · unfold inv1
      rw [if_neg (by omega), if_neg (by omega)]
      have : (strOfNums (xs.take o.f1.toNat)).size ≠ 0 := by rw [strNums_size, List.length_take]; omega
      exact ⟨okT this, by simp [k1]⟩
  · unfold inv1
    rw [if_pos k1]
    have : (1 : Int) ≤ (o.f2.size : Int) := by omega
    exact ⟨okN (.inr rfl) this, by simp [k1]⟩

/-- the first of what Invert gives keeps just if the first of the delta does -/
def headK (l : List S70) : Bool := match l with
  | [] => true
  | o :: _ => o.f0 == 1

theorem chain_cons {o : S70} {d : List S70} (h1 : opOk o = true) (h2 : hdOk o d = true) (h3 : chainOk d = true) : chainOk (o :: d) = true := by
  simp only [chainOk, h1, h2, h3, Bool.and_self]

theorem hd_keep {o : S70} {d : List S70} (h : o.f0 ≠ 1) (hk : headK d = true) : hdOk o d = true := by
  cases d with
  | nil => rfl
  | cons p t =>
    have h1 : p.f0 = 1 := by simpa [headK] using hk
    show nbOk o p = true
    simp only [nbOk, h1]
    have : ¬ (o.f0 = 1) := h
    simp [this]
theorem hd_not {o : S70} {d : List S70} (h : o.f0 = 1) (hk : ∀ p t, d = p :: t → p.f0 ≠ 1) : hdOk o d = true := by
  cases d with
  | nil => rfl
  | cons p t =>
    have h1 := hk p t rfl
    show nbOk o p = true
    simp only [nbOk, h]
    have : ¬ (1 = p.f0) := fun e => h1 e.symm
    simp [this]

theorem headK_next {o : S70} {d : List S70} (h : chainOk (o :: d) = true) (h3 : o.f0 = 3 ∨ o.f0 = 2 ∧ (∀ q t, d = q :: t → q.f0 ≠ 3)) : headK d = true := by
  cases d with
  | nil => rfl
  | cons q t =>
    obtain ⟨ho, hh, hc⟩ := chainOk_cons h
    obtain ⟨hq, _, _⟩ := chainOk_cons hc
    have hne := nbOk_ne (show nbOk o q = true from hh)
    have : q.f0 = 1 := by
      rcases opOk_cases hq with ⟨j1, j2, j3⟩ | ⟨j1, j2, j3⟩
      · rcases h3 with h3 | ⟨h3, h4⟩
        · omega
        · have := h4 q t rfl; omega
      · omega
    simp [headK, this]

theorem invC_chain : ∀ (d : List S70) (xs : List Int), chainOk d = true → fromOf d ≤ (xs.length : Int) → chainOk (invC d xs) = true ∧ (headK (invC d xs) = headK d) ∧ (d ≠ [] → invC d xs ≠ [])
  | [], xs, _, _ => ⟨rfl, rfl, fun h => absurd rfl h⟩
  | [o], xs, h, hx => by
    obtain ⟨ho, _, _⟩ := chainOk_cons h
    rw [fromOf_one] at hx
    obtain ⟨h1, h2⟩ := inv1_ok (xs := xs) ho (fun hp => by rw [if_neg hp] at hx; exact hx)
    rw [invC]
    refine ⟨chain_cons h1 rfl rfl, ?_, by simp⟩
    simp only [headK]
    exact Bool.eq_iff_iff.2 (by simpa using h2)
  | o :: q :: d, xs, h, hx => by
    obtain ⟨ho, hh, hc⟩ := chainOk_cons h
    obtain ⟨hq, hh2, hc2⟩ := chainOk_cons hc
    have hne := nbOk_ne (show nbOk o q = true from hh)
    rw [fromOf_cons] at hx
    have hfn := fromOf_nonneg (d := q :: d) (fun o ho => kindOk_posN (opOk_kindOk (chainOk_opOk hc o ho)))
    have hfn2 := fromOf_nonneg (d := d) (fun o ho => kindOk_posN (opOk_kindOk (chainOk_opOk hc2 o ho)))
    rw [invC]
    have tail : ∀ ys : List Int, fromOf (q :: d) ≤ (ys.length : Int) → (o.f0 ≠ 2 → o.f1 ≤ (xs.length : Int)) → ¬ (o.f0 = 2 ∧ q.f0 = 3) →
        chainOk (inv1 o xs :: invC (q :: d) ys) = true ∧ (headK (inv1 o xs :: invC (q :: d) ys) = headK (o :: q :: d)) ∧ (o :: q :: d ≠ [] → inv1 o xs :: invC (q :: d) ys ≠ []) := by
      intro ys hy ho1 hno
      obtain ⟨i1, i2, i3⟩ := invC_chain (q :: d) ys hc hy
      obtain ⟨h1, h2⟩ := inv1_ok (xs := xs) ho ho1
      refine ⟨chain_cons h1 ?_ i1, Bool.eq_iff_iff.2 (by simpa [headK] using h2), by simp⟩
      by_cases k : o.f0 = 1
      · refine hd_not (h2.2 k) ?_
        intro p t e he
        rw [e] at i2
        have hk : headK (p :: t) = true := by simp [headK, he]
        rw [i2] at hk
        have : q.f0 = 1 := by simpa [headK] using hk
        omega
      · refine hd_keep (fun e => k (h2.1 e)) ?_
        rw [i2]
        refine headK_next h ?_
        rcases opOk_cases ho with ⟨j1, j2, j3⟩ | ⟨j1, j2, j3⟩
        · exact .inl (by omega)
        · exact .inr ⟨j1, fun q' t' e => by injection e with e1 e2; rw [← e1]; intro e3; exact hno ⟨j1, e3⟩⟩
    by_cases k1 : o.f0 = 2
    · rw [if_pos k1] at hx
      rw [if_pos k1]
      by_cases k3 : q.f0 = 3
      · rw [if_pos k3]
        rw [fromOf_cons, if_neg (by omega)] at hx
        have hq1 : 1 ≤ q.f1 := by rcases opOk_cases hq with ⟨j1, j2, j3⟩ | ⟨j1, j2, j3⟩ <;> omega
        have ho1 : 1 ≤ o.f2.size := by rcases opOk_cases ho with ⟨j1, j2, j3⟩ | ⟨j1, j2, j3⟩ <;> omega
        obtain ⟨i1, i2, i3⟩ := invC_chain d (xs.drop q.f1.toNat) hc2 (by rw [List.length_drop]; omega)
        have hs : (strOfNums (xs.take q.f1.toNat)).size ≠ 0 := by rw [strNums_size, List.length_take]; omega
        have hs1 : (1 : Int) ≤ (o.f2.size : Int) := by omega
        refine ⟨chain_cons (okT hs) rfl (chain_cons (okN (.inr rfl) hs1) (hd_keep (show (3 : Int) ≠ 1 by decide) ?_) i1), by simp [headK, k1], by simp⟩
        rw [i2]
        exact headK_next hc (.inl k3)
      · rw [if_neg k3]
        exact tail xs (by omega) (fun h => absurd k1 h) (fun h => k3 h.2)
    · rw [if_neg k1] at hx
      rw [if_neg k1]
      exact tail _ (by rw [List.length_drop]; rcases opOk_cases ho with ⟨j1, j2, j3⟩ | ⟨j1, j2, j3⟩ <;> omega) (fun _ => by omega) (fun h => k1 h.1)

theorem invOps_one (o : S70) (d : List S70) (xs : List Int) : invOps (o :: d) xs = inv1 o xs :: invOps d (if o.f0 = 2 then xs else xs.drop o.f1.toNat) := by
  rw [invOps]
  unfold inv1
  by_cases h2 : o.f0 = 2
  · rw [if_pos h2, if_pos h2, if_pos h2]
  · rw [if_neg h2, if_neg h2, if_neg h2]
    by_cases h1 : o.f0 = 1
    · rw [if_pos h1, if_pos h1]
    · rw [if_neg h1, if_neg h1]

theorem invOps_ok : ∀ (d : List S70) (xs : List Int), chainOk d = true → ∀ o ∈ invOps d xs, kindOk o = true
  | [], xs, _, o, ho => by rw [invOps] at ho; cases ho
  | p :: d, xs, h, o, ho => by
    obtain ⟨hp, _, hc⟩ := chainOk_cons h
    rw [invOps_one, List.mem_cons] at ho
    rcases ho with rfl | ho
    · unfold inv1
      rcases opOk_cases hp with ⟨k1, k2, k3⟩ | ⟨k1, k2, k3⟩
      · rcases k1 with k1 | k1
        · rw [if_neg (by omega), if_pos k1]; simp only [kindOk]; simp; omega
        · rw [if_neg (by omega), if_neg (by omega)]; rfl
      · rw [if_pos k1]; simp only [kindOk]; simp
    · exact invOps_ok d _ hc o ho

theorem invC_eqv : ∀ (d : List S70) (xs : List Int), chainOk d = true → Eqv (invC d xs) (invOps d xs)
  | [], xs, _ => by rw [invC, invOps]; exact Eqv.refl _
  | [o], xs, h => by rw [invC, invOps_one, invOps]; exact Eqv.refl _
  | o :: q :: d, xs, h => by
    obtain ⟨ho, hh, hc⟩ := chainOk_cons h
    obtain ⟨hq, hh2, hc2⟩ := chainOk_cons hc
    have one : ∀ ys : List Int, ys = (if o.f0 = 2 then xs else xs.drop o.f1.toNat) → Eqv (inv1 o xs :: invC (q :: d) ys) (invOps (o :: q :: d) xs) := by
      intro ys hy
      rw [invOps_one, ← hy]
      refine Eqv.right (invC_eqv (q :: d) ys hc) [inv1 o xs] ?_
      intro p hp
      exact invOps_ok (o :: q :: d) xs h p (by rw [invOps_one]; simp at hp; rw [hp]; exact List.mem_cons_self ..)
    rw [invC]
    by_cases k1 : o.f0 = 2
    · rw [if_pos k1]
      by_cases k3 : q.f0 = 3
      · rw [if_pos k3, invOps_one, invOps_one, if_pos k1, if_neg (by omega)]
        have e1 : inv1 o xs = ⟨3, (o.f2.size : Int), noText⟩ := by unfold inv1; rw [if_pos k1]
        have e2 : inv1 q xs = ⟨2, 0, strOfNums (xs.take q.f1.toNat)⟩ := by unfold inv1; rw [if_neg (by omega), if_neg (by omega)]
        rw [e1, e2]
        have hk : ∀ p ∈ [(⟨2, 0, strOfNums (xs.take q.f1.toNat)⟩ : S70), ⟨3, (o.f2.size : Int), noText⟩], kindOk p = true := by
          intro p hp
          simp only [List.mem_cons, List.not_mem_nil, or_false] at hp
          rcases hp with rfl | rfl
          · rfl
          · simp only [kindOk]; simp
        have hk2 : ∀ p ∈ [(⟨3, (o.f2.size : Int), noText⟩ : S70), ⟨2, 0, strOfNums (xs.take q.f1.toNat)⟩], kindOk p = true := fun p hp => hk p (by simp only [List.mem_cons, List.not_mem_nil, or_false] at hp ⊢; exact hp.symm)
        have s1 := (invC_eqv d (xs.drop q.f1.toNat) hc2).right [(⟨2, 0, strOfNums (xs.take q.f1.toNat)⟩ : S70), ⟨3, (o.f2.size : Int), noText⟩] hk
        have s2 := (eqv_swap (strOfNums (xs.take q.f1.toNat)) (o.f2.size : Int)).left (invOps d (xs.drop q.f1.toNat)) hk hk2 (fromOf_nonneg (fun o ho => kindOk_posN (invOps_ok d _ hc2 o ho)))
        exact s1.trans s2
      · rw [if_neg k3]
        exact one xs (by rw [if_pos k1])
    · rw [if_neg k1]
      exact one _ (by rw [if_neg k1])

/-- Invert's delta -/
theorem inv_is {d : List S70} {xs : List Int} (h : chainOk d = true) (hx : fromOf d ≤ (xs.length : Int)) : canon (invOps d xs) = invC d xs := by
  obtain ⟨c1, c2⟩ := canon_sem (invOps_ok d xs h)
  exact eqv_uniq c1 (invC_chain d xs h hx).1 (c2.trans (Eqv.symm_ (invC_eqv d xs h)))
def nb (n : Int) : Int := ((UInt8.ofNat n.toNat).toNat : Int)
theorem nb_bytes (l : List Int) : bytesOf (strOfNums l) = l.map nb := by
  unfold bytesOf strOfNums nb
  simp
theorem nb_nb (n : Int) : nb (nb n) = nb n := by unfold nb; simp; omega
theorem str_nb {l l' : List Int} (h : l.map nb = l'.map nb) : strOfNums l = strOfNums l' := by
  have := congrArg strOfNums h
  rwa [← nb_bytes, ← nb_bytes, str_bytes, str_bytes] at this

end Go.Proofs.Ytidihnnkcmeaeaa.A
