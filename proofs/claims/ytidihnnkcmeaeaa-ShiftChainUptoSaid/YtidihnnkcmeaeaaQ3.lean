/- What Compose's operations do: the second behind the first. Plain lists. No condition but canonical operations that fit. -/
import Derived.Test.YtidihnnkcmeaeaaQ2
import Derived.Test.YtidihnnkcmeaeaaECompose
namespace Go.Proofs.Ytidihnnkcmeaeaa.A
open Go.RowKit Go.Proofs.YtidihnnkcmeaeaaW.PrintWords Go.Proofs.YtidihnnkcmeaeaaW.PrintLast Go.Proofs.YtidihnnkcmeaeaaW.PrintMore
set_option linter.unusedVariables false
set_option linter.unusedSimpArgs false
theorem ext_split (s : ByteArray) (n : Nat) : s.extract 0 n ++ s.extract n s.size = s := by
 apply ByteArray.ext
 apply Array.ext'
 simp only [ByteArray.data_append, ByteArray.data_extract, Array.toList_append, Array.toList_extract]
 simp [List.extract]
 have : s.data.toList.length = s.size := by rw [Array.length_toList]; rfl
 have h2 : List.take (s.size - n) (List.drop n s.data.toList) = List.drop n s.data.toList := List.take_of_length_le (by rw [List.length_drop]; omega)
 rw [h2]
 exact List.take_append_drop n _
theorem thr_sem {α : Type} {g : ByteArray → List α} (hg : Wr g) (keep : Bool) : ∀ (a : List S70) (n : Int) (xs : List α), (∀ o ∈ a, opOk o = true) → 0 ≤ n → n ≤ toOf a → fromOf a ≤ (xs.length : Int) →
  ap g (thr keep n a).1 xs = (if keep = true then (ap g a xs).take n.toNat else []) ∧ ap g (thr keep n a).2 (xs.drop (fromOf (thr keep n a).1).toNat) = (ap g a xs).drop n.toNat ∧ fromOf (thr keep n a).1 + fromOf (thr keep n a).2 = fromOf a ∧ (∀ o ∈ (thr keep n a).1, kindOk o = true)
 | [], n, xs, _, h0, h1, _ => by
  have hn : n = 0 := by simp only [toOf] at h1; omega
  subst hn
  refine ⟨?_, ?_, rfl, by simp [thr]⟩
  ·
   simp [thr, ap]
  ·
   simp [thr, ap]
 | o :: a, n, xs, hok, h0, h1, hx => by
  by_cases hn0 : n = 0
  ·
   subst hn0
   rw [thr_zero _ _ _ (Int.le_refl 0)]
   refine ⟨by simp [ap], by simp [fromOf], by simp [fromOf], by simp⟩
  ·
   have ho := hok o List.mem_cons_self
   have hok' : ∀ x ∈ a, opOk x = true := fun x hx => hok x (List.mem_cons_of_mem _ hx)
   have hf := fromOf_nonneg (d := a) (fun y hy => kindOk_posN (opOk_kindOk (hok' y hy)))
   rw [toOf_cons] at h1
   rw [fromOf_cons] at hx
   rw [thr, if_neg (by omega), fromOf_cons (d := a)]
   rcases opOk_cases ho with ⟨k1, k2, k3⟩ | ⟨k1, k2, k3⟩
   ·
    rw [if_neg (by omega)] at h1 hx
    rw [if_neg (show ¬ o.f0 = 2 by omega)]
    by_cases c3 : o.f0 = 3
    ·
     rw [if_pos c3] at h1
     obtain ⟨i1, i2, i3, i4⟩ := thr_sem hg keep a n (xs.drop o.f1.toNat) hok' h0 (by omega) (by rw [List.length_drop]; omega)
     rw [if_pos c3]
     have hft : 0 ≤ fromOf (thr keep n a).1 := fromOf_nonneg (fun y hy => kindOk_posN (i4 y hy))
     refine ⟨?_, ?_, ?_, ?_⟩
     ·
      rw [ap_drop rfl, ap_drop c3]; exact i1
     ·
      show ap g (thr keep n a).2 (xs.drop (fromOf (_ :: (thr keep n a).1)).toNat) = _
      rw [fromOf_cons, if_neg (show ¬ (3 : Int) = 2 by decide), ap_drop c3, ← i2, List.drop_drop]
      congr 2
      show (o.f1 + _).toNat = _
      omega
     ·
      show fromOf (_ :: (thr keep n a).1) + fromOf (thr keep n a).2 = _
      rw [fromOf_cons, if_neg (show ¬ (3 : Int) = 2 by decide)]
      show o.f1 + _ + _ = _
      omega
     ·
      intro y hy
      rcases List.mem_cons.1 hy with rfl | hy
      ·
       exact okone 3 o.f1 _ (.inl ⟨.inr rfl, by omega⟩) _ (List.mem_singleton.2 rfl)
      ·
       exact i4 y hy
    ·
     have c1 : o.f0 = 1 := by omega
     rw [if_neg c3] at h1
     rw [if_neg c3]
     have hkk : ∀ m : Int, 0 ≤ m → kindOk (⟨if keep then 1 else 3, m, noText⟩ : S70) = true := by
      intro m hm
      cases keep
      ·
       exact okone 3 m _ (.inl ⟨.inr rfl, hm⟩) _ (List.mem_singleton.2 rfl)
      ·
       exact okone 1 m _ (.inl ⟨.inl rfl, hm⟩) _ (List.mem_singleton.2 rfl)
     have hfo : ∀ (m : Int) (l : List S70), fromOf ((⟨if keep then 1 else 3, m, noText⟩ : S70) :: l) = m + fromOf l := by
      intro m l
      rw [fromOf_cons, if_neg (by cases keep <;> simp)]
     by_cases hle : o.f1 ≤ n
     ·
      obtain ⟨i1, i2, i3, i4⟩ := thr_sem hg keep a (n - o.f1) (xs.drop o.f1.toNat) hok' (by omega) (by omega) (by rw [List.length_drop]; omega)
      rw [if_pos hle]
      have hft : 0 ≤ fromOf (thr keep (n - o.f1) a).1 := fromOf_nonneg (fun y hy => kindOk_posN (i4 y hy))
      have hlt : (xs.take o.f1.toNat).length = o.f1.toNat := by rw [List.length_take]; omega
      have hnn : n.toNat = (xs.take o.f1.toNat).length + (n - o.f1).toNat := by omega
      refine ⟨?_, ?_, ?_, ?_⟩
      ·
       rw [ap_keep c1]
       cases keep
       ·
        rw [ap_drop rfl]
        exact i1
       ·
        rw [ap_keep rfl]
        show xs.take o.f1.toNat ++ _ = _
        rw [i1, hnn, List.take_length_add_append]
        simp
      ·
       show ap g (thr keep (n - o.f1) a).2 (xs.drop (fromOf (_ :: (thr keep (n - o.f1) a).1)).toNat) = _
       rw [hfo, ap_keep c1, hnn, List.drop_length_add_append, ← i2, List.drop_drop]
       congr 2
       omega
      ·
       show fromOf (_ :: (thr keep (n - o.f1) a).1) + fromOf (thr keep (n - o.f1) a).2 = _
       rw [hfo]
       omega
      ·
       intro y hy
       rcases List.mem_cons.1 hy with rfl | hy
       ·
        exact hkk _ (by omega)
       ·
        exact i4 y hy
     ·
      rw [if_neg hle]
      have hlt : (xs.take n.toNat).length = n.toNat := by rw [List.length_take]; omega
      have hspl : ap g (o :: a) xs = xs.take n.toNat ++ ((xs.drop n.toNat).take (o.f1 - n).toNat ++ ap g a (xs.drop o.f1.toNat)) := by
       rw [ap_keep c1, show o.f1.toNat = n.toNat + (o.f1 - n).toNat by omega, List.take_add, List.append_assoc]
      refine ⟨?_, ?_, ?_, ?_⟩
      ·
       rw [hspl]
       cases keep
       ·
        rw [ap_drop rfl]; rfl
       ·
        rw [ap_keep rfl]
        show xs.take n.toNat ++ ap g [] _ = _
        rw [if_pos rfl, List.take_left' hlt]
        simp [ap]
      ·
       show ap g ((⟨1, o.f1 - n, noText⟩ : S70) :: a) (xs.drop (fromOf [_]).toNat) = _
       rw [hfo, ap_keep rfl, hspl, List.drop_left' hlt]
       have : (n + fromOf ([] : List S70)).toNat = n.toNat := by simp [fromOf]
       rw [this, List.drop_drop]
       congr 3
       show n.toNat + (o.f1 - n).toNat = _
       omega
      ·
       show fromOf [_] + fromOf ((⟨1, o.f1 - n, noText⟩ : S70) :: a) = _
       rw [hfo, fromOf_cons, if_neg (show ¬ (1 : Int) = 2 by decide)]
       simp only [fromOf]
       omega
      ·
       intro y hy
       rw [List.mem_singleton.1 hy]
       exact hkk _ h0
   ·
    rw [if_pos k1] at h1 hx
    rw [if_pos k1, if_neg (show ¬ o.f0 = 3 by omega), if_pos k1]
    have hfp : ∀ (s : ByteArray) (l : List S70), fromOf ((⟨2, 0, s⟩ : S70) :: l) = fromOf l := by
     intro s l
     rw [fromOf_cons, if_pos rfl, Int.zero_add]
    have hkp : ∀ s : ByteArray, kindOk (⟨2, 0, s⟩ : S70) = true := fun s => okone 2 0 s (.inr rfl) _ (List.mem_singleton.2 rfl)
    have hpif : ∀ s : ByteArray, (if keep = true then (⟨2, 0, s⟩ : S70) else ⟨2, 0, noText⟩) = ⟨2, 0, if keep = true then s else noText⟩ := by intro s; cases keep <;> rfl
    by_cases hle : (o.f2.size : Int) ≤ n
    ·
     obtain ⟨i1, i2, i3, i4⟩ := thr_sem hg keep a (n - (o.f2.size : Int)) xs hok' (by omega) (by omega) (by omega)
     rw [if_pos hle]
     have hlg := hg.len o.f2
     have hnn : n.toNat = (g o.f2).length + (n - (o.f2.size : Int)).toNat := by omega
     dsimp only
     rw [hpif]
     refine ⟨?_, ?_, ?_, ?_⟩
     ·
      rw [ap_put rfl, ap_put k1, i1]
      dsimp only
      cases keep
      ·
       simp [hg.nil]
      ·
       simp only [if_true]
       rw [hnn, List.take_length_add_append]
     ·
      rw [hfp, ap_put k1, hnn, List.drop_length_add_append, i2]
     ·
      rw [hfp, Int.zero_add]
      exact i3
     ·
      intro y hy
      rcases List.mem_cons.1 hy with rfl | hy
      ·
       exact hkp _
      ·
       exact i4 y hy
    ·
     rw [if_neg hle]
     have hs := ext_split o.f2 n.toNat
     have hl1 : (g (o.f2.extract 0 n.toNat)).length = n.toNat := by rw [hg.len, ByteArray.size_extract]; omega
     have hspl : ap g (o :: a) xs = g (o.f2.extract 0 n.toNat) ++ (g (o.f2.extract n.toNat o.f2.size) ++ ap g a xs) := by
      rw [ap_put k1, ← List.append_assoc, ← hg.app, hs]
     dsimp only
     rw [hpif]
     refine ⟨?_, ?_, ?_, ?_⟩
     ·
      rw [hspl, ap_put rfl]
      dsimp only
      cases keep
      ·
       simp [hg.nil, ap]
      ·
       simp only [if_true]
       rw [List.take_left' hl1]
       simp [ap]
     ·
      rw [hfp, hspl, List.drop_left' hl1, ap_put rfl]
      simp [fromOf]
     ·
      rw [hfp, hfp]
      simp [fromOf]
     ·
      intro y hy
      rw [List.mem_singleton.1 hy]
      exact hkp _
theorem left_sem {α : Type} {g : ByteArray → List α} : ∀ (a : List S70) (xs : List α), (∀ o ∈ a, opOk o = true) → ap g (leftOps a) xs = [] ∧ fromOf (leftOps a) = fromOf a ∧ (∀ o ∈ leftOps a, kindOk o = true)
 | [], xs, _ => ⟨rfl, rfl, by simp [leftOps]⟩
 | o :: a, xs, h => by
  have ho := opOk_cases (h o List.mem_cons_self)
  obtain ⟨i1, i2, i3⟩ := left_sem a (xs.drop o.f1.toNat) (fun x hx => h x (List.mem_cons_of_mem _ hx))
  have hl : leftOps (o :: a) = (⟨3, o.f1, noText⟩ : S70) :: leftOps a := rfl
  rw [hl]
  refine ⟨by rw [ap_drop rfl]; exact i1, ?_, ?_⟩
  ·
   rw [fromOf_cons, fromOf_cons, if_neg (show ¬ (3 : Int) = 2 by decide), i2]
   rcases ho with ⟨k1, k2, k3⟩ | ⟨k1, k2, k3⟩
   ·
    rw [if_neg (by omega)]
   ·
    rw [if_pos k1, k2]
  ·
   intro y hy
   rcases List.mem_cons.1 hy with rfl | hy
   ·
    exact okone 3 o.f1 _ (.inl ⟨.inr rfl, by rcases ho with ⟨k1, k2, k3⟩ | ⟨k1, k2, k3⟩ <;> omega⟩) _ (List.mem_singleton.2 rfl)
   ·
    exact i3 y hy
theorem comp_sem {α : Type} {g : ByteArray → List α} (hg : Wr g) : ∀ (b a : List S70) (xs : List α), (∀ o ∈ a, opOk o = true) → (∀ o ∈ b, opOk o = true) → (∀ o ∈ a, opw o ≤ 268435456) → fromOf b = toOf a → fromOf a ≤ (xs.length : Int) →
  ap g (compOps a b) xs = ap g b (ap g a xs) ∧ fromOf (compOps a b) = fromOf a ∧ (∀ o ∈ compOps a b, kindOk o = true)
 | [], a, xs, ha, _, hs, hf, hx => by
  obtain ⟨i1, i2, i3⟩ := left_sem (g := g) a xs ha
  rw [compOps]
  exact ⟨by rw [show (a.map fun o => (⟨3, o.f1, noText⟩ : S70)) = leftOps a from rfl, i1, ap], i2, i3⟩
 | o :: b, a, xs, ha, hb, hs, hf, hx => by
  have ho := hb o List.mem_cons_self
  have hb' : ∀ x ∈ b, opOk x = true := fun x hx => hb x (List.mem_cons_of_mem _ hx)
  have hfb := fromOf_nonneg (d := b) (fun y hy => kindOk_posN (opOk_kindOk (hb' y hy)))
  rw [fromOf_cons] at hf
  rw [compOps]
  by_cases c2 : o.f0 = 2
  ·
   rw [if_pos c2] at hf
   obtain ⟨i1, i2, i3⟩ := comp_sem hg b a xs ha hb' hs (by omega) hx
   rw [if_pos c2, ap_put c2, ap_put rfl, i1, fromOf_cons, if_pos rfl, i2]
   refine ⟨rfl, by omega, ?_⟩
   intro y hy
   rcases List.mem_cons.1 hy with rfl | hy
   ·
    exact okone 2 0 _ (.inr rfl) _ (List.mem_singleton.2 rfl)
   ·
    exact i3 y hy
  ·
   rw [if_neg c2] at hf
   have hn : 1 ≤ o.f1 := by rcases opOk_cases ho with ⟨k1, k2, k3⟩ | ⟨k1, k2, k3⟩ <;> omega
   obtain ⟨t1, t2, t3, t4⟩ := thr_sem hg (o.f0 == 1) a o.f1 xs ha (by omega) (by omega) hx
   obtain ⟨s1, s2, s3, s4, s5⟩ := thr_inv (o.f0 == 1) (m := 268435456) a o.f1 ha hs (by omega) (by omega)
   have hft : 0 ≤ fromOf (thr (o.f0 == 1) o.f1 a).1 := fromOf_nonneg (fun y hy => kindOk_posN (t4 y hy))
   obtain ⟨i1, i2, i3⟩ := comp_sem hg b (thr (o.f0 == 1) o.f1 a).2 (xs.drop (fromOf (thr (o.f0 == 1) o.f1 a).1).toNat) s2 hb' s3 (by omega) (by rw [List.length_drop]; omega)
   rw [if_neg c2, ap_append _ _ _ t4, i1, t1, t2, fromOf_append, i2]
   refine ⟨?_, by omega, ?_⟩
   ·
    rcases opOk_cases ho with ⟨k1, k2, k3⟩ | ⟨k1, k2, k3⟩
    ·
     rcases k1 with k1 | k1
     ·
      rw [ap_keep k1, if_pos (beq_iff_eq.mpr k1)]
     ·
      rw [ap_drop k1, if_neg (by rw [beq_iff_eq]; omega), List.nil_append]
    ·
     omega
   ·
    intro y hy
    rcases List.mem_append.1 hy with hy | hy
    ·
     exact t4 y hy
    ·
     exact i3 y hy
end Go.Proofs.Ytidihnnkcmeaeaa.A
