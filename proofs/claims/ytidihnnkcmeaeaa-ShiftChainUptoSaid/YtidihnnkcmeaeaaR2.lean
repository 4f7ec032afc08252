/- What the reference's Read answers: by place, what is put and what goes. Plain lists. No condition but a canonical delta. -/
import Derived.Test.YtidihnnkcmeaeaaR1
import Derived.Test.YtidihnnkcmeaeaaP4
import Derived.Test.YtidihnnkcmeaeaaA6
namespace Go.Proofs.Ytidihnnkcmeaeaa.A
open Go.RowKit Go.Proofs.YtidihnnkcmeaeaaW.PrintWords Go.Proofs.YtidihnnkcmeaeaaW.PrintLast
set_option linter.unusedVariables false
theorem rdR_at (pre : List S70) (o : S70) (rest : List S70) : rd_T70 (pre ++ o :: rest) (pre.length : Int) = o := by simp [rd_T70]
theorem PL_ne : ∀ d : List S70, PL d ≠ []
 | [] => by simp [PL]
 | o :: d => by
  rw [PL]
  split
  ·
   simp [attach]
  ·
   intro h
   exact PL_ne d (List.append_eq_nil_iff.1 h).2
theorem attach_none {X : List ByteArray} (h : X ≠ []) : attach noText X = X := by
 cases X with
 | nil => exact absurd rfl h
 | cons s X => rw [attach]; simp only [hd, List.headD_cons, List.tail_cons]; rw [size_nil_append]
theorem app_noText (s : ByteArray) : s ++ noText = s := by
 apply ByteArray.ext
 simp [noText]
theorem read_l1 (d : List S70) (o : S70) (at_ i N : Nat) (X : List ByteArray) (Y0 : List Bool) (R : List ByteArray × List Bool) (hi : i < d.length) (ho : rd_T70 d (i : Int) = o) (ho1 : 1 ≤ o.f1) (hN : (at_ : Int) + o.f1 ≤ (N : Int)) (hN2 : N ≤ 1000000000) (hY : Y0.length = at_)
  (hend : Ev (fun k => galleyref14_Read.l0 k d (wrap64 ((at_ : Int) + o.f1)) (wrap64 ((i : Int) + 1)) X (Y0 ++ (List.replicate o.f1.toNat true ++ List.replicate (N - at_ - o.f1.toNat) false))) R) :
  ∀ (m j : Nat), ((m + j : Nat) : Int) = o.f1 → Ev (fun k => galleyref14_Read.l1 k d (at_ : Int) (i : Int) (j : Int) X (Y0 ++ (List.replicate j true ++ List.replicate (N - at_ - j) false))) R
 | 0, j, hm => by
  have hj : o.f1.toNat = j := by omega
  rw [hj] at hend
  refine Ev.step (fun k => by rw [galleyref14_Read.l1, if_pos (by omega), if_pos (by omega), ho, if_neg (by omega)]) ?_
  exact hend
 | m + 1, j, hm => by
  have hw : wrap64 ((at_ : Int) + (j : Int)) = ((at_ + j : Nat) : Int) := by unfold wrap64; omega
  have hw1 : wrap64 ((j : Int) + 1) = ((j + 1 : Nat) : Int) := by unfold wrap64; omega
  have hset : (Y0 ++ (List.replicate j true ++ List.replicate (N - at_ - j) false)).set ((at_ + j : Nat) : Int).toNat true = Y0 ++ (List.replicate (j + 1) true ++ List.replicate (N - at_ - (j + 1)) false) := by
   obtain ⟨q, hq⟩ : ∃ q, N - at_ - j = q + 1 := ⟨N - at_ - j - 1, by omega⟩
   rw [Int.toNat_natCast, hq, List.set_append_right _ _ (by omega), hY, show at_ + j - at_ = j by omega, List.set_append_right _ _ (by rw [List.length_replicate]; omega), List.length_replicate, Nat.sub_self, List.replicate_succ, List.set_cons_zero, show N - at_ - (j + 1) = q by omega, List.replicate_succ', List.append_assoc]
   rfl
  refine Ev.step (fun k => by rw [galleyref14_Read.l1, if_pos (by omega), if_pos (by omega), ho, if_pos (by omega), hw, if_pos (by omega), if_pos (by simp only [List.length_append, List.length_replicate, hY]; omega), hset, hw1]) ?_
  exact read_l1 d o at_ i N X Y0 R hi ho ho1 hN hN2 hY hend m (j + 1) (by omega)
theorem read_l0 {d : List S70} {N : Nat} (hN : N ≤ 1000000000) (hl : d.length ≤ 9223372036854775806) : ∀ (rest pre : List S70) (at_ : Nat) (X0 : List ByteArray) (t : ByteArray) (Y0 : List Bool), d = pre ++ rest → chainOk rest = true → (at_ : Int) + fromOf rest = (N : Int) → X0.length = at_ → Y0.length = at_ →
  (t = noText ∨ ∀ q s, rest = q :: s → q.f0 ≠ 2) →
  Ev (fun k => galleyref14_Read.l0 k d (at_ : Int) (pre.length : Int) (X0 ++ t :: List.replicate (N - at_) noText) (Y0 ++ List.replicate (N - at_) false)) (X0 ++ attach t (PL rest), Y0 ++ DL rest)
 | [], pre, at_, X0, t, Y0, he, hc, hat, hX, hY, ht => by
  simp only [fromOf] at hat
  have : N - at_ = 0 := by omega
  rw [this]
  refine Ev.step (fun k => by rw [galleyref14_Read.l0, if_neg (by rw [he, List.append_nil]; omega)]) ?_
  rw [PL, DL, attach]
  simp only [hd, List.headD_cons, List.tail_cons, List.replicate_zero, List.append_nil, app_noText]
  exact Ev.now _
 | o :: rest, pre, at_, X0, t, Y0, he, hc, hat, hX, hY, ht => by
  obtain ⟨ho, hh, hc2⟩ := chainOk_cons hc
  have hfn := fromOf_nonneg (d := rest) (fun o ho => kindOk_posN (okc hc2 o ho))
  have hlen : d.length = pre.length + (rest.length + 1) := by rw [he, List.length_append, List.length_cons]
  have hrd : rd_T70 d (pre.length : Int) = o := by rw [he]; exact rdR_at pre o rest
  have hw1 : wrap64 ((pre.length : Int) + 1) = ((pre ++ [o]).length : Int) := by rw [List.length_append, List.length_singleton]; unfold wrap64; omega
  have he2 : d = (pre ++ [o]) ++ rest := by rw [he, List.append_assoc]; rfl
  rw [fromOf_cons] at hat
  rcases opOk_cases ho with ⟨k1, k2, k3⟩ | ⟨k1, k2, k3⟩
  ·
   rw [if_neg (by omega)] at hat
   have hwa : wrap64 ((at_ : Int) + o.f1) = ((at_ + o.f1.toNat : Nat) : Int) := by unfold wrap64; omega
   obtain ⟨m, hm⟩ : ∃ m, o.f1.toNat = m + 1 := ⟨o.f1.toNat - 1, by omega⟩
   have hXs : X0 ++ t :: List.replicate (N - at_) noText = (X0 ++ t :: List.replicate m noText) ++ noText :: List.replicate (N - (at_ + o.f1.toNat)) noText := by
    have : N - at_ = m + (1 + (N - (at_ + o.f1.toNat))) := by omega
    rw [this, ← List.replicate_append_replicate, ← List.replicate_append_replicate, List.append_assoc]
    rfl
   have hPL : ∀ P : List ByteArray, P ≠ [] → (X0 ++ t :: List.replicate m noText) ++ attach noText P = X0 ++ attach t (List.replicate o.f1.toNat noText ++ P) := by
    intro P hP
    rw [attach_none hP, hm, List.replicate_succ, attach]
    simp only [hd, List.cons_append, List.headD_cons, List.tail_cons, app_noText, List.append_assoc]
   have ih := fun (b : Bool) (Yb : List Bool) (hYb : Yb.length = at_ + o.f1.toNat) => read_l0 hN hl rest (pre ++ [o]) (at_ + o.f1.toNat) (X0 ++ t :: List.replicate m noText) noText Yb he2 hc2 (by omega) (by simp only [List.length_append, List.length_cons, List.length_replicate]; omega) hYb (.inl rfl)
   rcases k1 with k1 | k1
   ·
    refine Ev.step (fun k => by rw [galleyref14_Read.l0, if_pos (by omega), if_pos (by omega), hrd, if_neg (show ¬ o.f0 = 2 by omega), if_neg (show ¬ o.f0 = 3 by omega), hwa, hw1, hXs]) ?_
    have := ih false (Y0 ++ List.replicate o.f1.toNat false) (by rw [List.length_append, List.length_replicate]; omega)
    rw [PL, if_neg (show ¬ o.f0 = 2 by omega), DL, if_neg (show ¬ o.f0 = 2 by omega), show (o.f0 == 3) = false by rw [k1]; rfl, ← hPL _ (PL_ne rest)]
    have eY : Y0 ++ List.replicate o.f1.toNat false ++ List.replicate (N - (at_ + o.f1.toNat)) false = Y0 ++ List.replicate (N - at_) false := by
     rw [List.append_assoc, List.replicate_append_replicate, show o.f1.toNat + (N - (at_ + o.f1.toNat)) = N - at_ by omega]
    rw [eY, List.append_assoc Y0 (List.replicate o.f1.toNat false) (DL rest)] at this
    exact this
   ·
    refine Ev.step (fun k => by rw [galleyref14_Read.l0, if_pos (by omega), if_pos (by omega), hrd, if_neg (show ¬ o.f0 = 2 by omega), if_pos k1]) ?_
    have hY1 : Y0 ++ List.replicate (N - at_) false = Y0 ++ (List.replicate 0 true ++ List.replicate (N - at_ - 0) false) := by simp
    rw [hY1]
    refine read_l1 d o at_ pre.length N _ Y0 _ (by omega) hrd (by omega) (by omega) hN hY ?_ o.f1.toNat 0 (by omega)
    rw [hwa, hw1, hXs]
    have := ih true (Y0 ++ List.replicate o.f1.toNat true) (by rw [List.length_append, List.length_replicate]; omega)
    rw [PL, if_neg (show ¬ o.f0 = 2 by omega), DL, if_neg (show ¬ o.f0 = 2 by omega), show (o.f0 == 3) = true by rw [k1]; rfl, ← hPL _ (PL_ne rest)]
    rw [show N - (at_ + o.f1.toNat) = N - at_ - o.f1.toNat by omega] at this ⊢
    rw [List.append_assoc Y0 (List.replicate o.f1.toNat true) (DL rest), List.append_assoc Y0 (List.replicate o.f1.toNat true) (List.replicate (N - at_ - o.f1.toNat) false)] at this
    exact this
  ·
   rw [if_pos k1] at hat
   have htn : t = noText := by
    rcases ht with h | h
    ·
     exact h
    ·
     exact absurd k1 (h o rest rfl)
   subst htn
   have hset : (X0 ++ noText :: List.replicate (N - at_) noText).set ((at_ : Nat) : Int).toNat o.f2 = X0 ++ o.f2 :: List.replicate (N - at_) noText := by
    rw [Int.toNat_natCast, List.set_append_right _ _ (by omega), hX, Nat.sub_self, List.set_cons_zero]
   refine Ev.step (fun k => by rw [galleyref14_Read.l0, if_pos (by omega), if_pos (by omega), hrd, if_pos k1, if_pos (by omega), if_pos (by simp only [List.length_append, List.length_cons, List.length_replicate]; omega), hset, hw1]) ?_
   have ih := read_l0 hN hl rest (pre ++ [o]) at_ X0 o.f2 Y0 he2 hc2 (by omega) hX hY (.inr (fun q s e => by
    subst e
    have hne := nbOk_ne (show nbOk o q = true from hh)
    omega))
   rw [PL, if_pos k1, DL, if_pos k1, attach_none (by simp [attach])]
   exact ih
theorem read_ev {d : List S70} (h : canB d = true) : Ev (fun k => galleyref14_Read.f k d) (PL d, DL d) := by
 obtain ⟨c1, c2, c3⟩ := canB_lens h
 have hl := canB_length h
 have hf := fromOf_nonneg (d := d) (fun o ho => kindOk_posN (okc c1 o ho))
 obtain ⟨n, hn⟩ : ∃ n : Nat, fromOf d = (n : Int) := ⟨(fromOf d).toNat, by omega⟩
 unfold galleyref14_Read.f
 refine Ev.bind (lens14_ev (by omega) (chainOk_opOk c1) (by omega) (by omega)) ?_
 dsimp only
 have hw : wrap64 (fromOf d + 1) = ((n + 1 : Nat) : Int) := by unfold wrap64; omega
 refine Ev.congr (fun k => by rw [hw, if_pos (by omega), if_pos (by omega), if_pos (by omega), if_pos (by omega)]) ?_
 have := read_l0 (d := d) (N := n) (by omega) (by omega) d [] 0 [] noText [] rfl c1 (by omega) rfl rfl (.inl rfl)
 rw [attach_none (PL_ne d)] at this
 rw [hn, Int.toNat_natCast, Int.toNat_natCast]
 simp only [List.nil_append] at this
 exact this
end Go.Proofs.Ytidihnnkcmeaeaa.A
