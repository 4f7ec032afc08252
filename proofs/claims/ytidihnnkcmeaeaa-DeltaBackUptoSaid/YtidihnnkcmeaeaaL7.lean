/- DeltaBack in plain words: it answers true. Plain lists. No condition but sizes. -/
import Derived.Test.YtidihnnkcmeaeaaL5
import Derived.Test.YtidihnnkcmeaeaaL2a
import Derived.Test.YtidihnnkcmeaeaaL3a
import Derived.Test.YtidihnnkcmeaeaaA33
namespace Go.Proofs.Ytidihnnkcmeaeaa.A
open Go.RowKit Go.Proofs.YtidihnnkcmeaeaaW.PrintWords Go.Proofs.YtidihnnkcmeaeaaW.PrintLast
set_option linter.unusedVariables false

theorem invOps_lens : ∀ (d : List S70) (xs : List Int), chainOk d = true → fromOf d ≤ (xs.length : Int) → fromOf (invOps d xs) = toOf d ∧ toOf (invOps d xs) = fromOf d
  | [], xs, _, _ => by rw [invOps]; exact ⟨rfl, rfl⟩
  | o :: d, xs, h, hx => by
    obtain ⟨ho, _, hc⟩ := chainOk_cons h
    rw [fromOf_cons] at hx
    have hf := fromOf_nonneg (d := d) (fun o ho => kindOk_posN (okc hc o ho))
    rw [invOps_one, fromOf_cons, toOf_cons, fromOf_cons, toOf_cons]
    rcases opOk_cases ho with ⟨k1, k2, k3⟩ | ⟨k1, k2, k3⟩
    · rw [if_neg (show ¬ o.f0 = 2 by omega)] at hx
      obtain ⟨i1, i2⟩ := invOps_lens d (xs.drop o.f1.toNat) hc (by rw [List.length_drop]; omega)
      rw [if_neg (show ¬ o.f0 = 2 by omega), if_neg (show ¬ o.f0 = 2 by omega), if_neg (show ¬ o.f0 = 2 by omega), i1, i2]
      unfold inv1
      rw [if_neg (show ¬ o.f0 = 2 by omega)]
      rcases k1 with k1 | k1
      · rw [if_pos k1, if_neg (show ¬ (1 : Int) = 2 by omega), if_neg (show ¬ (1 : Int) = 2 by omega), if_neg (show ¬ (1 : Int) = 3 by omega), if_neg (show ¬ o.f0 = 3 by omega)]
        exact ⟨rfl, rfl⟩
      · rw [if_neg (show ¬ o.f0 = 1 by omega), if_pos rfl, if_pos rfl, if_pos k1]
        rw [strNums_size, List.length_take]
        exact ⟨rfl, by omega⟩
    · rw [if_pos k1] at hx
      obtain ⟨i1, i2⟩ := invOps_lens d xs hc (by omega)
      rw [if_pos k1, if_pos k1, if_pos k1, i1, i2]
      unfold inv1
      rw [if_pos k1]
      exact ⟨rfl, rfl⟩

theorem inv_can {d : List S70} {xs : List Int} (h : canB d = true) (hx : fromOf d = (xs.length : Int)) : canB (invC d xs) = true ∧ fromOf (invC d xs) = toOf d ∧ toOf (invC d xs) = fromOf d := by
  obtain ⟨c1, c2, c3⟩ := canB_lens h
  obtain ⟨i1, _, _⟩ := invC_chain d xs c1 (by omega)
  obtain ⟨l1, l2⟩ := invOps_lens d xs c1 (by omega)
  have e := invC_eqv d xs c1
  refine ⟨?_, by rw [e.from_, l1], by rw [e.tto, l2]⟩
  simp only [canB, Bool.and_eq_true, decide_eq_true_eq]
  exact ⟨⟨i1, by rw [e.from_, l1]; exact c3⟩, by rw [e.tto, l2]; exact c2⟩

def nb (n : Int) : Int := ((UInt8.ofNat n.toNat).toNat : Int)
theorem nb_bytes (l : List Int) : bytesOf (strOfNums l) = l.map nb := by
  unfold bytesOf strOfNums nb
  simp
theorem nb_nb (n : Int) : nb (nb n) = nb n := by unfold nb; simp; omega
theorem str_nb {l l' : List Int} (h : l.map nb = l'.map nb) : strOfNums l = strOfNums l' := by
  have := congrArg strOfNums h
  rwa [← nb_bytes, ← nb_bytes, str_bytes, str_bytes] at this

theorem ap_back : ∀ (d : List S70) (xs : List Int), chainOk d = true → (xs.length : Int) = fromOf d → (ap bytesOf (invOps d xs) (ap bytesOf d xs)).map nb = xs.map nb
  | [], xs, _, hx => by
    simp only [fromOf] at hx
    obtain rfl := List.eq_nil_of_length_eq_zero (by omega : xs.length = 0)
    rfl
  | o :: d, xs, h, hx => by
    obtain ⟨ho, _, hc⟩ := chainOk_cons h
    have hf := fromOf_nonneg (d := d) (fun o ho => kindOk_posN (okc hc o ho))
    rw [fromOf_cons] at hx
    rw [invOps_one]
    rcases opOk_cases ho with ⟨k1, k2, k3⟩ | ⟨k1, k2, k3⟩
    · rw [if_neg (by omega)] at hx
      rw [if_neg (by omega)]
      have ih := ap_back d (xs.drop o.f1.toNat) hc (by rw [List.length_drop]; omega)
      rcases k1 with k1 | k1
      · have e : inv1 o xs = ⟨1, o.f1, noText⟩ := by unfold inv1; rw [if_neg (by omega), if_pos k1]
        have lt : (xs.take o.f1.toNat).length = o.f1.toNat := by rw [List.length_take]; omega
        rw [e, ap_keep (o := ⟨1, o.f1, noText⟩) rfl, ap_keep k1]
        simp only
        rw [List.take_left' lt, List.drop_left' lt, List.map_append, ih, ← List.map_append, List.take_append_drop]
      · have e : inv1 o xs = ⟨2, 0, strOfNums (xs.take o.f1.toNat)⟩ := by unfold inv1; rw [if_neg (by omega), if_neg (by omega)]
        rw [e, ap_put (o := ⟨2, 0, strOfNums (xs.take o.f1.toNat)⟩) rfl, ap_drop k1]
        simp only
        rw [nb_bytes, List.map_append, ih, List.map_map, show nb ∘ nb = nb from funext nb_nb, ← List.map_append, List.take_append_drop]
    · rw [if_pos k1] at hx
      rw [if_pos k1]
      have ih := ap_back d xs hc (by omega)
      have e : inv1 o xs = ⟨3, (o.f2.size : Int), noText⟩ := by unfold inv1; rw [if_pos k1]
      rw [e, ap_drop (o := ⟨3, (o.f2.size : Int), noText⟩) rfl, ap_put k1]
      simp only
      rw [List.drop_left' (by rw [bytesOf_length]; omega), ih]

theorem op_keep {o : S70} (h : opOk o = true) (k : o.f0 = 1) : o = ⟨1, o.f1, noText⟩ := op_eq h (okN (.inl rfl) (by rcases opOk_cases h with ⟨k1, k2, k3⟩ | ⟨k1, k2, k3⟩ <;> omega)) k (fun _ => rfl) (fun h => absurd k (by omega))
theorem op_drop {o : S70} (h : opOk o = true) (k : o.f0 = 3) : o = ⟨3, o.f1, noText⟩ := op_eq h (okN (.inr rfl) (by rcases opOk_cases h with ⟨k1, k2, k3⟩ | ⟨k1, k2, k3⟩ <;> omega)) k (fun _ => rfl) (fun h => absurd k (by omega))
theorem op_put {o : S70} (h : opOk o = true) (k : o.f0 = 2) : o = ⟨2, 0, o.f2⟩ := op_eq h (okT (by rcases opOk_cases h with ⟨k1, k2, k3⟩ | ⟨k1, k2, k3⟩ <;> omega)) k (fun h => absurd k h) (fun _ => rfl)

theorem inv_twice : ∀ (d : List S70) (xs : List Int), chainOk d = true → fromOf d ≤ (xs.length : Int) → invC (invC d xs) (ap bytesOf d xs) = d
  | [], xs, _, _ => by rw [invC, invC]
  | [o], xs, h, hx => by
    obtain ⟨ho, _, _⟩ := chainOk_cons h
    rw [fromOf_one] at hx
    rw [invC, invC]
    congr 1
    rcases opOk_cases ho with ⟨k1, k2, k3⟩ | ⟨k1, k2, k3⟩
    · rw [if_neg (by omega)] at hx
      rcases k1 with k1 | k1
      · have e : inv1 o xs = ⟨1, o.f1, noText⟩ := by unfold inv1; rw [if_neg (by omega), if_pos k1]
        rw [e]; exact (op_keep ho k1).symm
      · have e : inv1 o xs = ⟨2, 0, strOfNums (xs.take o.f1.toNat)⟩ := by unfold inv1; rw [if_neg (by omega), if_neg (by omega)]
        rw [e]; unfold inv1; rw [if_pos rfl, op_drop ho k1]
        simp only [strNums_size, List.length_take]
        congr 1; omega
    · have e : inv1 o xs = ⟨3, (o.f2.size : Int), noText⟩ := by unfold inv1; rw [if_pos k1]
      rw [e, ap_put k1, ap]; unfold inv1
      rw [if_neg (show ¬ (3 : Int) = 2 by decide), if_neg (show ¬ (3 : Int) = 1 by decide), List.append_nil, List.take_of_length_le (by simp only [bytesOf_length]; omega), str_bytes]
      exact (op_put ho k1).symm
  | o :: q :: d, xs, h, hx => by
    obtain ⟨ho, hh, hc⟩ := chainOk_cons h
    obtain ⟨hq, hh2, hc2⟩ := chainOk_cons hc
    have hne := nbOk_ne (show nbOk o q = true from hh)
    rw [fromOf_cons] at hx
    have hfn := fromOf_nonneg (d := q :: d) (fun o ho => kindOk_posN (okc hc o ho))
    have hfn2 := fromOf_nonneg (d := d) (fun o ho => kindOk_posN (okc hc2 o ho))
    rw [invC]
    rcases opOk_cases ho with ⟨k1, k2, k3⟩ | ⟨k1, k2, k3⟩
    · rw [if_neg (by omega)] at hx
      rw [if_neg (by omega)]
      have ih := inv_twice (q :: d) (xs.drop o.f1.toNat) hc (by rw [List.length_drop]; omega)
      obtain ⟨j1, j2, j3⟩ := invC_chain (q :: d) (xs.drop o.f1.toNat) hc (by rw [List.length_drop]; omega)
      obtain ⟨p, t, hpt⟩ := List.exists_cons_of_ne_nil (j3 (by simp))
      rcases k1 with k1 | k1
      · have e : inv1 o xs = ⟨1, o.f1, noText⟩ := by unfold inv1; rw [if_neg (by omega), if_pos k1]
        have lt : (xs.take o.f1.toNat).length = o.f1.toNat := by rw [List.length_take]; omega
        rw [e, ap_keep k1, hpt, invC, if_neg (show ¬ (1 : Int) = 2 by decide)]
        simp only
        rw [List.drop_left' lt, ← hpt, ih]
        congr 1
        unfold inv1
        rw [if_neg (show ¬ (1 : Int) = 2 by decide), if_pos rfl]
        exact (op_keep ho k1).symm
      · have e : inv1 o xs = ⟨2, 0, strOfNums (xs.take o.f1.toNat)⟩ := by unfold inv1; rw [if_neg (by omega), if_neg (by omega)]
        have hp1 : p.f0 ≠ 3 := by
          rw [hpt, headK_next h (.inl k1)] at j2
          have : p.f0 = 1 := by simpa [headK] using j2
          omega
        rw [e, ap_drop k1, hpt, invC, if_pos rfl, if_neg hp1, ← hpt, ih]
        congr 1
        unfold inv1
        rw [if_pos rfl, op_drop ho k1]
        simp only [strNums_size, List.length_take]
        congr 1; omega
    · rw [if_pos k1] at hx
      rw [if_pos k1]
      by_cases q3 : q.f0 = 3
      · rw [fromOf_cons, if_neg (by omega)] at hx
        have hq1 : 1 ≤ q.f1 := by rcases opOk_cases hq with ⟨j1, j2, j3⟩ | ⟨j1, j2, j3⟩ <;> omega
        have ih := inv_twice d (xs.drop q.f1.toNat) hc2 (by rw [List.length_drop]; omega)
        rw [if_pos q3, ap_put k1, ap_drop q3, invC, if_pos rfl, if_pos rfl]
        simp only
        have eT : ((bytesOf o.f2 ++ ap bytesOf d (xs.drop q.f1.toNat)).take ((o.f2.size : Nat) : Int).toNat) = bytesOf o.f2 := by
          rw [List.take_left' (by rw [bytesOf_length]; omega)]
        have eD : ((bytesOf o.f2 ++ ap bytesOf d (xs.drop q.f1.toNat)).drop ((o.f2.size : Nat) : Int).toNat) = ap bytesOf d (xs.drop q.f1.toNat) := by
          rw [List.drop_left' (by rw [bytesOf_length]; omega)]
        rw [eT, eD, ih, str_bytes, ← op_put ho k1, strNums_size, List.length_take]
        congr 2
        rw [op_drop hq q3]
        simp only
        congr 1; omega
      · have ih := inv_twice (q :: d) xs hc (by omega)
        obtain ⟨j1, j2, j3⟩ := invC_chain (q :: d) xs hc (by omega)
        obtain ⟨p, t, hpt⟩ := List.exists_cons_of_ne_nil (j3 (by simp))
        have e : inv1 o xs = ⟨3, (o.f2.size : Int), noText⟩ := by unfold inv1; rw [if_pos k1]
        rw [if_neg q3, e, ap_put k1, hpt, invC, if_neg (show ¬ (3 : Int) = 2 by decide)]
        simp only
        have eT : ((bytesOf o.f2 ++ ap bytesOf (q :: d) xs).take ((o.f2.size : Nat) : Int).toNat) = bytesOf o.f2 := by
          rw [List.take_left' (by rw [bytesOf_length]; omega)]
        rw [List.drop_left' (by rw [bytesOf_length]; omega), ← hpt, ih]
        congr 1
        unfold inv1
        rw [if_neg (show ¬ (3 : Int) = 2 by decide), if_neg (show ¬ (3 : Int) = 1 by decide)]
        simp only
        rw [eT, str_bytes]
        exact (op_put ho k1).symm

/-- what is kept, and what goes stands there again -/
def wantOps : List S70 → List Int → List S70
  | [], _ => []
  | o :: d, xs => if o.f0 = 2 then wantOps d xs else if o.f0 = 1 then o :: wantOps d (xs.drop o.f1.toNat) else (⟨2, 0, strOfNums (xs.take o.f1.toNat)⟩ : S70) :: o :: wantOps d (xs.drop o.f1.toNat)

theorem want_sem {α : Type} {g : ByteArray → List α} (hg : Wr g) : ∀ (d : List S70) (xs : List Int) (zs : List α), chainOk d = true → fromOf d ≤ (xs.length : Int) → fromOf d ≤ (zs.length : Int) → ap g (invOps d xs) (ap g d zs) = ap g (wantOps d xs) zs
  | [], xs, zs, _, _, _ => by rw [invOps, wantOps, ap, ap]
  | o :: d, xs, zs, h, hx, hz => by
    obtain ⟨ho, _, hc⟩ := chainOk_cons h
    have hf := fromOf_nonneg (d := d) (fun o ho => kindOk_posN (okc hc o ho))
    rw [fromOf_cons] at hx hz
    rw [invOps_one, wantOps]
    rcases opOk_cases ho with ⟨k1, k2, k3⟩ | ⟨k1, k2, k3⟩
    · rw [if_neg (by omega)] at hx hz
      rw [if_neg (by omega), if_neg (by omega)]
      have ih := want_sem hg d (xs.drop o.f1.toNat) (zs.drop o.f1.toNat) hc (by rw [List.length_drop]; omega) (by rw [List.length_drop]; omega)
      rcases k1 with k1 | k1
      · have e : inv1 o xs = ⟨1, o.f1, noText⟩ := by unfold inv1; rw [if_neg (by omega), if_pos k1]
        have lt : (zs.take o.f1.toNat).length = o.f1.toNat := by rw [List.length_take]; omega
        rw [e, ap_keep (o := ⟨1, o.f1, noText⟩) rfl, ap_keep k1, if_pos k1, ap_keep k1]
        simp only
        rw [List.take_left' lt, List.drop_left' lt, ih]
      · have e : inv1 o xs = ⟨2, 0, strOfNums (xs.take o.f1.toNat)⟩ := by unfold inv1; rw [if_neg (by omega), if_neg (by omega)]
        rw [e, ap_put (o := ⟨2, 0, strOfNums (xs.take o.f1.toNat)⟩) rfl, ap_drop k1, if_neg (by omega), ap_put (o := ⟨2, 0, strOfNums (xs.take o.f1.toNat)⟩) rfl, ap_drop k1, ih]
    · rw [if_pos k1] at hx hz
      rw [if_pos k1, if_pos k1]
      have ih := want_sem hg d xs zs hc (by omega) (by omega)
      have e : inv1 o xs = ⟨3, (o.f2.size : Int), noText⟩ := by unfold inv1; rw [if_pos k1]
      have hgl := hg.len o.f2
      rw [e, ap_drop (o := ⟨3, (o.f2.size : Int), noText⟩) rfl, ap_put k1]
      simp only
      rw [List.drop_left' (by omega), ih]

theorem want_ok : ∀ (d : List S70) (xs : List Int), chainOk d = true → fromOf d ≤ (xs.length : Int) → fromOf (wantOps d xs) = fromOf d ∧ toOf (wantOps d xs) = fromOf d ∧ (wantOps d xs).length ≤ 2 * d.length ∧ ∀ o ∈ wantOps d xs, kindOk o = true ∧ o.f2.size ≤ xs.length
  | [], xs, _, _ => by rw [wantOps]; exact ⟨rfl, rfl, by simp, fun o ho => by cases ho⟩
  | o :: d, xs, h, hx => by
    obtain ⟨ho, _, hc⟩ := chainOk_cons h
    have hok := opOk_kindOk ho
    rw [fromOf_cons] at hx
    have hf := fromOf_nonneg (d := d) (fun o ho => kindOk_posN (okc hc o ho))
    rw [wantOps, fromOf_cons o d]
    rcases opOk_cases ho with ⟨k1, k2, k3⟩ | ⟨k1, k2, k3⟩
    · rw [if_neg (show ¬ o.f0 = 2 by omega)] at hx
      obtain ⟨i1, i2, i3, i4⟩ := want_ok d (xs.drop o.f1.toNat) hc (by rw [List.length_drop]; omega)
      have i4' : ∀ p ∈ wantOps d (xs.drop o.f1.toNat), kindOk p = true ∧ p.f2.size ≤ xs.length := fun p hp => ⟨(i4 p hp).1, by have := (i4 p hp).2; rw [List.length_drop] at this; omega⟩
      have hz : o.f2.size ≤ xs.length := by rw [k3]; exact Nat.zero_le _
      rw [if_neg (show ¬ o.f0 = 2 by omega), if_neg (show ¬ o.f0 = 2 by omega)]
      rcases k1 with k1 | k1
      · rw [if_pos k1, fromOf_cons, toOf_cons, if_neg (show ¬ o.f0 = 2 by omega), if_neg (show ¬ o.f0 = 2 by omega), if_neg (show ¬ o.f0 = 3 by omega), i1, i2]
        refine ⟨rfl, rfl, by simp only [List.length_cons]; omega, fun p hp => ?_⟩
        rcases List.mem_cons.1 hp with rfl | hp
        · exact ⟨hok, hz⟩
        · exact i4' p hp
      · rw [if_neg (show ¬ o.f0 = 1 by omega), fromOf_cons, toOf_cons, fromOf_cons, toOf_cons, if_pos rfl, if_pos rfl, if_neg (show ¬ o.f0 = 2 by omega), if_neg (show ¬ o.f0 = 2 by omega), if_pos k1, i1, i2]
        refine ⟨by omega, by simp only [strNums_size, List.length_take]; omega, by simp only [List.length_cons]; omega, fun p hp => ?_⟩
        rcases List.mem_cons.1 hp with rfl | hp
        · exact ⟨rfl, by simp only [strNums_size, List.length_take]; omega⟩
        · rcases List.mem_cons.1 hp with rfl | hp
          · exact ⟨hok, hz⟩
          · exact i4' p hp
    · rw [if_pos k1] at hx
      obtain ⟨i1, i2, i3, i4⟩ := want_ok d xs hc (by omega)
      rw [if_pos k1, if_pos k1, i1, i2]
      exact ⟨by omega, by omega, by simp only [List.length_cons]; omega, i4⟩

theorem back_want {d : List S70} {xs : List Int} (h : canB d = true) (hx : fromOf d = (xs.length : Int)) : canon (compOps d (invC d xs)) = canon (wantOps d xs) := by
  obtain ⟨c1, c2, c3⟩ := canB_lens h
  obtain ⟨n1, n2, n3⟩ := inv_can h hx
  obtain ⟨a1, a2, a3, a4⟩ := comp_eqv h n1 n2
  obtain ⟨w1, w2, w3, w4⟩ := want_ok d xs c1 (by omega)
  obtain ⟨v1, v2⟩ := canon_sem (fun o ho => (w4 o ho).1)
  refine one_delta a1 v1 (by rw [a2, v2.from_, w1]) (fun zs hz => ?_)
  rw [a2] at hz
  rw [a4 wr_gs zs (by omega), v2.sem wr_gs zs (by rw [v2.from_, w1]; omega), ← want_sem wr_gs d xs zs c1 (by omega) (by omega)]
  exact (invC_eqv d xs c1).sem wr_gs _ (by rw [ap_len wr_gs d zs (okc c1) (by omega)]; omega)

theorem rd_in (pre : List S70) (o : S70) (rest : List S70) : rd_T70 (pre ++ o :: rest) (pre.length : Int) = o := by
  simp [rd_T70]

theorem back_loop {xs : List Int} {d : List S70} {both : List S70} {R : Bool} (hxs : xs.length ≤ 5000) (hd : canB d = true) (hf : fromOf d = (xs.length : Int)) (hend : ∀ w : List S70, w = wantOps d xs → Ev (fun k => (galleyref13_Canon.f k w).bind fun bt892 => (if (0 : Int) = 0 then ((galleylaw13_same.f k both bt892.1).bind fun t896 => (some t896)) else (some false))) R) :
    ∀ (rest pre : List S70) (acc : List S70) (at_ : Nat), d = pre ++ rest → chainOk rest = true → acc.length ≤ 2 * pre.length → (at_ : Int) + fromOf rest = (xs.length : Int) → acc ++ wantOps rest (xs.drop at_) = wantOps d xs →
    Ev (fun k => galleylaw13_DeltaBack.l0 k xs both 0 acc (at_ : Int) d (d.length : Int) (pre.length : Int)) R
  | [], pre, acc, at_, he, hc, hl, hat, hw => by
    rw [wantOps, List.append_nil] at hw
    refine Ev.step (fun k => by rw [galleylaw13_DeltaBack.l0, if_neg (by rw [he, List.append_nil]; omega)]) ?_
    exact hend acc hw
  | o :: rest, pre, acc, at_, he, hc, hl, hat, hw => by
    obtain ⟨ho, _, hc2⟩ := chainOk_cons hc
    have hfn := fromOf_nonneg (d := rest) (fun o ho => kindOk_posN (okc hc2 o ho))
    have hlen := can_len hd
    have hdl : d.length = pre.length + (rest.length + 1) := by rw [he, List.length_append, List.length_cons]
    have hw1 : wrap64 ((pre.length : Int) + 1) = ((pre ++ [o]).length : Int) := by rw [List.length_append, List.length_singleton]; unfold wrap64; omega
    have he2 : d = (pre ++ [o]) ++ rest := by rw [he, List.append_assoc]; rfl
    have hrd : rd_T70 d (pre.length : Int) = o := by rw [he]; exact rd_in pre o rest
    rw [fromOf_cons] at hat
    rw [wantOps] at hw
    refine Ev.step (fun k => by rw [galleylaw13_DeltaBack.l0, if_pos (by omega), if_pos (by omega), if_pos (by omega), hrd, hw1]) ?_
    rcases opOk_cases ho with ⟨k1, k2, k3⟩ | ⟨k1, k2, k3⟩
    · rw [if_neg (by omega)] at hat hw
      have hwa : wrap64 ((at_ : Int) + o.f1) = ((at_ + o.f1.toNat : Nat) : Int) := by unfold wrap64; omega
      rcases k1 with k1 | k1
      · rw [if_pos k1] at hw
        refine Ev.congr (fun k => by rw [if_pos k1, if_pos (by omega), hwa]) ?_
        refine back_loop hxs hd hf hend rest (pre ++ [o]) _ (at_ + o.f1.toNat) he2 hc2 (by simp only [List.length_append, List.length_singleton]; omega) (by omega) ?_
        rw [← hw, List.drop_drop, List.append_assoc]; rfl
      · rw [if_neg (show ¬ o.f0 = 1 by omega)] at hw
        refine Ev.congr (fun k => by rw [if_neg (show ¬ o.f0 = 1 by omega), if_pos k1, if_pos (by omega), if_pos (by rw [hwa]; omega), if_pos (by rw [hwa]; omega), Option.bind_some, if_pos (by simp only [List.length_cons, List.length_nil]; omega), hwa]) ?_
        refine back_loop hxs hd hf hend rest (pre ++ [o]) _ (at_ + o.f1.toNat) he2 hc2 (by simp only [List.length_append, List.length_cons, List.length_nil]; omega) (by omega) ?_
        have es : ((xs.take ((at_ + o.f1.toNat : Nat) : Int).toNat).drop ((at_ : Nat) : Int).toNat) = (xs.drop at_).take o.f1.toNat := by
          rw [Int.toNat_natCast, Int.toNat_natCast, List.drop_take]; congr 1; omega
        rw [es, ← hw, List.drop_drop, List.append_assoc]; rfl
    · rw [if_pos k1] at hat hw
      refine Ev.congr (fun k => by rw [if_neg (show ¬ o.f0 = 1 by omega), if_neg (show ¬ o.f0 = 3 by omega)]) ?_
      exact back_loop hxs hd hf hend rest (pre ++ [o]) acc at_ he2 hc2 (by simp only [List.length_append, List.length_singleton]; omega) (by omega) hw

theorem invert_fit {xs : List Int} {d : List S70} (h : canB d = true) (hf : fromOf d = (xs.length : Int)) : delta_Invert.f xs d = some (invC d xs, 0) := by
  unfold delta_Invert.f
  rw [if_pos h, if_pos hf, inv_is (canB_lens h).1 (by omega)]

theorem deltaBack_law (xs : List Int) (a : List S70) (hs : ∀ o ∈ a, o.f2.size ≤ 140737488355328) : Ev (fun k => galleylaw13_DeltaBack.f k xs a) true := by
  unfold galleylaw13_DeltaBack.f
  refine Ev.bind (a := true) (Ev.now _) ?_
  refine Ev.congr (fun k => by rw [if_pos rfl]) ?_
  obtain ⟨sh, hsh, hsh2⟩ := short_ev xs [a] (by simp) (by intro d hd; simp only [List.mem_cons, List.not_mem_nil, or_false] at hd; rw [hd]; exact hs)
  refine Ev.bind hsh ?_
  cases sh with
  | false => exact Ev.congr (fun k => by rw [if_neg (by decide)]) (Ev.now _)
  | true =>
    refine Ev.congr (fun k => by rw [if_pos rfl]) ?_
    obtain ⟨hx, hd⟩ := hsh2 rfl
    obtain ⟨p, ep, ⟨hp, hpf⟩, hpt⟩ := fit_ev (hd a (by simp)) (n := (xs.length : Int)) (by omega) (by omega)
    obtain ⟨c1, c2, c3⟩ := canB_lens hp
    have lt := ap_len wr_bytes p xs (okc c1) (by omega)
    obtain ⟨n1, n2, n3⟩ := inv_can hp hpf
    have e2 : fromOf (invC p xs) = ((ap bytesOf p xs).length : Int) := by rw [n2, lt]
    have len : ∀ {d : List S70}, canB d = true → d.length ≤ 9223372036854775807 := fun h => by have := can_len h; omega
    refine Ev.bind ep ?_
    refine Ev.bind (bytes_ev (by omega)) ?_
    refine Ev.bind (own_ev hp) ?_
    refine Ev.bind (a := (ap bytesOf p xs, 0)) (by rw [apply_fit hp hpf]; exact Ev.now _) ?_
    dsimp only
    refine Ev.bind (bytes_ev (by omega)) ?_
    refine Ev.bind (own_ev hp) ?_
    refine Ev.bind (a := (invC p xs, 0)) (by rw [invert_fit hp hpf]; exact Ev.now _) ?_
    dsimp only
    refine Ev.bind (bytes_ev (by omega)) ?_
    refine Ev.bind (own_ev n1) ?_
    refine Ev.bind (a := (ap bytesOf (invC p xs) (ap bytesOf p xs), 0)) (by rw [apply_fit n1 e2]; exact Ev.now _) ?_
    dsimp only
    refine Ev.bind (bytes_ev (by omega)) ?_
    refine Ev.bind (own_ev n1) ?_
    refine Ev.bind (a := (p, 0)) (by rw [invert_fit n1 e2, inv_twice p xs c1 (by omega)]; exact Ev.now _) ?_
    dsimp only
    have hstr : strOfNums (ap bytesOf (invC p xs) (ap bytesOf p xs)) = strOfNums xs := by
      refine str_nb ?_
      rw [(invC_eqv p xs c1).sem wr_bytes _ (by omega)]
      exact ap_back p xs c1 (by omega)
    refine Ev.congr (fun k => by rw [if_pos rfl, if_pos rfl, if_pos rfl, if_pos rfl, if_pos (by rw [hstr])]) ?_
    refine Ev.bind (same_self _ (len hp)) ?_
    refine Ev.step (fun k => by rw [galleylaw13_DeltaBack.j0, if_neg (by decide)]) ?_
    refine Ev.bind (own_ev hp) ?_
    refine Ev.bind (own_ev n1) ?_
    refine Ev.bind (a := (canon (compOps p (invC p xs)), 0)) (by rw [compose_fit hp n1 n2]; exact Ev.now _) ?_
    dsimp only
    obtain ⟨w1, w2, w3, w4⟩ := want_ok p xs c1 (by omega)
    have hcc := comp_can hp n1 n2
    have hpl := can_len hp
    refine back_loop (xs := xs) (d := p) (R := true) hx hp hpf ?_ p [] [] 0 rfl c1 (by simp) (by omega) (by simp)
    intro w hw
    have hk := refCanon_is (d := w) (by rw [hw]; omega) (fun o ho => (w4 o (by rw [← hw]; exact ho)).1) (fun o ho => by have := (w4 o (by rw [← hw]; exact ho)).2; omega)
    rw [if_pos (by rw [hw]; omega)] at hk
    refine Ev.bind hk ?_
    refine Ev.congr (fun k => by rw [if_pos rfl]) ?_
    dsimp only
    rw [hw, ← back_want hp hpf]
    exact Ev.bind (same_self _ (len hcc)) (Ev.now _)
end Go.Proofs.Ytidihnnkcmeaeaa.A
