/- Two neighbours of a canonical delta. Plain lists. No condition. Canon of what is canonical is it. Plain lists. No condition but canonical operations. What a list of operations does to a row; Canon does the same and is canonical. Plain lists. No condition but canonical operations. Two canonical deltas that do the same to a row of unlike places are one. Plain lists. No condition but that they are canonical. What Compose's operations do: the second behind the first. Plain lists. No condition but canonical operations that fit. What Over's operations do: both orders meet. Plain lists. No condition but canonical operations. Over and Compose meet: what they do, and that both orders make one delta. Plain lists. No condition but sizes. ShiftChains in plain words: it answers true. Plain lists. No condition but sizes. -/
import Derived.Test.YtidihnnkcmeaeaaV0
import Derived.Test.YtidihnnkcmeaeaaECompose
import Derived.Test.YtidihnnkcmeaeaaO
import Derived.Test.YtidihnnkcmeaeaaA22
import Derived.Test.YtidihnnkcmeaeaaEApply
import Derived.Test.YtidihnnkcmeaeaaA30
namespace Go.Proofs.Ytidihnnkcmeaeaa.A
open Go.RowKit Go.Proofs.YtidihnnkcmeaeaaW.PrintWords Go.Proofs.YtidihnnkcmeaeaaW.PrintLast Go.Proofs.YtidihnnkcmeaeaaW.PrintMore
set_option linter.unusedVariables false
set_option linter.unusedSimpArgs false
theorem chainOk_cons {o : S70} {d : List S70} (h : chainOk (o :: d) = true) : opOk o = true ∧ hdOk o d = true ∧ chainOk d = true := by
  simp only [chainOk, Bool.and_eq_true] at h
  exact ⟨h.1.1, h.1.2, h.2⟩
theorem nbOk_ne {a b : S70} (h : nbOk a b = true) : a.f0 ≠ b.f0 ∧ ¬ (a.f0 = 3 ∧ b.f0 = 2) := by
  simp only [nbOk, Bool.and_eq_true, bne_iff_ne, ne_eq, Bool.not_eq_true', Bool.and_eq_false_iff, beq_eq_false_iff_ne] at h
  refine ⟨h.1, fun hc => ?_⟩
  rcases h.2 with h | h
  · exact h hc.1
  · exact h hc.2
end Go.Proofs.Ytidihnnkcmeaeaa.A
namespace Go.Proofs.Ytidihnnkcmeaeaa.A
open Go.RowKit Go.Proofs.YtidihnnkcmeaeaaW.PrintWords Go.Proofs.YtidihnnkcmeaeaaW.PrintLast Go.Proofs.YtidihnnkcmeaeaaW.PrintMore
set_option linter.unusedVariables false
set_option linter.unusedSimpArgs false

/-- the kind of a builder's last operation -/
def lk (b : Bs) : Int := if b.last = 2 then (if 0 < b.drop then 3 else 2) else b.last
theorem step_done {b : Bs} {q : S70} (hb : BW b) (hq : opOk q = true) (h1 : lk b ≠ q.f0) (h2 : ¬ (lk b = 3 ∧ q.f0 = 2)) : (b.step q).done = b.done ++ [q] ∧ BW (b.step q) ∧ lk (b.step q) = q.f0 := by
  have hqc := opOk_cases hq
  have hq1 : (q.f0 = 1 ∨ q.f0 = 3) → q = ⟨q.f0, q.f1, noText⟩ := by
    intro h
    rcases hqc with ⟨k1, k2, k3⟩ | ⟨k1, k2, k3⟩
    · cases q; simp only at k3 ⊢; rw [k3]
    · omega
  have hq2 : q.f0 = 2 → q = ⟨2, 0, q.f2⟩ := by
    intro h
    rcases hqc with ⟨k1, k2, k3⟩ | ⟨k1, k2, k3⟩
    · omega
    · cases q; simp only at k1 k2 ⊢; rw [k1, k2]
  rcases hqc with ⟨k1, k2, k3⟩ | ⟨k1, k2, k3⟩
  · rcases k1 with k1 | k1
    · -- Keep
      have hst : b.step q = b.onKeep q.f1 := by unfold Bs.step; rw [if_neg (by omega), if_pos k1]
      have hqe := hq1 (.inl k1)
      rw [k1] at hqe
      rw [hst]
      have h0 : ¬ q.f1 = 0 := by omega
      cases hb with
      | zero =>
        have he : Bs.onKeep ⟨[], 0, noText, 0⟩ q.f1 = ⟨[] ++ [(⟨1, q.f1, noText⟩ : S70)], 1, noText, 0⟩ := by simp [Bs.onKeep, h0]
        rw [he, done_kept, done_zero, ← hqe]
        exact ⟨rfl, by rw [hqe]; exact BW.kept [] _ (by omega), by rw [k1]; simp [lk]⟩
      | kept init m hm => exact absurd (show lk (⟨init ++ [(⟨1, m, noText⟩ : S70)], 1, noText, 0⟩ : Bs) = 1 by simp [lk]) (by rw [k1] at h1; exact h1)
      | chg out put drop ho hd h =>
        have he : Bs.onKeep ⟨out, 2, put, drop⟩ q.f1 = ⟨Bs.done ⟨out, 2, put, drop⟩ ++ [(⟨1, q.f1, noText⟩ : S70)], 1, noText, 0⟩ := by
          simp only [Bs.onKeep, if_neg h0, Bs.done]
          simp
        rw [he, done_kept, ← hqe]
        exact ⟨rfl, by rw [hqe]; exact BW.kept _ _ (by omega), by rw [k1]; simp [lk]⟩
    · -- Drop
      have hst : b.step q = b.onDrop q.f1 := by unfold Bs.step; rw [if_neg (by omega), if_neg (by omega)]
      have hqe := hq1 (.inr k1)
      rw [k1] at hqe
      rw [hst]
      have hpos : 0 < q.f1 := by omega
      cases hb with
      | zero =>
        have he : Bs.onDrop ⟨[], 0, noText, 0⟩ q.f1 = ⟨[], 2, noText, 0 + q.f1⟩ := by simp [Bs.onDrop, hpos]
        rw [he, done_chg, done_zero, if_neg (by rw [noText_size]; omega), if_pos (by omega), Int.zero_add, ← hqe]
        exact ⟨rfl, BW.chg [] noText q.f1 (.inl rfl) (by omega) (.inr hpos), by rw [k1]; simp [lk, hpos]⟩
      | kept init m hm =>
        have he : Bs.onDrop ⟨init ++ [(⟨1, m, noText⟩ : S70)], 1, noText, 0⟩ q.f1 = ⟨init ++ [(⟨1, m, noText⟩ : S70)], 2, noText, 0 + q.f1⟩ := by simp [Bs.onDrop, hpos]
        rw [he, done_kept, done_chg, if_neg (by rw [noText_size]; omega), if_pos (by omega), Int.zero_add, ← hqe]
        exact ⟨rfl, BW.chg _ noText q.f1 (.inr ⟨init, m, rfl⟩) (by omega) (.inr hpos), by rw [k1]; simp [lk, hpos]⟩
      | chg out put drop ho hd h =>
        have hd0 : ¬ 0 < drop := by
          intro hdp
          apply h1
          rw [k1]
          simp [lk, hdp]
        have hz : drop = 0 := by omega
        have hp : 0 < put.size := by omega
        have he : Bs.onDrop ⟨out, 2, put, drop⟩ q.f1 = ⟨out, 2, put, drop + q.f1⟩ := by simp only [Bs.onDrop, if_pos hpos]
        rw [he, done_chg, done_chg, if_pos hp, if_pos (show 0 < drop + q.f1 by omega), if_neg hd0, List.append_nil, hz, Int.zero_add, ← hqe]
        exact ⟨rfl, BW.chg out put q.f1 ho (by omega) (.inl hp), by rw [k1]; simp [lk, hpos]⟩
  · -- Put
    have hst : b.step q = b.onPut q.f2 := by unfold Bs.step; rw [if_pos k1]
    have hqe := hq2 k1
    rw [hst]
    have h0 : ¬ q.f2.size = 0 := by omega
    have hpos : 0 < q.f2.size := by omega
    cases hb with
    | zero =>
      have he : Bs.onPut ⟨[], 0, noText, 0⟩ q.f2 = ⟨[], 2, noText ++ q.f2, 0⟩ := by simp only [Bs.onPut, if_neg h0]
      rw [he, size_nil_append, done_chg, done_zero, if_pos hpos, if_neg (by omega), List.append_nil, ← hqe]
      exact ⟨rfl, BW.chg [] q.f2 0 (.inl rfl) (Int.le_refl 0) (.inl hpos), by rw [k1]; simp [lk]⟩
    | kept init m hm =>
      have he : Bs.onPut ⟨init ++ [(⟨1, m, noText⟩ : S70)], 1, noText, 0⟩ q.f2 = ⟨init ++ [(⟨1, m, noText⟩ : S70)], 2, noText ++ q.f2, 0⟩ := by simp only [Bs.onPut, if_neg h0]
      rw [he, size_nil_append, done_kept, done_chg, if_pos hpos, if_neg (by omega), List.append_nil, ← hqe]
      exact ⟨rfl, BW.chg _ q.f2 0 (.inr ⟨init, m, rfl⟩) (Int.le_refl 0) (.inl hpos), by rw [k1]; simp [lk]⟩
    | chg out put drop ho hd h =>
      exfalso
      by_cases hdp : 0 < drop
      · exact h2 ⟨by simp [lk, hdp], k1⟩
      · apply h1
        rw [k1]
        simp [lk, hdp]
theorem fold_done : ∀ (d : List S70) (b : Bs), BW b → chainOk d = true → (∀ q t, d = q :: t → lk b ≠ q.f0 ∧ ¬ (lk b = 3 ∧ q.f0 = 2)) → (d.foldl Bs.step b).done = b.done ++ d
  | [], b, _, _, _ => by simp
  | q :: d, b, hb, hc, hh => by
    obtain ⟨hq, hh2, hc2⟩ := chainOk_cons hc
    obtain ⟨h1, h2⟩ := hh q d rfl
    obtain ⟨s1, s2, s3⟩ := step_done hb hq h1 h2
    rw [List.foldl_cons, fold_done d _ s2 hc2 (by
      intro a t e
      subst e
      have := nbOk_ne (show nbOk q a = true from hh2)
      rw [s3]
      exact this), s1, List.append_assoc]
    rfl
/-- Canon of a canonical delta is it -/
theorem canon_id {d : List S70} (hc : chainOk d = true) : canon d = d := by
  have := fold_done d Bs.new BW.zero hc (by
    intro q t e
    subst e
    obtain ⟨hq, _, _⟩ := chainOk_cons hc
    have hz : lk Bs.new = 0 := by simp [lk, Bs.new]
    rw [hz]
    rcases opOk_cases hq with ⟨k1, k2, k3⟩ | ⟨k1, k2, k3⟩ <;> omega)
  have h0 : Bs.new.done = [] := done_zero
  rw [h0] at this
  unfold canon
  rw [this]
  rfl
end Go.Proofs.Ytidihnnkcmeaeaa.A
namespace Go.Proofs.Ytidihnnkcmeaeaa.A
open Go.RowKit Go.Proofs.YtidihnnkcmeaeaaW.PrintWords Go.Proofs.YtidihnnkcmeaeaaW.PrintLast Go.Proofs.YtidihnnkcmeaeaaW.PrintMore
set_option linter.unusedVariables false
set_option linter.unusedSimpArgs false

/-- how texts are written: piece by piece, a byte each -/
structure Wr {α : Type} (g : ByteArray → List α) : Prop where
 app : ∀ s t, g (s ++ t) = g s ++ g t
 len : ∀ s, (g s).length = s.size
theorem Wr.nil {α : Type} {g : ByteArray → List α} (h : Wr g) : g noText = [] := List.eq_nil_of_length_eq_zero (by rw [h.len]; rfl)
theorem ap_put {α : Type} {g : ByteArray → List α} {o : S70} {d : List S70} {xs : List α} (h : o.f0 = 2) : ap g (o :: d) xs = g o.f2 ++ ap g d xs := by rw [ap, if_pos h]
theorem ap_keep {α : Type} {g : ByteArray → List α} {o : S70} {d : List S70} {xs : List α} (h : o.f0 = 1) : ap g (o :: d) xs = xs.take o.f1.toNat ++ ap g d (xs.drop o.f1.toNat) := by rw [ap, if_neg (by omega), if_pos h]
theorem ap_drop {α : Type} {g : ByteArray → List α} {o : S70} {d : List S70} {xs : List α} (h : o.f0 = 3) : ap g (o :: d) xs = ap g d (xs.drop o.f1.toNat) := by rw [ap, if_neg (by omega), if_neg (by omega)]
/-- an operation with a kind and a number that is none below 0 -/
def okk (o : S70) : Prop := kindOk o = true
theorem okk_cases {o : S70} (h : kindOk o = true) : o.f0 = 2 ∨ o.f0 = 1 ∧ 0 ≤ o.f1 ∨ o.f0 = 3 ∧ 0 ≤ o.f1 := by
 simp only [kindOk, Bool.and_eq_true, Bool.or_eq_true, decide_eq_true_eq, beq_iff_eq] at h
 omega
theorem ap_append {α : Type} {g : ByteArray → List α} : ∀ (a b : List S70) (xs : List α), (∀ o ∈ a, kindOk o = true) → ap g (a ++ b) xs = ap g a xs ++ ap g b (xs.drop (fromOf a).toNat)
 | [], b, xs, _ => by simp [ap, fromOf]
 | o :: a, b, xs, h => by
  have h' : ∀ x ∈ a, kindOk x = true := fun x hx => h x (List.mem_cons_of_mem _ hx)
  have hf := fromOf_nonneg (d := a) (fun x hx => kindOk_posN (h' x hx))
  rw [List.cons_append, fromOf_cons]
  rcases okk_cases (h o List.mem_cons_self) with k1 | ⟨k1, k2⟩ | ⟨k1, k2⟩
  ·
   rw [ap_put k1, ap_put k1, ap_append a b _ h', if_pos k1, Int.zero_add, List.append_assoc]
  ·
   rw [ap_keep k1, ap_keep k1, ap_append a b _ h', if_neg (by omega), List.append_assoc, List.drop_drop]
   congr 4
   omega
  ·
   rw [ap_drop k1, ap_drop k1, ap_append a b _ h', if_neg (by omega), List.drop_drop]
   congr 3
   omega
theorem ap_len {α : Type} {g : ByteArray → List α} (hg : Wr g) : ∀ (a : List S70) (xs : List α), (∀ o ∈ a, kindOk o = true) → fromOf a ≤ (xs.length : Int) → ((ap g a xs).length : Int) = toOf a
 | [], xs, _, _ => by simp [ap, toOf]
 | o :: a, xs, h, hx => by
  have h' : ∀ x ∈ a, kindOk x = true := fun x hx => h x (List.mem_cons_of_mem _ hx)
  have hf := fromOf_nonneg (d := a) (fun x hx => kindOk_posN (h' x hx))
  rw [fromOf_cons] at hx
  rw [toOf_cons]
  rcases okk_cases (h o List.mem_cons_self) with k1 | ⟨k1, k2⟩ | ⟨k1, k2⟩
  ·
   rw [if_pos k1] at hx
   rw [ap_put k1, if_pos k1, List.length_append, hg.len, Int.natCast_add, ap_len hg a xs h' (by omega)]
  ·
   rw [if_neg (by omega)] at hx
   rw [ap_keep k1, if_neg (by omega), if_neg (by omega), List.length_append, List.length_take, Int.natCast_add, ap_len hg a _ h' (by rw [List.length_drop]; omega)]
   omega
  ·
   rw [if_neg (by omega)] at hx
   rw [ap_drop k1, if_neg (by omega), if_pos k1, ap_len hg a _ h' (by rw [List.length_drop]; omega)]
   omega
/-- two lists that do the same -/
structure Eqv (a b : List S70) : Prop where
 sem : ∀ {α : Type} {g : ByteArray → List α}, Wr g → ∀ xs : List α, fromOf a ≤ (xs.length : Int) → ap g a xs = ap g b xs
 from_ : fromOf a = fromOf b
 tto : toOf a = toOf b
theorem Eqv.refl (a : List S70) : Eqv a a := ⟨fun _ _ _ => rfl, rfl, rfl⟩
theorem Eqv.trans {a b c : List S70} (h : Eqv a b) (k : Eqv b c) : Eqv a c := ⟨fun hg xs hx => (h.sem hg xs hx).trans (k.sem hg xs (by rw [← h.from_]; exact hx)), h.from_.trans k.from_, h.tto.trans k.tto⟩
theorem Eqv.left {a b : List S70} (h : Eqv a b) (c : List S70) (ha : ∀ o ∈ a, kindOk o = true) (hb : ∀ o ∈ b, kindOk o = true) (hc : 0 ≤ fromOf c) : Eqv (a ++ c) (b ++ c) := by
 refine ⟨fun hg xs hx => ?_, by rw [fromOf_append, fromOf_append, h.from_], by rw [toOf_append, toOf_append, h.tto]⟩
 rw [fromOf_append] at hx
 rw [ap_append a c xs ha, ap_append b c xs hb, h.sem hg xs (by omega), h.from_]
theorem Eqv.right {a b : List S70} (h : Eqv a b) (c : List S70) (hc : ∀ o ∈ c, kindOk o = true) : Eqv (c ++ a) (c ++ b) := by
 have hf := fromOf_nonneg (d := c) (fun x hx => kindOk_posN (hc x hx))
 refine ⟨fun hg xs hx => ?_, by rw [fromOf_append, fromOf_append, h.from_], by rw [toOf_append, toOf_append, h.tto]⟩
 rw [fromOf_append] at hx
 rw [ap_append c a xs hc, ap_append c b xs hc, h.sem hg _ (by rw [List.length_drop]; omega)]

/-- a list that grows by one operation -/
theorem chain_snoc : ∀ (l : List S70) (q : S70), chainOk (l ++ [q]) = (chainOk l && opOk q && pvOk l.getLast? q)
 | [], q => by simp [chainOk, hdOk, pvOk]
 | [a], q => by simp [chainOk, hdOk, pvOk, nbOk, Bool.and_comm, Bool.and_left_comm, Bool.and_assoc]
 | a :: b :: l, q => by
  have ih := chain_snoc (b :: l) q
  have e : (a :: b :: l) ++ [q] = a :: ((b :: l) ++ [q]) := rfl
  rw [e, chainOk, ih]
  have h1 : hdOk a ((b :: l) ++ [q]) = hdOk a (b :: l) := rfl
  have h2 : (a :: b :: l).getLast? = (b :: l).getLast? := by simp
  have h3 : chainOk (a :: b :: l) = (opOk a && hdOk a (b :: l) && chainOk (b :: l)) := rfl
  rw [h1, h2, h3]
  simp only [Bool.and_assoc]
structure BK (b : Bs) : Prop where
 bw : BW b
 ok : chainOk b.out = true
theorem BK.new : BK Bs.new := ⟨BW.zero, rfl⟩
theorem kend_last {out : List S70} (h : KEnd out) : out.getLast? = none ∨ ∃ m, out.getLast? = some (⟨1, m, noText⟩ : S70) := by
 rcases h with rfl | ⟨init, m, rfl⟩
 ·
  exact .inl rfl
 ·
  exact .inr ⟨m, by simp⟩
theorem done_chain {b : Bs} (h : BK b) : chainOk b.done = true := by
 obtain ⟨hb, ho⟩ := h
 cases hb with
 | zero => rfl
 | kept init m hm => rw [done_kept]; exact ho
 | chg out put drop hk hd h =>
  have hoo : chainOk out = true := ho
  rw [done_chg]
  have h1 : chainOk (if 0 < put.size then out ++ [(⟨2, 0, put⟩ : S70)] else out) = true := by
   by_cases hp : 0 < put.size
   ·
    rw [if_pos hp, chain_snoc, hoo, opOk_put (by omega), Bool.true_and, Bool.true_and]
    rcases kend_last hk with e | ⟨m, e⟩ <;> rw [e] <;> rfl
   ·
    rw [if_neg hp]; exact hoo
  by_cases hdp : 0 < drop
  ·
   rw [if_pos hdp, chain_snoc, h1, opOk_num (.inr rfl) (by omega), Bool.true_and, Bool.true_and]
   by_cases hp : 0 < put.size
   ·
    rw [if_pos hp]
    simp [pvOk, nbOk]
   ·
    rw [if_neg hp]
    rcases kend_last hk with e | ⟨m, e⟩ <;> rw [e] <;> rfl
  ·
   rw [if_neg hdp, List.append_nil]; exact h1
theorem fromOf_one (o : S70) : fromOf [o] = if o.f0 = 2 then 0 else o.f1 := by rw [fromOf_cons]; simp [fromOf]
theorem toOf_one (o : S70) : toOf [o] = if o.f0 = 2 then (o.f2.size : Int) else if o.f0 = 3 then 0 else o.f1 := by rw [toOf_cons]; simp [toOf]
theorem eqv_keeps {m n : Int} (hm : 0 ≤ m) (hn : 0 ≤ n) : Eqv [(⟨1, m + n, noText⟩ : S70)] [(⟨1, m, noText⟩ : S70), ⟨1, n, noText⟩] := by
 refine ⟨fun hg xs hx => ?_, by simp [fromOf], by simp [toOf]⟩
 rw [ap_keep rfl, ap_keep rfl, ap_keep rfl]
 dsimp only [ap]
 rw [List.append_nil, List.append_nil, show (m + n).toNat = m.toNat + n.toNat by omega, List.take_add]
theorem eqv_drops {m n : Int} (hm : 0 ≤ m) (hn : 0 ≤ n) : Eqv [(⟨3, m + n, noText⟩ : S70)] [(⟨3, m, noText⟩ : S70), ⟨3, n, noText⟩] := by
 refine ⟨fun hg xs hx => ?_, by simp [fromOf], by simp [toOf]⟩
 rw [ap_drop rfl, ap_drop rfl, ap_drop rfl]
 dsimp only [ap]
theorem eqv_puts (s t : ByteArray) : Eqv [(⟨2, 0, s ++ t⟩ : S70)] [(⟨2, 0, s⟩ : S70), ⟨2, 0, t⟩] := by
 refine ⟨fun hg xs hx => ?_, by simp [fromOf], by simp [toOf, ByteArray.size_append]⟩
 rw [ap_put rfl, ap_put rfl, ap_put rfl]
 dsimp only [ap]
 rw [hg.app]
 simp
theorem eqv_swap (s : ByteArray) (n : Int) : Eqv [(⟨2, 0, s⟩ : S70), ⟨3, n, noText⟩] [(⟨3, n, noText⟩ : S70), ⟨2, 0, s⟩] := by
 refine ⟨fun hg xs hx => ?_, by simp [fromOf], by simp [toOf]⟩
 rw [ap_put rfl, ap_drop rfl, ap_drop rfl, ap_put rfl]
theorem eqv_none {q : S70} (h : q = ⟨1, 0, noText⟩ ∨ q = ⟨3, 0, noText⟩ ∨ q = ⟨2, 0, noText⟩) : Eqv [] [q] := by
 rcases h with rfl | rfl | rfl
 ·
  refine ⟨fun hg xs hx => ?_, by simp [fromOf], by simp [toOf]⟩
  rw [ap_keep rfl]; simp [ap]
 ·
  refine ⟨fun hg xs hx => ?_, by simp [fromOf], by simp [toOf]⟩
  rw [ap_drop rfl]; simp [ap]
 ·
  refine ⟨fun hg xs hx => ?_, by simp [fromOf], by simp [toOf, noText_size]⟩
  rw [ap_put rfl, hg.nil]; simp [ap]
/-- an operation as the builder takes it -/
def norm (o : S70) : S70 := if o.f0 = 2 then ⟨2, 0, o.f2⟩ else ⟨o.f0, o.f1, noText⟩
theorem norm_eqv {o : S70} (h : kindOk o = true) : Eqv [norm o] [o] := by
 rcases okk_cases h with k1 | ⟨k1, k2⟩ | ⟨k1, k2⟩
 ·
  have : norm o = ⟨2, 0, o.f2⟩ := by unfold norm; rw [if_pos k1]
  rw [this]
  refine ⟨fun hg xs hx => ?_, by rw [fromOf_one, fromOf_one, if_pos rfl, if_pos k1], by rw [toOf_one, toOf_one, if_pos rfl, if_pos k1]⟩
  rw [ap_put rfl, ap_put k1]
 ·
  have : norm o = ⟨1, o.f1, noText⟩ := by unfold norm; rw [if_neg (by omega), k1]
  rw [this]
  refine ⟨fun hg xs hx => ?_, by rw [fromOf_one, fromOf_one, if_neg (show ¬ (1 : Int) = 2 by decide), if_neg (show ¬ o.f0 = 2 by omega)], by rw [toOf_one, toOf_one, if_neg (show ¬ (1 : Int) = 2 by decide), if_neg (show ¬ (1 : Int) = 3 by decide), if_neg (show ¬ o.f0 = 2 by omega), if_neg (show ¬ o.f0 = 3 by omega)]⟩
  rw [ap_keep rfl, ap_keep k1]
 ·
  have : norm o = ⟨3, o.f1, noText⟩ := by unfold norm; rw [if_neg (by omega), k1]
  rw [this]
  refine ⟨fun hg xs hx => ?_, by rw [fromOf_one, fromOf_one, if_neg (show ¬ (3 : Int) = 2 by decide), if_neg (show ¬ o.f0 = 2 by omega)], by rw [toOf_one, toOf_one, if_neg (show ¬ (3 : Int) = 2 by decide), if_pos (show (3 : Int) = 3 from rfl), if_neg (show ¬ o.f0 = 2 by omega), if_pos k1]⟩
  rw [ap_drop rfl, ap_drop k1]
theorem okc {l : List S70} (h : chainOk l = true) : ∀ o ∈ l, kindOk o = true := fun o ho => opOk_kindOk (chainOk_opOk h o ho)
theorem okone (k n : Int) (s : ByteArray) (h : (k = 1 ∨ k = 3) ∧ 0 ≤ n ∨ k = 2) : ∀ o ∈ [(⟨k, n, s⟩ : S70)], kindOk o = true := by
 intro o ho
 rw [List.mem_singleton.1 ho]
 simp only [kindOk, Bool.and_eq_true, Bool.or_eq_true, decide_eq_true_eq, beq_iff_eq]
 omega
/-- one operation more: the builder does the same -/
theorem step_eqv {b : Bs} {o : S70} (h : BK b) (hk : kindOk o = true) : BK (b.step o) ∧ Eqv (b.step o).done (b.done ++ [o]) := by
 have hdc := okc (done_chain h)
 suffices hs : BK (b.step o) ∧ Eqv (b.step o).done (b.done ++ [norm o]) by
  exact ⟨hs.1, hs.2.trans ((norm_eqv hk).right b.done hdc)⟩
 obtain ⟨hb, hoo⟩ := h
 rcases okk_cases hk with k1 | ⟨k1, k2⟩ | ⟨k1, k2⟩
 ·
  -- Put
  have hno : norm o = ⟨2, 0, o.f2⟩ := by unfold norm; rw [if_pos k1]
  have hst : b.step o = b.onPut o.f2 := by unfold Bs.step; rw [if_pos k1]
  rw [hst, hno]
  by_cases h0 : o.f2.size = 0
  ·
   have : b.onPut o.f2 = b := by simp [Bs.onPut, h0]
   rw [this, noText_eq h0]
   refine ⟨⟨hb, hoo⟩, ?_⟩
   have := (eqv_none (q := ⟨2, 0, noText⟩) (.inr (.inr rfl))).right b.done hdc
   rwa [List.append_nil] at this
  ·
   have hpos : 0 < o.f2.size := by omega
   cases hb with
   | zero =>
    have he : Bs.onPut ⟨[], 0, noText, 0⟩ o.f2 = ⟨[], 2, noText ++ o.f2, 0⟩ := by simp only [Bs.onPut, if_neg h0]
    rw [he, size_nil_append, done_chg, done_zero, if_pos hpos, if_neg (by omega), List.append_nil]
    exact ⟨⟨BW.chg [] o.f2 0 (.inl rfl) (Int.le_refl 0) (.inl hpos), rfl⟩, Eqv.refl _⟩
   | kept init m hm =>
    have he : Bs.onPut ⟨init ++ [(⟨1, m, noText⟩ : S70)], 1, noText, 0⟩ o.f2 = ⟨init ++ [(⟨1, m, noText⟩ : S70)], 2, noText ++ o.f2, 0⟩ := by simp only [Bs.onPut, if_neg h0]
    rw [he, size_nil_append, done_kept, done_chg, if_pos hpos, if_neg (by omega), List.append_nil]
    exact ⟨⟨BW.chg _ o.f2 0 (.inr ⟨init, m, rfl⟩) (Int.le_refl 0) (.inl hpos), hoo⟩, Eqv.refl _⟩
   | chg out put drop ho hd hz =>
    have he : Bs.onPut ⟨out, 2, put, drop⟩ o.f2 = ⟨out, 2, put ++ o.f2, drop⟩ := by simp only [Bs.onPut, if_neg h0]
    have hsz : 0 < (put ++ o.f2).size := by rw [ByteArray.size_append]; omega
    have hout := okc (show chainOk out = true from hoo)
    rw [he, done_chg, done_chg, if_pos hsz]
    refine ⟨⟨BW.chg out (put ++ o.f2) drop ho hd (.inl hsz), hoo⟩, ?_⟩
    have hbase : Eqv (out ++ [(⟨2, 0, put ++ o.f2⟩ : S70)]) ((if 0 < put.size then out ++ [(⟨2, 0, put⟩ : S70)] else out) ++ [(⟨2, 0, o.f2⟩ : S70)]) := by
     by_cases hp : 0 < put.size
     ·
      rw [if_pos hp, List.append_assoc]
      exact (eqv_puts put o.f2).right out hout
     ·
      rw [if_neg hp, noText_eq (show put.size = 0 by omega), size_nil_append]
      exact Eqv.refl _
    by_cases hdp : 0 < drop
    ·
     rw [if_pos hdp]
     have hokA : ∀ x ∈ out ++ [(⟨2, 0, put ++ o.f2⟩ : S70)], kindOk x = true := fun x hx => by
      rcases List.mem_append.1 hx with hx | hx
      ·
       exact hout x hx
      ·
       exact okone 2 0 _ (.inr rfl) x hx
     have hokP : ∀ x ∈ (if 0 < put.size then out ++ [(⟨2, 0, put⟩ : S70)] else out), kindOk x = true := by
      split
      ·
       intro x hx
       rcases List.mem_append.1 hx with hx | hx
       ·
        exact hout x hx
       ·
        exact okone 2 0 _ (.inr rfl) x hx
      ·
       exact hout
     have hokB : ∀ x ∈ (if 0 < put.size then out ++ [(⟨2, 0, put⟩ : S70)] else out) ++ [(⟨2, 0, o.f2⟩ : S70)], kindOk x = true := fun x hx => by
      rcases List.mem_append.1 hx with hx | hx
      ·
       exact hokP x hx
      ·
       exact okone 2 0 _ (.inr rfl) x hx
     have e1 := hbase.left [(⟨3, drop, noText⟩ : S70)] hokA hokB (by rw [fromOf_one, if_neg (show ¬ (3 : Int) = 2 by decide)]; exact hd)
     have e2 := (eqv_swap o.f2 drop).right (if 0 < put.size then out ++ [(⟨2, 0, put⟩ : S70)] else out) hokP
     have e3 := e1.trans (by rw [List.append_assoc]; exact e2)
     have e4 : (if 0 < put.size then out ++ [(⟨2, 0, put⟩ : S70)] else out) ++ [(⟨3, drop, noText⟩ : S70)] ++ [(⟨2, 0, o.f2⟩ : S70)] = (if 0 < put.size then out ++ [(⟨2, 0, put⟩ : S70)] else out) ++ [(⟨3, drop, noText⟩ : S70), ⟨2, 0, o.f2⟩] := by
      rw [List.append_assoc]; rfl
     rw [e4]
     exact e3
    ·
     rw [if_neg hdp, List.append_nil, List.append_nil]
     exact hbase
 ·
  -- Keep
  have hno : norm o = ⟨1, o.f1, noText⟩ := by unfold norm; rw [if_neg (by omega), k1]
  have hst : b.step o = b.onKeep o.f1 := by unfold Bs.step; rw [if_neg (by omega), if_pos k1]
  rw [hst, hno]
  by_cases h0 : o.f1 = 0
  ·
   have : b.onKeep o.f1 = b := by simp [Bs.onKeep, h0]
   rw [this, h0]
   refine ⟨⟨hb, hoo⟩, ?_⟩
   have := (eqv_none (q := ⟨1, 0, noText⟩) (.inl rfl)).right b.done hdc
   rwa [List.append_nil] at this
  ·
   cases hb with
   | zero =>
    have he : Bs.onKeep ⟨[], 0, noText, 0⟩ o.f1 = ⟨[] ++ [(⟨1, o.f1, noText⟩ : S70)], 1, noText, 0⟩ := by simp [Bs.onKeep, h0]
    rw [he, done_kept, done_zero]
    refine ⟨⟨BW.kept [] _ k2, ?_⟩, Eqv.refl _⟩
    show chainOk ([] ++ [(⟨1, o.f1, noText⟩ : S70)]) = true
    rw [chain_snoc, opOk_num (.inl rfl) (by omega)]
    rfl
   | kept init m hm =>
    have hg : growLast (init ++ [(⟨1, m, noText⟩ : S70)]) o.f1 = init ++ [(⟨1, m + o.f1, noText⟩ : S70)] := by
     unfold growLast
     have hx : (init ++ [(⟨1, m, noText⟩ : S70)]).getD ((init ++ [(⟨1, m, noText⟩ : S70)]).length - 1) z70 = ⟨1, m, noText⟩ := by
      rw [List.length_append, List.length_singleton, Nat.add_sub_cancel, List.getD_eq_getElem?_getD, List.getElem?_append_right (Nat.le_refl _)]
      simp
     rw [hx, List.length_append, List.length_singleton, Nat.add_sub_cancel, List.set_append_right _ _ (Nat.le_refl _), Nat.sub_self]
     rfl
    have he : Bs.onKeep ⟨init ++ [(⟨1, m, noText⟩ : S70)], 1, noText, 0⟩ o.f1 = ⟨init ++ [(⟨1, m + o.f1, noText⟩ : S70)], 1, noText, 0⟩ := by
     simp only [Bs.onKeep, if_neg h0, if_true, hg]
    have hoo2 : chainOk (init ++ [(⟨1, m, noText⟩ : S70)]) = true := hoo
    rw [chain_snoc, Bool.and_eq_true, Bool.and_eq_true] at hoo2
    have hinit := okc hoo2.1.1
    rw [he, done_kept, done_kept]
    refine ⟨⟨BW.kept init _ (by omega), ?_⟩, ?_⟩
    ·
     show chainOk (init ++ [(⟨1, m + o.f1, noText⟩ : S70)]) = true
     rw [chain_snoc, hoo2.1.1, opOk_num (.inl rfl) (by omega), Bool.and_self, Bool.true_and]
     have hp2 := hoo2.2
     cases hl : init.getLast? with
     | none => rfl
     | some z => rw [hl] at hp2; exact hp2
    ·
     rw [List.append_assoc]
     exact (eqv_keeps hm k2).right init hinit
   | chg out put drop ho hd hz =>
    have he : Bs.onKeep ⟨out, 2, put, drop⟩ o.f1 = ⟨Bs.done ⟨out, 2, put, drop⟩ ++ [(⟨1, o.f1, noText⟩ : S70)], 1, noText, 0⟩ := by
     simp only [Bs.onKeep, if_neg h0, Bs.done]
     simp
    have hdn := done_chain ⟨BW.chg out put drop ho hd hz, hoo⟩
    rw [he, done_kept]
    refine ⟨⟨BW.kept _ _ k2, ?_⟩, Eqv.refl _⟩
    show chainOk (Bs.done ⟨out, 2, put, drop⟩ ++ [(⟨1, o.f1, noText⟩ : S70)]) = true
    rw [chain_snoc, hdn, opOk_num (.inl rfl) (by omega), Bool.true_and, Bool.true_and, done_chg]
    by_cases hdp : 0 < drop
    ·
     rw [if_pos hdp]
     simp [pvOk, nbOk]
    ·
     rw [if_neg hdp, List.append_nil, if_pos (show 0 < put.size by omega)]
     simp [pvOk, nbOk]
 ·
  -- Drop
  have hno : norm o = ⟨3, o.f1, noText⟩ := by unfold norm; rw [if_neg (by omega), k1]
  have hst : b.step o = b.onDrop o.f1 := by unfold Bs.step; rw [if_neg (by omega), if_neg (by omega)]
  rw [hst, hno]
  by_cases h0 : o.f1 = 0
  ·
   have : b.onDrop o.f1 = b := by simp [Bs.onDrop, h0]
   rw [this, h0]
   refine ⟨⟨hb, hoo⟩, ?_⟩
   have := (eqv_none (q := ⟨3, 0, noText⟩) (.inr (.inl rfl))).right b.done hdc
   rwa [List.append_nil] at this
  ·
   have hpos : 0 < o.f1 := by omega
   cases hb with
   | zero =>
    have he : Bs.onDrop ⟨[], 0, noText, 0⟩ o.f1 = ⟨[], 2, noText, 0 + o.f1⟩ := by simp [Bs.onDrop, hpos]
    rw [he, done_chg, done_zero, if_neg (by rw [noText_size]; omega), if_pos (by omega), Int.zero_add]
    exact ⟨⟨BW.chg [] noText o.f1 (.inl rfl) k2 (.inr hpos), rfl⟩, Eqv.refl _⟩
   | kept init m hm =>
    have he : Bs.onDrop ⟨init ++ [(⟨1, m, noText⟩ : S70)], 1, noText, 0⟩ o.f1 = ⟨init ++ [(⟨1, m, noText⟩ : S70)], 2, noText, 0 + o.f1⟩ := by simp [Bs.onDrop, hpos]
    rw [he, done_kept, done_chg, if_neg (by rw [noText_size]; omega), if_pos (by omega), Int.zero_add]
    exact ⟨⟨BW.chg _ noText o.f1 (.inr ⟨init, m, rfl⟩) k2 (.inr hpos), hoo⟩, Eqv.refl _⟩
   | chg out put drop ho hd hz =>
    have he : Bs.onDrop ⟨out, 2, put, drop⟩ o.f1 = ⟨out, 2, put, drop + o.f1⟩ := by simp only [Bs.onDrop, if_pos hpos]
    have hout := okc (show chainOk out = true from hoo)
    rw [he, done_chg, done_chg, if_pos (show 0 < drop + o.f1 by omega)]
    refine ⟨⟨BW.chg out put (drop + o.f1) ho (by omega) (.inr (by omega)), hoo⟩, ?_⟩
    have hokP : ∀ x ∈ (if 0 < put.size then out ++ [(⟨2, 0, put⟩ : S70)] else out), kindOk x = true := by
     split
     ·
      intro x hx
      rcases List.mem_append.1 hx with hx | hx
      ·
       exact hout x hx
      ·
       exact okone 2 0 _ (.inr rfl) x hx
     ·
      exact hout
    by_cases hdp : 0 < drop
    ·
     rw [if_pos hdp, List.append_assoc]
     exact (eqv_drops hd k2).right _ hokP
    ·
     rw [if_neg hdp, List.append_nil, show drop = 0 by omega, Int.zero_add]
     exact Eqv.refl _
theorem fold_eqv : ∀ (d : List S70) (b : Bs), BK b → (∀ o ∈ d, kindOk o = true) → BK (d.foldl Bs.step b) ∧ Eqv (d.foldl Bs.step b).done (b.done ++ d)
 | [], b, hb, _ => ⟨hb, by rw [List.foldl_nil, List.append_nil]; exact Eqv.refl _⟩
 | o :: d, b, hb, h => by
  obtain ⟨s1, s2⟩ := step_eqv hb (h o List.mem_cons_self)
  have h' : ∀ x ∈ d, kindOk x = true := fun x hx => h x (List.mem_cons_of_mem _ hx)
  obtain ⟨t1, t2⟩ := fold_eqv d (b.step o) s1 h'
  rw [List.foldl_cons]
  refine ⟨t1, t2.trans ?_⟩
  have hokD := okc (done_chain s1)
  have hokE : ∀ x ∈ b.done ++ [o], kindOk x = true := fun x hx => by
   rcases List.mem_append.1 hx with hx | hx
   ·
    exact okc (done_chain hb) x hx
   ·
    rw [List.mem_singleton.1 hx]; exact h o List.mem_cons_self
  have := s2.left d hokD hokE (fromOf_nonneg (fun x hx => kindOk_posN (h' x hx)))
  rwa [List.append_assoc] at this
/-- Canon is canonical and does the same -/
theorem canon_sem {d : List S70} (h : ∀ o ∈ d, kindOk o = true) : chainOk (canon d) = true ∧ Eqv (canon d) d := by
 obtain ⟨h1, h2⟩ := fold_eqv d Bs.new BK.new h
 have h0 : Bs.new.done = [] := done_zero
 rw [h0, List.nil_append] at h2
 exact ⟨done_chain h1, h2⟩
end Go.Proofs.Ytidihnnkcmeaeaa.A
namespace Go.Proofs.Ytidihnnkcmeaeaa.A
open Go.RowKit Go.Proofs.YtidihnnkcmeaeaaW.PrintWords Go.Proofs.YtidihnnkcmeaeaaW.PrintLast Go.Proofs.YtidihnnkcmeaeaaW.PrintMore
set_option linter.unusedVariables false
set_option linter.unusedSimpArgs false

theorem bytesOf_app (s t : ByteArray) : bytesOf (s ++ t) = bytesOf s ++ bytesOf t := by
 unfold bytesOf
 rw [← List.map_append]
 congr 1
theorem wr_bytes : Wr bytesOf := ⟨bytesOf_app, bytesOf_length⟩
/-- places, each unlike the others -/
def tk : Nat → Nat → List (Nat ⊕ Int)
 | _, 0 => []
 | x, n + 1 => .inl x :: tk (x + 1) n
theorem tk_len : ∀ (n x : Nat), (tk x n).length = n
 | 0, x => rfl
 | n + 1, x => by simp [tk, tk_len n]
theorem tk_drop : ∀ (k x n : Nat), (tk x n).drop k = tk (x + k) (n - k)
 | 0, x, n => by simp
 | k + 1, x, 0 => by simp [tk]
 | k + 1, x, n + 1 => by
  rw [tk, List.drop_succ_cons, tk_drop k (x + 1) n]
  congr 1 <;> omega
theorem tk_take : ∀ (k x n : Nat), k ≤ n → (tk x n).take k = tk x k
 | 0, x, n, _ => by simp [tk]
 | k + 1, x, 0, h => by omega
 | k + 1, x, n + 1, h => by
  rw [tk, List.take_succ_cons, tk_take k (x + 1) n (by omega)]
  rfl
theorem tk_split (k j x : Nat) : tk x (k + j) = tk x k ++ tk (x + k) j := by
 have h1 := List.take_append_drop k (tk x (k + j))
 rw [tk_take k x _ (by omega), tk_drop] at h1
 rw [← h1]
 congr 2
 omega
theorem tk_head (x n : Nat) (h : 1 ≤ n) : (tk x n).head? = some (.inl x) := by
 cases n with
 | zero => omega
 | succ n => rfl
def gs (s : ByteArray) : List (Nat ⊕ Int) := (bytesOf s).map .inr
theorem wr_gs : Wr gs := ⟨fun s t => by unfold gs; rw [bytesOf_app, List.map_append], fun s => by unfold gs; rw [List.length_map, bytesOf_length]⟩
theorem map_inr_inj : ∀ {l l' : List Int}, l.map (Sum.inr : Int → Nat ⊕ Int) = l'.map Sum.inr → l = l'
 | [], [], _ => rfl
 | [], _ :: _, h => by simp at h
 | _ :: _, [], h => by simp at h
 | a :: l, b :: l', h => by
  rw [List.map_cons, List.map_cons] at h
  injection h with h1 h2
  rw [Sum.inr.inj h1, map_inr_inj h2]
theorem gs_inj {s t : ByteArray} (h : gs s = gs t) : s = t := by
 have h1 : bytesOf s = bytesOf t := map_inr_inj h
 rw [← str_bytes s, ← str_bytes t, h1]
theorem gs_inr (s : ByteArray) : ∀ z ∈ gs s, ∃ y, z = .inr y := by
 intro z hz
 obtain ⟨y, _, rfl⟩ := List.mem_map.1 hz
 exact ⟨y, rfl⟩
theorem gs_head {s : ByteArray} (h : 1 ≤ s.size) : ∃ y t, gs s = .inr y :: t := by
 have hl := wr_gs.len s
 cases hs : gs s with
 | nil => rw [hs] at hl; simp at hl; omega
 | cons z t =>
  obtain ⟨y, rfl⟩ := gs_inr s z (by rw [hs]; exact List.mem_cons_self)
  exact ⟨y, t, rfl⟩
/-- what a canonical delta begins with -/
theorem begins {o : S70} {d : List S70} {x n : Nat} (hc : chainOk (o :: d) = true) (hn : fromOf (o :: d) = (n : Int)) :
  (o.f0 = 1 → 1 ≤ o.f1.toNat ∧ o.f1.toNat ≤ n ∧ ap gs (o :: d) (tk x n) = tk x o.f1.toNat ++ ap gs d (tk (x + o.f1.toNat) (n - o.f1.toNat)) ∧ fromOf d = ((n - o.f1.toNat : Nat) : Int)) ∧
  (o.f0 = 3 → 1 ≤ o.f1.toNat ∧ o.f1.toNat ≤ n ∧ ap gs (o :: d) (tk x n) = ap gs d (tk (x + o.f1.toNat) (n - o.f1.toNat)) ∧ fromOf d = ((n - o.f1.toNat : Nat) : Int)) ∧
  (o.f0 = 2 → ap gs (o :: d) (tk x n) = gs o.f2 ++ ap gs d (tk x n) ∧ fromOf d = (n : Int) ∧ 1 ≤ o.f2.size) := by
 obtain ⟨ho, hh, hc2⟩ := chainOk_cons hc
 have hf := fromOf_nonneg (d := d) (fun y hy => kindOk_posN (opOk_kindOk (chainOk_opOk hc2 y hy)))
 rw [fromOf_cons] at hn
 rcases opOk_cases ho with ⟨k1, k2, k3⟩ | ⟨k1, k2, k3⟩
 ·
  rw [if_neg (by omega)] at hn
  refine ⟨fun h => ⟨by omega, by omega, ?_, by omega⟩, fun h => ⟨by omega, by omega, ?_, by omega⟩, fun h => by omega⟩
  ·
   rw [ap_keep h, tk_take _ _ _ (by omega), tk_drop]
  ·
   rw [ap_drop h, tk_drop]
 ·
  rw [if_pos k1] at hn
  exact ⟨fun h => by omega, fun h => by omega, fun h => ⟨by rw [ap_put k1], by omega, k3⟩⟩
/-- it doesn't begin with a Keep: its first place isn't there -/
theorem no_keep {d : List S70} {x n : Nat} (hc : chainOk d = true) (hn : fromOf d = (n : Int)) (h : ∀ o t, d = o :: t → o.f0 ≠ 1) : (ap gs d (tk x n)).head? ≠ some (.inl x) := by
 cases d with
 | nil => simp [ap]
 | cons o d =>
  obtain ⟨b1, b2, b3⟩ := begins (x := x) hc hn
  obtain ⟨ho, hh, hc2⟩ := chainOk_cons hc
  have h1 := h o d rfl
  rcases opOk_cases ho with ⟨k1, k2, k3⟩ | ⟨k1, k2, k3⟩
  ·
   have k3' : o.f0 = 3 := by omega
   obtain ⟨c1, c2, c3, c4⟩ := b2 k3'
   rw [c3]
   cases d with
   | nil => simp [ap]
   | cons q t =>
    have hn2 := nbOk_ne (show nbOk o q = true from hh)
    obtain ⟨hq, _, _⟩ := chainOk_cons hc2
    have hq1 : q.f0 = 1 := by rcases opOk_cases hq with ⟨j1, j2, j3⟩ | ⟨j1, j2, j3⟩ <;> omega
    obtain ⟨e1, e2, e3, e4⟩ := (begins (x := x + o.f1.toNat) hc2 c4).1 hq1
    rw [e3, List.head?_append, tk_head _ _ e1]
    simp
    omega
  ·
   obtain ⟨c1, c2, c3⟩ := b3 k1
   obtain ⟨y, t, hy⟩ := gs_head c3
   rw [c1, hy]
   simp
/-- it doesn't begin with a Put: no byte comes first -/
theorem no_put {d : List S70} {x n : Nat} (hc : chainOk d = true) (hn : fromOf d = (n : Int)) (h : ∀ o t, d = o :: t → o.f0 ≠ 2) (z : Int) : (ap gs d (tk x n)).head? ≠ some (.inr z) := by
 cases d with
 | nil => simp [ap]
 | cons o d =>
  obtain ⟨b1, b2, b3⟩ := begins (x := x) hc hn
  obtain ⟨ho, hh, hc2⟩ := chainOk_cons hc
  have h1 := h o d rfl
  rcases opOk_cases ho with ⟨k1, k2, k3⟩ | ⟨k1, k2, k3⟩
  ·
   rcases k1 with k1 | k1
   ·
    obtain ⟨c1, c2, c3, c4⟩ := b1 k1
    rw [c3, List.head?_append, tk_head _ _ c1]
    simp
   ·
    obtain ⟨c1, c2, c3, c4⟩ := b2 k1
    rw [c3]
    cases d with
    | nil => simp [ap]
    | cons q t =>
     have hn2 := nbOk_ne (show nbOk o q = true from hh)
     obtain ⟨hq, _, _⟩ := chainOk_cons hc2
     have hq1 : q.f0 = 1 := by rcases opOk_cases hq with ⟨j1, j2, j3⟩ | ⟨j1, j2, j3⟩ <;> omega
     obtain ⟨e1, e2, e3, e4⟩ := (begins (x := x + o.f1.toNat) hc2 c4).1 hq1
     rw [e3, List.head?_append, tk_head _ _ e1]
     simp
  ·
   omega
theorem inr_split : ∀ {l1 l2 A B : List (Nat ⊕ Int)}, (∀ z ∈ l1, ∃ y, z = .inr y) → (∀ z ∈ l2, ∃ y, z = .inr y) → (∀ z, A.head? ≠ some (.inr z)) → (∀ z, B.head? ≠ some (.inr z)) → l1 ++ A = l2 ++ B → l1 = l2 ∧ A = B
 | [], [], A, B, _, _, _, _, h => ⟨rfl, h⟩
 | [], z :: l2, A, B, _, h2, hA, _, h => by
  obtain ⟨y, rfl⟩ := h2 z List.mem_cons_self
  have h' : A = .inr y :: (l2 ++ B) := h
  exact absurd (by rw [h']; rfl) (hA y)
 | z :: l1, [], A, B, h1, _, _, hB, h => by
  obtain ⟨y, rfl⟩ := h1 z List.mem_cons_self
  have h' : .inr y :: (l1 ++ A) = B := h
  exact absurd (by rw [← h']; rfl) (hB y)
 | z :: l1, w :: l2, A, B, h1, h2, hA, hB, h => by
  have h' : z :: (l1 ++ A) = w :: (l2 ++ B) := h
  injection h' with e1 e2
  obtain ⟨i1, i2⟩ := inr_split (fun v hv => h1 v (List.mem_cons_of_mem _ hv)) (fun v hv => h2 v (List.mem_cons_of_mem _ hv)) hA hB e2
  exact ⟨by rw [e1, i1], i2⟩
theorem op_eq {p q : S70} (hp : opOk p = true) (hq : opOk q = true) (h0 : p.f0 = q.f0) (h1 : p.f0 ≠ 2 → p.f1 = q.f1) (h2 : p.f0 = 2 → p.f2 = q.f2) : p = q := by
 rcases opOk_cases hp with ⟨k1, k2, k3⟩ | ⟨k1, k2, k3⟩
 ·
  rcases opOk_cases hq with ⟨j1, j2, j3⟩ | ⟨j1, j2, j3⟩
  ·
   cases p; cases q; simp only at *; rw [h0, h1 (by omega), k3, j3]
  ·
   omega
 ·
  rcases opOk_cases hq with ⟨j1, j2, j3⟩ | ⟨j1, j2, j3⟩
  ·
   omega
  ·
   have := h2 k1
   cases p; cases q; simp only at *; rw [h0, k2, j2, this]
/-- one longer Keep than the other: no -/
theorem keep_less {d : List S70} {x m j k : Nat} {B : List (Nat ⊕ Int)} (hj : 1 ≤ j) (hc : chainOk d = true) (hn : fromOf d = (k : Int)) (h : ∀ o t, d = o :: t → o.f0 ≠ 1) : tk x m ++ ap gs d (tk (x + m) k) ≠ tk x (m + j) ++ B := by
 intro e
 rw [tk_split, List.append_assoc, List.append_right_inj] at e
 apply no_keep (x := x + m) hc hn h
 rw [e, List.head?_append, tk_head _ _ hj]
 rfl
theorem uniq : ∀ (a b : List S70) (x n : Nat), chainOk a = true → chainOk b = true → fromOf a = (n : Int) → fromOf b = (n : Int) → ap gs a (tk x n) = ap gs b (tk x n) → a = b
 | [], [], x, n, _, _, _, _, _ => rfl
 | [], q :: b, x, n, ha, hb, hna, hnb, h => by
  exfalso
  have hn0 : (n : Int) = 0 := by rw [← hna]; rfl
  obtain ⟨c1, c2, c3⟩ := begins (x := x) hb hnb
  obtain ⟨hq, _, _⟩ := chainOk_cons hb
  rcases opOk_cases hq with ⟨k1, k2, k3⟩ | ⟨k1, k2, k3⟩
  ·
   rcases k1 with k1 | k1
   ·
    have := c1 k1; omega
   ·
    have := c2 k1; omega
  ·
   obtain ⟨d1, d2, d3⟩ := c3 k1
   obtain ⟨y, t, hy⟩ := gs_head d3
   rw [d1, hy, ap] at h
   simp at h
 | p :: a, [], x, n, ha, hb, hna, hnb, h => by
  exfalso
  have hn0 : (n : Int) = 0 := by rw [← hnb]; rfl
  obtain ⟨c1, c2, c3⟩ := begins (x := x) ha hna
  obtain ⟨hq, _, _⟩ := chainOk_cons ha
  rcases opOk_cases hq with ⟨k1, k2, k3⟩ | ⟨k1, k2, k3⟩
  ·
   rcases k1 with k1 | k1
   ·
    have := c1 k1; omega
   ·
    have := c2 k1; omega
  ·
   obtain ⟨d1, d2, d3⟩ := c3 k1
   obtain ⟨y, t, hy⟩ := gs_head d3
   rw [d1, hy, ap] at h
   simp at h
 | p :: a, q :: b, x, n, ha, hb, hna, hnb, h => by
  obtain ⟨pk, pd, pp⟩ := begins (x := x) ha hna
  obtain ⟨qk, qd, qp⟩ := begins (x := x) hb hnb
  obtain ⟨hp, hhp, hca⟩ := chainOk_cons ha
  obtain ⟨hq, hhq, hcb⟩ := chainOk_cons hb
  have hpc := opOk_cases hp
  have hqc := opOk_cases hq
  -- behind a head
  have tailne : ∀ {o : S70} {d : List S70}, hdOk o d = true → ∀ y t, d = y :: t → y.f0 ≠ o.f0 := by
   intro o d hh y t e
   subst e
   exact fun e => (nbOk_ne (show nbOk o y = true from hh)).1 e.symm
  have headk : ∀ {o : S70} {d : List S70}, (∀ y t, o :: d = y :: t → y.f0 ≠ 1) ↔ o.f0 ≠ 1 := by
   intro o d
   exact ⟨fun h => h o d rfl, fun h y t e => by injection e with e1 e2; rw [← e1]; exact h⟩
  have headp : ∀ {o : S70} {d : List S70}, (∀ y t, o :: d = y :: t → y.f0 ≠ 2) ↔ o.f0 ≠ 2 := by
   intro o d
   exact ⟨fun h => h o d rfl, fun h y t e => by injection e with e1 e2; rw [← e1]; exact h⟩
  by_cases p1 : p.f0 = 1
  ·
   obtain ⟨u1, u2, u3, u4⟩ := pk p1
   by_cases q1 : q.f0 = 1
   ·
    obtain ⟨v1, v2, v3, v4⟩ := qk q1
    rw [u3, v3] at h
    have hta := tailne hhp
    have htb := tailne hhq
    rw [p1] at hta
    rw [q1] at htb
    have hm : p.f1.toNat = q.f1.toNat := by
     rcases Nat.lt_trichotomy p.f1.toNat q.f1.toNat with hlt | he | hlt
     ·
      exfalso
      obtain ⟨j, hj⟩ : ∃ j, q.f1.toNat = p.f1.toNat + j := ⟨q.f1.toNat - p.f1.toNat, by omega⟩
      refine keep_less (m := p.f1.toNat) (j := j) (by omega) hca u4 hta ?_ (B := ap gs b (tk (x + q.f1.toNat) (n - q.f1.toNat))) (x := x)
      rw [← hj]
      exact h
     ·
      exact he
     ·
      exfalso
      obtain ⟨j, hj⟩ : ∃ j, p.f1.toNat = q.f1.toNat + j := ⟨p.f1.toNat - q.f1.toNat, by omega⟩
      refine keep_less (m := q.f1.toNat) (j := j) (by omega) hcb v4 htb ?_ (B := ap gs a (tk (x + p.f1.toNat) (n - p.f1.toNat))) (x := x)
      rw [← hj]
      exact h.symm
    rw [hm, List.append_right_inj] at h
    rw [hm] at u4
    have ih := uniq a b (x + q.f1.toNat) (n - q.f1.toNat) hca hcb u4 v4 h
    rw [ih, op_eq hp hq (by omega) (fun _ => by omega) (fun e => by omega)]
   ·
    exfalso
    apply no_keep (x := x) hb hnb (headk.2 q1)
    rw [← h, u3, List.head?_append, tk_head _ _ u1]
    rfl
  ·
   by_cases q1 : q.f0 = 1
   ·
    exfalso
    obtain ⟨v1, v2, v3, v4⟩ := qk q1
    apply no_keep (x := x) ha hna (headk.2 p1)
    rw [h, v3, List.head?_append, tk_head _ _ v1]
    rfl
   ·
    by_cases p2 : p.f0 = 2
    ·
     obtain ⟨u1, u2, u3⟩ := pp p2
     by_cases q2 : q.f0 = 2
     ·
      obtain ⟨v1, v2, v3⟩ := qp q2
      rw [u1, v1] at h
      have hta := tailne hhp
      have htb := tailne hhq
      rw [p2] at hta
      rw [q2] at htb
      obtain ⟨e1, e2⟩ := inr_split (gs_inr p.f2) (gs_inr q.f2) (no_put hca u2 hta) (no_put hcb v2 htb) h
      have ih := uniq a b x n hca hcb u2 v2 e2
      rw [ih, op_eq hp hq (by omega) (fun e => absurd p2 e) (fun _ => gs_inj e1)]
     ·
      exfalso
      obtain ⟨y, t, hy⟩ := gs_head u3
      apply no_put (x := x) hb hnb (headp.2 q2) y
      rw [← h, u1, hy]
      rfl
    ·
     by_cases q2 : q.f0 = 2
     ·
      exfalso
      obtain ⟨v1, v2, v3⟩ := qp q2
      obtain ⟨y, t, hy⟩ := gs_head v3
      apply no_put (x := x) ha hna (headp.2 p2) y
      rw [h, v1, hy]
      rfl
     ·
      have p3 : p.f0 = 3 := by omega
      have q3 : q.f0 = 3 := by omega
      obtain ⟨u1, u2, u3, u4⟩ := pd p3
      obtain ⟨v1, v2, v3, v4⟩ := qd q3
      rw [u3, v3] at h
      have hk : ∀ {o : S70} {d : List S70}, o.f0 = 3 → hdOk o d = true → chainOk d = true → ∀ y t, d = y :: t → y.f0 = 1 := by
       intro o d h3 hh hc y t e
       subst e
       have hn := nbOk_ne (show nbOk o y = true from hh)
       obtain ⟨hy, _, _⟩ := chainOk_cons hc
       rcases opOk_cases hy with ⟨j1, j2, j3⟩ | ⟨j1, j2, j3⟩ <;> omega
      have hm : p.f1.toNat = q.f1.toNat := by
       cases a with
       | nil =>
        cases b with
        | nil =>
         have e1 : ((n - p.f1.toNat : Nat) : Int) = 0 := by rw [← u4]; rfl
         have e2 : ((n - q.f1.toNat : Nat) : Int) = 0 := by rw [← v4]; rfl
         omega
        | cons z t =>
         exfalso
         obtain ⟨w1, w2, w3, w4⟩ := (begins (x := x + q.f1.toNat) hcb v4).1 (hk q3 hhq hcb z t rfl)
         rw [w3, ap] at h
         have hl := congrArg List.length h
         rw [List.length_append, tk_len] at hl
         simp at hl
         omega
       | cons y t =>
        obtain ⟨w1, w2, w3, w4⟩ := (begins (x := x + p.f1.toNat) hca u4).1 (hk p3 hhp hca y t rfl)
        cases b with
        | nil =>
         exfalso
         rw [w3, ap] at h
         have hl := congrArg List.length h
         rw [List.length_append, tk_len] at hl
         simp at hl
         omega
        | cons z t' =>
         obtain ⟨z1, z2, z3, z4⟩ := (begins (x := x + q.f1.toNat) hcb v4).1 (hk q3 hhq hcb z t' rfl)
         have hh := congrArg List.head? h
         rw [w3, z3, List.head?_append, List.head?_append, tk_head _ _ w1, tk_head _ _ z1] at hh
         simp at hh
         omega
      rw [hm] at h u4
      have ih := uniq a b (x + q.f1.toNat) (n - q.f1.toNat) hca hcb u4 v4 h
      rw [ih, op_eq hp hq (by omega) (fun _ => by omega) (fun e => by omega)]
/-- two canonical deltas that do the same are one -/
theorem eqv_uniq {a b : List S70} (ha : chainOk a = true) (hb : chainOk b = true) (h : Eqv a b) : a = b := by
 have hf := fromOf_nonneg (d := a) (fun y hy => kindOk_posN (opOk_kindOk (chainOk_opOk ha y hy)))
 obtain ⟨n, hn⟩ : ∃ n : Nat, fromOf a = (n : Int) := ⟨(fromOf a).toNat, by omega⟩
 exact uniq a b 0 n ha hb hn (by rw [← h.from_]; exact hn) (h.sem wr_gs (tk 0 n) (by rw [tk_len]; omega))
end Go.Proofs.Ytidihnnkcmeaeaa.A
namespace Go.Proofs.Ytidihnnkcmeaeaa.A
open Go.RowKit Go.Proofs.YtidihnnkcmeaeaaW.PrintWords Go.Proofs.YtidihnnkcmeaeaaW.PrintLast Go.Proofs.YtidihnnkcmeaeaaW.PrintMore
set_option linter.unusedVariables false
set_option linter.unusedSimpArgs false

theorem ext_split (s : ByteArray) (n : Nat) : s.extract 0 n ++ s.extract n s.size = s := by
 apply ByteArray.ext
 apply Array.ext'
 simp only [ByteArray.data_append, ByteArray.data_extract, Array.toList_append, Array.toList_extract]
 simp [List.extract]
 have : s.data.toList.length = s.size := by rw [Array.length_toList]; rfl
 have h2 : List.take (s.size - n) (List.drop n s.data.toList) = List.drop n s.data.toList := List.take_of_length_le (by rw [List.length_drop]; omega)
 rw [h2]
 exact List.take_append_drop n _
theorem thr_sem {α : Type} {g : ByteArray → List α} (hg : Wr g) (keep : Bool) : ∀ (a : List S70) (n : Int) (xs : List α), (∀ o ∈ a, opOk o = true) → 0 ≤ n → n ≤ toOf a → fromOf a ≤ (xs.length : Int) →
  ap g (thr keep n a).1 xs = (if keep = true then (ap g a xs).take n.toNat else []) ∧ ap g (thr keep n a).2 (xs.drop (fromOf (thr keep n a).1).toNat) = (ap g a xs).drop n.toNat ∧ fromOf (thr keep n a).1 + fromOf (thr keep n a).2 = fromOf a ∧ (∀ o ∈ (thr keep n a).1, kindOk o = true)
 | [], n, xs, _, h0, h1, _ => by
  have hn : n = 0 := by simp only [toOf] at h1; omega
  subst hn
  refine ⟨?_, ?_, rfl, by simp [thr]⟩
  ·
   simp [thr, ap]
  ·
   simp [thr, ap]
 | o :: a, n, xs, hok, h0, h1, hx => by
  by_cases hn0 : n = 0
  ·
   subst hn0
   rw [thr_zero _ _ _ (Int.le_refl 0)]
   refine ⟨by simp [ap], by simp [fromOf], by simp [fromOf], by simp⟩
  ·
   have ho := hok o List.mem_cons_self
   have hok' : ∀ x ∈ a, opOk x = true := fun x hx => hok x (List.mem_cons_of_mem _ hx)
   have hf := fromOf_nonneg (d := a) (fun y hy => kindOk_posN (opOk_kindOk (hok' y hy)))
   rw [toOf_cons] at h1
   rw [fromOf_cons] at hx
   rw [thr, if_neg (by omega), fromOf_cons (d := a)]
   rcases opOk_cases ho with ⟨k1, k2, k3⟩ | ⟨k1, k2, k3⟩
   ·
    rw [if_neg (by omega)] at h1 hx
    rw [if_neg (show ¬ o.f0 = 2 by omega)]
    by_cases c3 : o.f0 = 3
    ·
     rw [if_pos c3] at h1
     obtain ⟨i1, i2, i3, i4⟩ := thr_sem hg keep a n (xs.drop o.f1.toNat) hok' h0 (by omega) (by rw [List.length_drop]; omega)
     rw [if_pos c3]
     have hft : 0 ≤ fromOf (thr keep n a).1 := fromOf_nonneg (fun y hy => kindOk_posN (i4 y hy))
     refine ⟨?_, ?_, ?_, ?_⟩
     ·
      rw [ap_drop rfl, ap_drop c3]; exact i1
     ·
      show ap g (thr keep n a).2 (xs.drop (fromOf (_ :: (thr keep n a).1)).toNat) = _
      rw [fromOf_cons, if_neg (show ¬ (3 : Int) = 2 by decide), ap_drop c3, ← i2, List.drop_drop]
      congr 2
      show (o.f1 + _).toNat = _
      omega
     ·
      show fromOf (_ :: (thr keep n a).1) + fromOf (thr keep n a).2 = _
      rw [fromOf_cons, if_neg (show ¬ (3 : Int) = 2 by decide)]
      show o.f1 + _ + _ = _
      omega
     ·
      intro y hy
      rcases List.mem_cons.1 hy with rfl | hy
      ·
       exact okone 3 o.f1 _ (.inl ⟨.inr rfl, by omega⟩) _ (List.mem_singleton.2 rfl)
      ·
       exact i4 y hy
    ·
     have c1 : o.f0 = 1 := by omega
     rw [if_neg c3] at h1
     rw [if_neg c3]
     have hkk : ∀ m : Int, 0 ≤ m → kindOk (⟨if keep then 1 else 3, m, noText⟩ : S70) = true := by
      intro m hm
      cases keep
      ·
       exact okone 3 m _ (.inl ⟨.inr rfl, hm⟩) _ (List.mem_singleton.2 rfl)
      ·
       exact okone 1 m _ (.inl ⟨.inl rfl, hm⟩) _ (List.mem_singleton.2 rfl)
     have hfo : ∀ (m : Int) (l : List S70), fromOf ((⟨if keep then 1 else 3, m, noText⟩ : S70) :: l) = m + fromOf l := by
      intro m l
      rw [fromOf_cons, if_neg (by cases keep <;> simp)]
     by_cases hle : o.f1 ≤ n
     ·
      obtain ⟨i1, i2, i3, i4⟩ := thr_sem hg keep a (n - o.f1) (xs.drop o.f1.toNat) hok' (by omega) (by omega) (by rw [List.length_drop]; omega)
      rw [if_pos hle]
      have hft : 0 ≤ fromOf (thr keep (n - o.f1) a).1 := fromOf_nonneg (fun y hy => kindOk_posN (i4 y hy))
      have hlt : (xs.take o.f1.toNat).length = o.f1.toNat := by rw [List.length_take]; omega
      have hnn : n.toNat = (xs.take o.f1.toNat).length + (n - o.f1).toNat := by omega
      refine ⟨?_, ?_, ?_, ?_⟩
      ·
       rw [ap_keep c1]
       cases keep
       ·
        rw [ap_drop rfl]
        exact i1
       ·
        rw [ap_keep rfl]
        show xs.take o.f1.toNat ++ _ = _
        rw [i1, hnn, List.take_length_add_append]
        simp
      ·
       show ap g (thr keep (n - o.f1) a).2 (xs.drop (fromOf (_ :: (thr keep (n - o.f1) a).1)).toNat) = _
       rw [hfo, ap_keep c1, hnn, List.drop_length_add_append, ← i2, List.drop_drop]
       congr 2
       omega
      ·
       show fromOf (_ :: (thr keep (n - o.f1) a).1) + fromOf (thr keep (n - o.f1) a).2 = _
       rw [hfo]
       omega
      ·
       intro y hy
       rcases List.mem_cons.1 hy with rfl | hy
       ·
        exact hkk _ (by omega)
       ·
        exact i4 y hy
     ·
      rw [if_neg hle]
      have hlt : (xs.take n.toNat).length = n.toNat := by rw [List.length_take]; omega
      have hspl : ap g (o :: a) xs = xs.take n.toNat ++ ((xs.drop n.toNat).take (o.f1 - n).toNat ++ ap g a (xs.drop o.f1.toNat)) := by
       rw [ap_keep c1, show o.f1.toNat = n.toNat + (o.f1 - n).toNat by omega, List.take_add, List.append_assoc]
      refine ⟨?_, ?_, ?_, ?_⟩
      ·
       rw [hspl]
       cases keep
       ·
        rw [ap_drop rfl]; rfl
       ·
        rw [ap_keep rfl]
        show xs.take n.toNat ++ ap g [] _ = _
        rw [if_pos rfl, List.take_left' hlt]
        simp [ap]
      ·
       show ap g ((⟨1, o.f1 - n, noText⟩ : S70) :: a) (xs.drop (fromOf [_]).toNat) = _
       rw [hfo, ap_keep rfl, hspl, List.drop_left' hlt]
       have : (n + fromOf ([] : List S70)).toNat = n.toNat := by simp [fromOf]
       rw [this, List.drop_drop]
       congr 3
       show n.toNat + (o.f1 - n).toNat = _
       omega
      ·
       show fromOf [_] + fromOf ((⟨1, o.f1 - n, noText⟩ : S70) :: a) = _
       rw [hfo, fromOf_cons, if_neg (show ¬ (1 : Int) = 2 by decide)]
       simp only [fromOf]
       omega
      ·
       intro y hy
       rw [List.mem_singleton.1 hy]
       exact hkk _ h0
   ·
    rw [if_pos k1] at h1 hx
    rw [if_pos k1, if_neg (show ¬ o.f0 = 3 by omega), if_pos k1]
    have hfp : ∀ (s : ByteArray) (l : List S70), fromOf ((⟨2, 0, s⟩ : S70) :: l) = fromOf l := by
     intro s l
     rw [fromOf_cons, if_pos rfl, Int.zero_add]
    have hkp : ∀ s : ByteArray, kindOk (⟨2, 0, s⟩ : S70) = true := fun s => okone 2 0 s (.inr rfl) _ (List.mem_singleton.2 rfl)
    have hpif : ∀ s : ByteArray, (if keep = true then (⟨2, 0, s⟩ : S70) else ⟨2, 0, noText⟩) = ⟨2, 0, if keep = true then s else noText⟩ := by intro s; cases keep <;> rfl
    by_cases hle : (o.f2.size : Int) ≤ n
    ·
     obtain ⟨i1, i2, i3, i4⟩ := thr_sem hg keep a (n - (o.f2.size : Int)) xs hok' (by omega) (by omega) (by omega)
     rw [if_pos hle]
     have hlg := hg.len o.f2
     have hnn : n.toNat = (g o.f2).length + (n - (o.f2.size : Int)).toNat := by omega
     dsimp only
     rw [hpif]
     refine ⟨?_, ?_, ?_, ?_⟩
     ·
      rw [ap_put rfl, ap_put k1, i1]
      dsimp only
      cases keep
      ·
       simp [hg.nil]
      ·
       simp only [if_true]
       rw [hnn, List.take_length_add_append]
     ·
      rw [hfp, ap_put k1, hnn, List.drop_length_add_append, i2]
     ·
      rw [hfp, Int.zero_add]
      exact i3
     ·
      intro y hy
      rcases List.mem_cons.1 hy with rfl | hy
      ·
       exact hkp _
      ·
       exact i4 y hy
    ·
     rw [if_neg hle]
     have hs := ext_split o.f2 n.toNat
     have hl1 : (g (o.f2.extract 0 n.toNat)).length = n.toNat := by rw [hg.len, ByteArray.size_extract]; omega
     have hspl : ap g (o :: a) xs = g (o.f2.extract 0 n.toNat) ++ (g (o.f2.extract n.toNat o.f2.size) ++ ap g a xs) := by
      rw [ap_put k1, ← List.append_assoc, ← hg.app, hs]
     dsimp only
     rw [hpif]
     refine ⟨?_, ?_, ?_, ?_⟩
     ·
      rw [hspl, ap_put rfl]
      dsimp only
      cases keep
      ·
       simp [hg.nil, ap]
      ·
       simp only [if_true]
       rw [List.take_left' hl1]
       simp [ap]
     ·
      rw [hfp, hspl, List.drop_left' hl1, ap_put rfl]
      simp [fromOf]
     ·
      rw [hfp, hfp]
      simp [fromOf]
     ·
      intro y hy
      rw [List.mem_singleton.1 hy]
      exact hkp _
theorem left_sem {α : Type} {g : ByteArray → List α} : ∀ (a : List S70) (xs : List α), (∀ o ∈ a, opOk o = true) → ap g (leftOps a) xs = [] ∧ fromOf (leftOps a) = fromOf a ∧ (∀ o ∈ leftOps a, kindOk o = true)
 | [], xs, _ => ⟨rfl, rfl, by simp [leftOps]⟩
 | o :: a, xs, h => by
  have ho := opOk_cases (h o List.mem_cons_self)
  obtain ⟨i1, i2, i3⟩ := left_sem a (xs.drop o.f1.toNat) (fun x hx => h x (List.mem_cons_of_mem _ hx))
  have hl : leftOps (o :: a) = (⟨3, o.f1, noText⟩ : S70) :: leftOps a := rfl
  rw [hl]
  refine ⟨by rw [ap_drop rfl]; exact i1, ?_, ?_⟩
  ·
   rw [fromOf_cons, fromOf_cons, if_neg (show ¬ (3 : Int) = 2 by decide), i2]
   rcases ho with ⟨k1, k2, k3⟩ | ⟨k1, k2, k3⟩
   ·
    rw [if_neg (by omega)]
   ·
    rw [if_pos k1, k2]
  ·
   intro y hy
   rcases List.mem_cons.1 hy with rfl | hy
   ·
    exact okone 3 o.f1 _ (.inl ⟨.inr rfl, by rcases ho with ⟨k1, k2, k3⟩ | ⟨k1, k2, k3⟩ <;> omega⟩) _ (List.mem_singleton.2 rfl)
   ·
    exact i3 y hy
theorem comp_sem {α : Type} {g : ByteArray → List α} (hg : Wr g) : ∀ (b a : List S70) (xs : List α), (∀ o ∈ a, opOk o = true) → (∀ o ∈ b, opOk o = true) → (∀ o ∈ a, opw o ≤ 268435456) → fromOf b = toOf a → fromOf a ≤ (xs.length : Int) →
  ap g (compOps a b) xs = ap g b (ap g a xs) ∧ fromOf (compOps a b) = fromOf a ∧ (∀ o ∈ compOps a b, kindOk o = true)
 | [], a, xs, ha, _, hs, hf, hx => by
  obtain ⟨i1, i2, i3⟩ := left_sem (g := g) a xs ha
  rw [compOps]
  exact ⟨by rw [show (a.map fun o => (⟨3, o.f1, noText⟩ : S70)) = leftOps a from rfl, i1, ap], i2, i3⟩
 | o :: b, a, xs, ha, hb, hs, hf, hx => by
  have ho := hb o List.mem_cons_self
  have hb' : ∀ x ∈ b, opOk x = true := fun x hx => hb x (List.mem_cons_of_mem _ hx)
  have hfb := fromOf_nonneg (d := b) (fun y hy => kindOk_posN (opOk_kindOk (hb' y hy)))
  rw [fromOf_cons] at hf
  rw [compOps]
  by_cases c2 : o.f0 = 2
  ·
   rw [if_pos c2] at hf
   obtain ⟨i1, i2, i3⟩ := comp_sem hg b a xs ha hb' hs (by omega) hx
   rw [if_pos c2, ap_put c2, ap_put rfl, i1, fromOf_cons, if_pos rfl, i2]
   refine ⟨rfl, by omega, ?_⟩
   intro y hy
   rcases List.mem_cons.1 hy with rfl | hy
   ·
    exact okone 2 0 _ (.inr rfl) _ (List.mem_singleton.2 rfl)
   ·
    exact i3 y hy
  ·
   rw [if_neg c2] at hf
   have hn : 1 ≤ o.f1 := by rcases opOk_cases ho with ⟨k1, k2, k3⟩ | ⟨k1, k2, k3⟩ <;> omega
   obtain ⟨t1, t2, t3, t4⟩ := thr_sem hg (o.f0 == 1) a o.f1 xs ha (by omega) (by omega) hx
   obtain ⟨s1, s2, s3, s4, s5⟩ := thr_inv (o.f0 == 1) (m := 268435456) a o.f1 ha hs (by omega) (by omega)
   have hft : 0 ≤ fromOf (thr (o.f0 == 1) o.f1 a).1 := fromOf_nonneg (fun y hy => kindOk_posN (t4 y hy))
   obtain ⟨i1, i2, i3⟩ := comp_sem hg b (thr (o.f0 == 1) o.f1 a).2 (xs.drop (fromOf (thr (o.f0 == 1) o.f1 a).1).toNat) s2 hb' s3 (by omega) (by rw [List.length_drop]; omega)
   rw [if_neg c2, ap_append _ _ _ t4, i1, t1, t2, fromOf_append, i2]
   refine ⟨?_, by omega, ?_⟩
   ·
    rcases opOk_cases ho with ⟨k1, k2, k3⟩ | ⟨k1, k2, k3⟩
    ·
     rcases k1 with k1 | k1
     ·
      rw [ap_keep k1, if_pos (beq_iff_eq.mpr k1)]
     ·
      rw [ap_drop k1, if_neg (by rw [beq_iff_eq]; omega), List.nil_append]
    ·
     omega
   ·
    intro y hy
    rcases List.mem_append.1 hy with hy | hy
    ·
     exact t4 y hy
    ·
     exact i3 y hy
end Go.Proofs.Ytidihnnkcmeaeaa.A
namespace Go.Proofs.Ytidihnnkcmeaeaa.A
open Go.RowKit Go.Proofs.YtidihnnkcmeaeaaW.PrintWords Go.Proofs.YtidihnnkcmeaeaaW.PrintLast Go.Proofs.YtidihnnkcmeaeaaW.PrintMore
set_option linter.unusedVariables false
set_option linter.unusedSimpArgs false

theorem ap_keep_mk {α : Type} {g : ByteArray → List α} {k m : Int} {s : ByteArray} {d : List S70} {xs : List α} (h : k = 1) : ap g ((⟨k, m, s⟩ : S70) :: d) xs = xs.take m.toNat ++ ap g d (xs.drop m.toNat) := ap_keep (o := ⟨k, m, s⟩) h
theorem ap_drop_mk {α : Type} {g : ByteArray → List α} {k m : Int} {s : ByteArray} {d : List S70} {xs : List α} (h : k = 3) : ap g ((⟨k, m, s⟩ : S70) :: d) xs = ap g d (xs.drop m.toNat) := ap_drop (o := ⟨k, m, s⟩) h
/-- what is left of a list whose first operation is gone over up to x -/
def cutH (a : List S70) (x : Int) : List S70 := match a with
 | [] => []
 | p :: a => (⟨p.f0, p.f1 - x, p.f2⟩ : S70) :: a
theorem cutH_zero (a : List S70) : cutH a 0 = a := by
 cases a with
 | nil => rfl
 | cons p a => simp [cutH]
/-- how much may be gone over -/
def cutOk (a : List S70) (x : Int) : Prop := 0 ≤ x ∧ (x = 0 ∨ ∃ p t, a = p :: t ∧ p.f0 ≠ 2 ∧ x < p.f1)
theorem cutOk_put {p : S70} {a : List S70} {x : Int} (h : cutOk (p :: a) x) (hp : p.f0 = 2) : x = 0 := by
 rcases h.2 with h | ⟨q, t, e, h1, h2⟩
 ·
  exact h
 ·
  injection e with e1 e2
  rw [← e1] at h1
  exact absurd hp h1
theorem cutOk_num {p : S70} {a : List S70} {x : Int} (h : cutOk (p :: a) x) (ho : opOk p = true) (hp : p.f0 ≠ 2) : x < p.f1 := by
 rcases h.2 with h | ⟨q, t, e, h1, h2⟩
 ·
  rcases opOk_cases ho with ⟨k1, k2, k3⟩ | ⟨k1, k2, k3⟩ <;> omega
 ·
  injection e with e1 e2
  rw [← e1] at h2
  exact h2
theorem cutOk_next {p : S70} {a : List S70} {x n : Int} (hx : 0 ≤ x) (hn : 0 ≤ n) (hp : p.f0 ≠ 2) (hle : x + n ≤ p.f1) : cutOk (if x + n = p.f1 then a else p :: a) (if x + n = p.f1 then 0 else x + n) := by
 by_cases h : x + n = p.f1
 ·
  rw [if_pos h, if_pos h]
  exact ⟨Int.le_refl 0, .inl rfl⟩
 ·
  rw [if_neg h, if_neg h]
  exact ⟨by omega, .inr ⟨p, a, rfl, hp, by omega⟩⟩
/-- n bytes further -/
theorem cut_row {α : Type} {g : ByteArray → List α} {p : S70} {a : List S70} {x n : Int} {xs : List α} (ho : opOk p = true) (hp : p.f0 ≠ 2) (hx : 0 ≤ x) (hn : 0 ≤ n) (hle : x + n ≤ p.f1) :
  ap g (cutH (p :: a) x) xs = (if p.f0 = 1 then xs.take n.toNat else []) ++ ap g (cutH (if x + n = p.f1 then a else p :: a) (if x + n = p.f1 then 0 else x + n)) (xs.drop n.toNat) := by
 have hs : (p.f1 - x).toNat = n.toNat + (p.f1 - (x + n)).toNat := by omega
 rcases opOk_cases ho with ⟨k1, k2, k3⟩ | ⟨k1, k2, k3⟩
 ·
  by_cases h : x + n = p.f1
  ·
   rw [if_pos h, if_pos h, cutH_zero]
   have hs2 : (p.f1 - x).toNat = n.toNat := by omega
   rcases k1 with k1 | k1
   ·
    rw [if_pos k1, cutH, ap_keep_mk k1, hs2]
   ·
    rw [if_neg (by omega), cutH, ap_drop_mk k1, hs2, List.nil_append]
  ·
   rw [if_neg h, if_neg h]
   rcases k1 with k1 | k1
   ·
    rw [if_pos k1, cutH, cutH, ap_keep_mk k1, ap_keep_mk k1]
    rw [hs, List.take_add, List.drop_drop, List.append_assoc]
   ·
    rw [if_neg (by omega), cutH, cutH, ap_drop_mk k1, ap_drop_mk k1]
    rw [hs, List.drop_drop, List.nil_append]
 ·
  omega
theorem cut_from {p : S70} {a : List S70} {x n : Int} (hp : p.f0 ≠ 2) : fromOf (cutH (p :: a) x) = n + fromOf (cutH (if x + n = p.f1 then a else p :: a) (if x + n = p.f1 then 0 else x + n)) := by
 by_cases h : x + n = p.f1
 ·
  rw [if_pos h, if_pos h, cutH_zero, cutH, fromOf_cons, if_neg hp]
  show p.f1 - x + fromOf a = _
  omega
 ·
  rw [if_neg h, if_neg h, cutH, cutH, fromOf_cons, fromOf_cons, if_neg hp, if_neg hp]
  show p.f1 - x + fromOf a = n + (p.f1 - (x + n) + fromOf a)
  omega
theorem cut_to {p : S70} {a : List S70} {x n : Int} (hp : p.f0 ≠ 2) : toOf (cutH (p :: a) x) = (if p.f0 = 1 then n else if p.f0 = 3 then 0 else n) + toOf (cutH (if x + n = p.f1 then a else p :: a) (if x + n = p.f1 then 0 else x + n)) := by
 by_cases h : x + n = p.f1
 ·
  rw [if_pos h, if_pos h, cutH_zero, cutH, toOf_cons, if_neg hp]
  show (if p.f0 = 3 then 0 else p.f1 - x) + toOf a = _
  by_cases h3 : p.f0 = 3
  ·
   rw [if_pos h3, if_neg (by omega), if_pos h3]
  ·
   rw [if_neg h3]
   split <;> first | omega | (rw [if_neg h3]; omega)
 ·
  rw [if_neg h, if_neg h, cutH, cutH, toOf_cons, toOf_cons, if_neg hp, if_neg hp]
  show (if p.f0 = 3 then 0 else p.f1 - x) + toOf a = _ + ((if p.f0 = 3 then 0 else p.f1 - (x + n)) + toOf a)
  by_cases h3 : p.f0 = 3
  ·
   rw [if_pos h3, if_pos h3, if_neg (by omega), if_pos h3]
   omega
  ·
   rw [if_neg h3, if_neg h3]
   split <;> first | omega | (rw [if_neg h3]; omega)
theorem ok_next {p : S70} {a : List S70} {P : Prop} [Decidable P] (h : ∀ o ∈ p :: a, opOk o = true) : ∀ o ∈ (if P then a else p :: a), opOk o = true := by
 split
 ·
  exact fun o ho => h o (List.mem_cons_of_mem _ ho)
 ·
  exact h
/-- both orders meet -/
theorem over_meet {α : Type} {g : ByteArray → List α} (hg : Wr g) : ∀ (k : Nat) (a b : List S70) (x y : Int) (xs : List α), (∀ o ∈ a, opOk o = true) → (∀ o ∈ b, opOk o = true) → cutOk a x → cutOk b y → fromOf (cutH a x) ≤ (xs.length : Int) → fromOf (cutH b y) ≤ (xs.length : Int) →
  ap g (overOps false k a x b y) (ap g (cutH a x) xs) = ap g (overOps true k b y a x) (ap g (cutH b y) xs)
 | 0, a, b, x, y, xs, _, _, _, _, _, _ => by rw [overOps, overOps, ap, ap]
 | k + 1, [], [], x, y, xs, _, _, _, _, _, _ => by rw [overOps, overOps, ap, ap]
 | k + 1, [], q :: b, x, y, xs, ha, hb, hx, hy, hfa, hfb => by
  have hb' : ∀ o ∈ b, opOk o = true := fun o ho => hb o (List.mem_cons_of_mem _ ho)
  rw [overOps, overOps]
  by_cases q2 : q.f0 = 2
  ·
   have hy0 := cutOk_put hy q2
   subst hy0
   rw [cutH_zero] at hfb ⊢
   rw [fromOf_cons, if_pos q2] at hfb
   rw [if_pos q2, if_pos q2, ap_put q2, ap_put q2, ap_keep rfl]
   have hl : (((q.f2.size : Nat) : Int)).toNat = (g q.f2).length := by rw [hg.len]; omega
   show g q.f2 ++ _ = (g q.f2 ++ ap g b xs).take ((q.f2.size : Nat) : Int).toNat ++ ap g _ ((g q.f2 ++ ap g b xs).drop ((q.f2.size : Nat) : Int).toNat)
   rw [hl, List.take_left, List.drop_left]
   have := over_meet hg k [] b x 0 xs ha hb' hx ⟨Int.le_refl 0, .inl rfl⟩ hfa (by rw [cutH_zero]; omega)
   rw [cutH_zero] at this
   rw [this]
  ·
   rw [if_neg q2, if_neg q2, ap, ap]
 | k + 1, p :: a, [], x, y, xs, ha, hb, hx, hy, hfa, hfb => by
  have ha' : ∀ o ∈ a, opOk o = true := fun o ho => ha o (List.mem_cons_of_mem _ ho)
  rw [overOps, overOps]
  by_cases p2 : p.f0 = 2
  ·
   have hx0 := cutOk_put hx p2
   subst hx0
   rw [cutH_zero] at hfa ⊢
   rw [fromOf_cons, if_pos p2] at hfa
   rw [if_pos p2, if_pos p2, ap_put p2, ap_put p2, ap_keep rfl]
   have hl : (((p.f2.size : Nat) : Int)).toNat = (g p.f2).length := by rw [hg.len]; omega
   show (g p.f2 ++ ap g a xs).take ((p.f2.size : Nat) : Int).toNat ++ ap g _ ((g p.f2 ++ ap g a xs).drop ((p.f2.size : Nat) : Int).toNat) = g p.f2 ++ _
   rw [hl, List.take_left, List.drop_left]
   have := over_meet hg k a [] 0 y xs ha' hb ⟨Int.le_refl 0, .inl rfl⟩ hy (by rw [cutH_zero]; omega) hfb
   rw [cutH_zero] at this
   rw [this]
  ·
   rw [if_neg p2, if_neg p2, ap, ap]
 | k + 1, p :: a, q :: b, x, y, xs, ha, hb, hx, hy, hfa, hfb => by
  have ha' : ∀ o ∈ a, opOk o = true := fun o ho => ha o (List.mem_cons_of_mem _ ho)
  have hb' : ∀ o ∈ b, opOk o = true := fun o ho => hb o (List.mem_cons_of_mem _ ho)
  rw [overOps, overOps]
  by_cases p2 : p.f0 = 2
  ·
   have hx0 := cutOk_put hx p2
   subst hx0
   rw [cutH_zero] at hfa ⊢
   rw [fromOf_cons, if_pos p2] at hfa
   rw [if_neg (show ¬ (q.f0 = 2 ∧ (false = true ∨ p.f0 ≠ 2)) from fun h => by rcases h.2 with h | h; exact absurd h (by decide); exact h p2), if_pos p2, if_pos (show p.f0 = 2 ∧ (true = true ∨ q.f0 ≠ 2) from ⟨p2, .inl rfl⟩), ap_put p2, ap_put p2, ap_keep rfl]
   have hl : (((p.f2.size : Nat) : Int)).toNat = (g p.f2).length := by rw [hg.len]; omega
   show (g p.f2 ++ ap g a xs).take ((p.f2.size : Nat) : Int).toNat ++ ap g _ ((g p.f2 ++ ap g a xs).drop ((p.f2.size : Nat) : Int).toNat) = g p.f2 ++ _
   rw [hl, List.take_left, List.drop_left]
   have := over_meet hg k a (q :: b) 0 y xs ha' hb ⟨Int.le_refl 0, .inl rfl⟩ hy (by rw [cutH_zero]; omega) hfb
   rw [cutH_zero] at this
   rw [this]
  ·
   rw [if_neg (show ¬ (p.f0 = 2 ∧ (true = true ∨ q.f0 ≠ 2)) from fun h => p2 h.1)]
   by_cases q2 : q.f0 = 2
   ·
    have hy0 := cutOk_put hy q2
    subst hy0
    rw [cutH_zero (q :: b)] at hfb ⊢
    rw [fromOf_cons, if_pos q2] at hfb
    rw [if_pos (show q.f0 = 2 ∧ (false = true ∨ p.f0 ≠ 2) from ⟨q2, .inr p2⟩), if_pos q2, ap_put q2, ap_put q2, ap_keep rfl]
    have hl : (((q.f2.size : Nat) : Int)).toNat = (g q.f2).length := by rw [hg.len]; omega
    show g q.f2 ++ _ = (g q.f2 ++ ap g b xs).take ((q.f2.size : Nat) : Int).toNat ++ ap g _ ((g q.f2 ++ ap g b xs).drop ((q.f2.size : Nat) : Int).toNat)
    rw [hl, List.take_left, List.drop_left]
    have := over_meet hg k (p :: a) b x 0 xs ha hb' hx ⟨Int.le_refl 0, .inl rfl⟩ hfa (by rw [cutH_zero]; omega)
    rw [cutH_zero b] at this
    rw [this]
   ·
    rw [if_neg (show ¬ (q.f0 = 2 ∧ (false = true ∨ p.f0 ≠ 2)) from fun h => q2 h.1), if_neg p2, if_neg q2]
    have hop := ha p List.mem_cons_self
    have hoq := hb q List.mem_cons_self
    have hxl := cutOk_num hx hop p2
    have hyl := cutOk_num hy hoq q2
    obtain ⟨n, hn⟩ : ∃ n, n = if q.f1 - y < p.f1 - x then q.f1 - y else p.f1 - x := ⟨_, rfl⟩
    have hn2 : (if p.f1 - x < q.f1 - y then p.f1 - x else q.f1 - y) = n := by rw [hn]; split <;> split <;> omega
    have hx0 := hx.1
    have hy0 := hy.1
    have hn1 : 1 ≤ n := by rw [hn]; split <;> omega
    have hnx : x + n ≤ p.f1 := by rw [hn]; split <;> omega
    have hny : y + n ≤ q.f1 := by rw [hn]; split <;> omega
    dsimp only
    rw [← hn, hn2]
    have hra := cut_row (g := g) (a := a) (xs := xs) hop p2 hx0 (show 0 ≤ n by omega) hnx
    have hrb := cut_row (g := g) (a := b) (xs := xs) hoq q2 hy0 (show 0 ≤ n by omega) hny
    have hfa2 := cut_from (a := a) (x := x) (n := n) p2
    have hfb2 := cut_from (a := b) (x := y) (n := n) q2
    have hfan : 0 ≤ fromOf (cutH (if x + n = p.f1 then a else p :: a) (if x + n = p.f1 then 0 else x + n)) := by
     by_cases h : x + n = p.f1
     ·
      rw [if_pos h, if_pos h, cutH_zero]
      exact fromOf_nonneg (fun o ho => kindOk_posN (opOk_kindOk (ha' o ho)))
     ·
      rw [if_neg h, if_neg h, cutH, fromOf_cons, if_neg p2]
      have := fromOf_nonneg (d := a) (fun o ho => kindOk_posN (opOk_kindOk (ha' o ho)))
      show 0 ≤ p.f1 - (x + n) + fromOf a
      omega
    have hln : (xs.take n.toNat).length = n.toNat := by rw [List.length_take]; omega
    have hih := over_meet hg k _ _ _ _ (xs.drop n.toNat) (ok_next (P := x + n = p.f1) ha) (ok_next (P := y + n = q.f1) hb) (cutOk_next (a := a) hx0 (show 0 ≤ n by omega) p2 hnx) (cutOk_next (a := b) hy0 (show 0 ≤ n by omega) q2 hny) (by rw [List.length_drop]; omega) (by rw [List.length_drop]; omega)
    rw [hra, hrb]
    have hp13 : p.f0 = 1 ∨ p.f0 = 3 := by rcases opOk_cases hop with ⟨k1, k2, k3⟩ | ⟨k1, k2, k3⟩ <;> omega
    have hq13 : q.f0 = 1 ∨ q.f0 = 3 := by rcases opOk_cases hoq with ⟨k1, k2, k3⟩ | ⟨k1, k2, k3⟩ <;> omega
    rcases hp13 with p1 | p3
    ·
     rcases hq13 with q1 | q3
     ·
      rw [if_pos p1, if_pos q1, if_pos p1, if_pos q1, List.cons_append, List.cons_append, List.nil_append, List.nil_append, ap_keep_mk q1, ap_keep_mk p1]
      rw [List.take_left' hln, List.drop_left' hln, List.take_left' hln, List.drop_left' hln, hih]
     ·
      have hq1 : ¬ q.f0 = 1 := by omega
      rw [if_pos p1, if_neg hq1, if_pos p1, if_neg hq1, List.cons_append, List.nil_append, List.nil_append, List.nil_append, ap_drop_mk q3]
      rw [List.drop_left' hln, hih]
    ·
     rcases hq13 with q1 | q3
     ·
      have hp1 : ¬ p.f0 = 1 := by omega
      rw [if_neg hp1, if_pos q1, if_neg hp1, if_pos q1, List.nil_append, List.nil_append, List.cons_append, List.nil_append, ap_drop_mk p3]
      rw [List.drop_left' hln, hih]
     ·
      have hp1 : ¬ p.f0 = 1 := by omega
      have hq1 : ¬ q.f0 = 1 := by omega
      rw [if_neg hp1, if_neg hq1, if_neg hp1, if_neg hq1, List.nil_append, List.nil_append, List.nil_append, List.nil_append, hih]
/-- of how long a text it is, and its operations have kinds -/
theorem over_from (first : Bool) : ∀ (k : Nat) (a b : List S70) (x y : Int), (∀ o ∈ a, opOk o = true) → (∀ o ∈ b, opOk o = true) → cutOk a x → cutOk b y → fromOf (cutH a x) = fromOf (cutH b y) → a.length + b.length < k →
  fromOf (overOps first k a x b y) = toOf (cutH a x) ∧ (∀ o ∈ overOps first k a x b y, kindOk o = true)
 | 0, a, b, x, y, _, _, _, _, _, hk => by omega
 | k + 1, [], [], x, y, _, _, _, _, _, _ => by
  rw [overOps]
  exact ⟨rfl, by simp⟩
 | k + 1, [], q :: b, x, y, ha, hb, hx, hy, hf, hk => by
  have hb' : ∀ o ∈ b, opOk o = true := fun o ho => hb o (List.mem_cons_of_mem _ ho)
  have hfb := fromOf_nonneg (d := b) (fun o ho => kindOk_posN (opOk_kindOk (hb' o ho)))
  have hoq := hb q List.mem_cons_self
  rw [overOps]
  by_cases q2 : q.f0 = 2
  ·
   have hy0 := cutOk_put hy q2
   subst hy0
   rw [cutH_zero, fromOf_cons, if_pos q2] at hf
   obtain ⟨i1, i2⟩ := over_from first k [] b x 0 ha hb' hx ⟨Int.le_refl 0, .inl rfl⟩ (by rw [cutH_zero]; omega) (by simp only [List.length_cons, List.length_nil] at hk ⊢; omega)
   rw [if_pos q2, fromOf_cons, if_pos q2, i1, Int.zero_add]
   refine ⟨rfl, ?_⟩
   intro o ho
   rcases List.mem_cons.1 ho with rfl | ho
   ·
    exact opOk_kindOk hoq
   ·
    exact i2 o ho
  ·
   exfalso
   have hyl := cutOk_num hy hoq q2
   rw [cutH, cutH, fromOf_cons, if_neg q2] at hf
   have hf2 : (0 : Int) = q.f1 - y + fromOf b := hf
   omega
 | k + 1, p :: a, [], x, y, ha, hb, hx, hy, hf, hk => by
  have ha' : ∀ o ∈ a, opOk o = true := fun o ho => ha o (List.mem_cons_of_mem _ ho)
  have hfa := fromOf_nonneg (d := a) (fun o ho => kindOk_posN (opOk_kindOk (ha' o ho)))
  have hop := ha p List.mem_cons_self
  rw [overOps]
  by_cases p2 : p.f0 = 2
  ·
   have hx0 := cutOk_put hx p2
   subst hx0
   rw [cutH_zero, fromOf_cons, if_pos p2] at hf
   obtain ⟨i1, i2⟩ := over_from first k a [] 0 y ha' hb ⟨Int.le_refl 0, .inl rfl⟩ hy (by rw [cutH_zero]; omega) (by simp only [List.length_cons, List.length_nil] at hk ⊢; omega)
   rw [if_pos p2, fromOf_cons, if_neg (show ¬ (1 : Int) = 2 by decide), i1, cutH_zero, cutH_zero, toOf_cons, if_pos p2]
   refine ⟨rfl, ?_⟩
   intro o ho
   rcases List.mem_cons.1 ho with rfl | ho
   ·
    exact okone 1 _ _ (.inl ⟨.inl rfl, by omega⟩) _ (List.mem_singleton.2 rfl)
   ·
    exact i2 o ho
  ·
   exfalso
   have hxl := cutOk_num hx hop p2
   rw [cutH, cutH, fromOf_cons, if_neg p2] at hf
   have hf2 : p.f1 - x + fromOf a = (0 : Int) := hf
   omega
 | k + 1, p :: a, q :: b, x, y, ha, hb, hx, hy, hf, hk => by
  have ha' : ∀ o ∈ a, opOk o = true := fun o ho => ha o (List.mem_cons_of_mem _ ho)
  have hb' : ∀ o ∈ b, opOk o = true := fun o ho => hb o (List.mem_cons_of_mem _ ho)
  have hop := ha p List.mem_cons_self
  have hoq := hb q List.mem_cons_self
  simp only [List.length_cons] at hk
  rw [overOps]
  by_cases c : q.f0 = 2 ∧ (first = true ∨ p.f0 ≠ 2)
  ·
   have hy0 := cutOk_put hy c.1
   subst hy0
   rw [cutH_zero (q :: b), fromOf_cons (d := b), if_pos c.1] at hf
   obtain ⟨i1, i2⟩ := over_from first k (p :: a) b x 0 ha hb' hx ⟨Int.le_refl 0, .inl rfl⟩ (by rw [cutH_zero b]; omega) (by simp only [List.length_cons]; omega)
   rw [if_pos c, fromOf_cons, if_pos c.1, i1, Int.zero_add]
   refine ⟨rfl, ?_⟩
   intro o ho
   rcases List.mem_cons.1 ho with rfl | ho
   ·
    exact opOk_kindOk hoq
   ·
    exact i2 o ho
  ·
   rw [if_neg c]
   by_cases p2 : p.f0 = 2
   ·
    have hx0 := cutOk_put hx p2
    subst hx0
    rw [cutH_zero, fromOf_cons, if_pos p2] at hf
    obtain ⟨i1, i2⟩ := over_from first k a (q :: b) 0 y ha' hb ⟨Int.le_refl 0, .inl rfl⟩ hy (by rw [cutH_zero]; omega) (by simp only [List.length_cons]; omega)
    rw [if_pos p2, fromOf_cons, if_neg (show ¬ (1 : Int) = 2 by decide), i1, cutH_zero, cutH_zero, toOf_cons, if_pos p2]
    refine ⟨rfl, ?_⟩
    intro o ho
    rcases List.mem_cons.1 ho with rfl | ho
    ·
     exact okone 1 _ _ (.inl ⟨.inl rfl, by omega⟩) _ (List.mem_singleton.2 rfl)
    ·
     exact i2 o ho
   ·
    rw [if_neg p2]
    have q2 : q.f0 ≠ 2 := fun h => c ⟨h, .inr p2⟩
    have hxl := cutOk_num hx hop p2
    have hyl := cutOk_num hy hoq q2
    obtain ⟨n, hn⟩ : ∃ n, n = if q.f1 - y < p.f1 - x then q.f1 - y else p.f1 - x := ⟨_, rfl⟩
    have hx0 := hx.1
    have hy0 := hy.1
    have hn1 : 1 ≤ n := by rw [hn]; split <;> omega
    have hnx : x + n ≤ p.f1 := by rw [hn]; split <;> omega
    have hny : y + n ≤ q.f1 := by rw [hn]; split <;> omega
    have hone : x + n = p.f1 ∨ y + n = q.f1 := by rw [hn]; split <;> omega
    dsimp only
    rw [← hn]
    have hfa2 := cut_from (a := a) (x := x) (n := n) p2
    have hfb2 := cut_from (a := b) (x := y) (n := n) q2
    have hto2 := cut_to (a := a) (x := x) (n := n) p2
    obtain ⟨i1, i2⟩ := over_from first k _ _ _ _ (ok_next (P := x + n = p.f1) ha) (ok_next (P := y + n = q.f1) hb) (cutOk_next (a := a) hx0 (show 0 ≤ n by omega) p2 hnx) (cutOk_next (a := b) hy0 (show 0 ≤ n by omega) q2 hny) (by omega) (by
     rcases hone with h | h
     ·
      rw [if_pos h]
      split
      ·
       omega
      ·
       rw [List.length_cons]; omega
     ·
      rw [if_pos h]
      split
      ·
       omega
      ·
       rw [List.length_cons]; omega)
    have hp13 : p.f0 = 1 ∨ p.f0 = 3 := by rcases opOk_cases hop with ⟨k1, k2, k3⟩ | ⟨k1, k2, k3⟩ <;> omega
    have hq13 : q.f0 = 1 ∨ q.f0 = 3 := by rcases opOk_cases hoq with ⟨k1, k2, k3⟩ | ⟨k1, k2, k3⟩ <;> omega
    rw [hto2]
    rcases hp13 with p1 | p3
    ·
     rw [if_pos p1, if_pos p1, List.cons_append, List.nil_append, fromOf_cons, if_neg q2, i1]
     refine ⟨rfl, ?_⟩
     intro o ho
     rcases List.mem_cons.1 ho with rfl | ho
     ·
      exact okone q.f0 n _ (.inl ⟨hq13, by omega⟩) _ (List.mem_singleton.2 rfl)
     ·
      exact i2 o ho
    ·
     have hp1 : ¬ p.f0 = 1 := by omega
     rw [if_neg hp1, if_neg hp1, if_pos p3, List.nil_append, i1, Int.zero_add]
     exact ⟨rfl, i2⟩
end Go.Proofs.Ytidihnnkcmeaeaa.A
namespace Go.Proofs.Ytidihnnkcmeaeaa.A
open Go.RowKit Go.Proofs.YtidihnnkcmeaeaaW.PrintWords Go.Proofs.YtidihnnkcmeaeaaW.PrintLast Go.Proofs.YtidihnnkcmeaeaaW.PrintMore
set_option linter.unusedVariables false
set_option linter.unusedSimpArgs false

theorem toList_same {s t : ByteArray} (h : s = t) : (s.toList == t.toList) = true := by rw [h]; exact beq_self_eq_true _
theorem same14_go : ∀ (rest pre : List S70), (pre ++ rest).length ≤ 9223372036854775807 → Ev (fun k => galleyref14_Same.l0 k (pre ++ rest) (pre ++ rest) (pre.length : Int)) true
  | [], pre, hl => by
    refine Ev.step (f := fun _ => some true) (fun k => ?_) (Ev.now _)
    rw [galleyref14_Same.l0, if_neg (by simp)]
  | o :: rest, pre, hl => by
    have hlt : (pre.length : Int) < ((pre ++ o :: rest).length : Int) := by simp; omega
    have hw := wrap_succ (i := pre.length) (n := (pre ++ o :: rest).length) (by simp) hl
    have hih := same14_go rest (pre ++ [o]) (by simpa using hl)
    simp only [List.append_assoc, List.singleton_append] at hih
    have hpl : ((pre ++ [o]).length : Int) = ((pre.length + 1 : Nat) : Int) := by simp
    rw [hpl] at hih
    refine Ev.step (fun k => by rw [galleyref14_Same.l0, if_pos hlt, if_pos (Int.natCast_nonneg _), if_pos hlt, if_neg (by simp), hw]) ?_
    exact hih
theorem same14_one (d : List S70) (hl : d.length ≤ 9223372036854775807) : Ev (fun k => galleyref14_Same.f k d d) true := by
  refine Ev.congr (fun k => by rw [galleyref14_Same.f, if_pos rfl]) ?_
  have := same14_go d [] (by simpa using hl)
  simpa using this
/-- what Over answers -/
theorem over_res (a b : List S70) (first : Bool) : ∃ r e, shift_Over.f a b first = some (r, e) ∧ (e ≠ 0 ∧ r = [] ∨ e = 0 ∧ canB a = true ∧ canB b = true ∧ fromOf a = fromOf b ∧ canB r = true ∧ fromOf r = toOf a ∧ Eqv r (overOps first (a.length + b.length + 1) a 0 b 0)) := by
  unfold shift_Over.f
  cases hca : canB a with
  | false => exact ⟨[], 130, by rw [Bool.false_and, if_neg (by decide)], .inl ⟨by decide, rfl⟩⟩
  | true =>
    cases hcb : canB b with
    | false => exact ⟨[], 130, by rw [Bool.and_false, if_neg (by decide)], .inl ⟨by decide, rfl⟩⟩
    | true =>
      by_cases hf : fromOf a = fromOf b
      · rw [Bool.and_self, if_pos rfl, if_pos hf]
        have oka := chainOk_opOk (canB_lens hca).1
        have okb := chainOk_opOk (canB_lens hcb).1
        obtain ⟨o1, o2⟩ := over_from first (a.length + b.length + 1) a b 0 0 oka okb ⟨Int.le_refl 0, .inl rfl⟩ ⟨Int.le_refl 0, .inl rfl⟩ (by rw [cutH_zero, cutH_zero]; exact hf) (by omega)
        rw [cutH_zero] at o1
        obtain ⟨c1, c2⟩ := canon_sem o2
        unfold delta_Canon.f
        rw [if_pos (List.all_eq_true.mpr o2)]
        by_cases hs : fromOf (overOps first (a.length + b.length + 1) a 0 b 0) ≤ 268435456 ∧ toOf (overOps first (a.length + b.length + 1) a 0 b 0) ≤ 268435456
        · rw [if_pos hs]
          refine ⟨_, 0, rfl, .inr ⟨rfl, rfl, rfl, hf, ?_, by rw [c2.from_, o1], c2⟩⟩
          simp only [canB, Bool.and_eq_true, decide_eq_true_eq]
          exact ⟨⟨c1, by rw [c2.from_]; exact hs.1⟩, by rw [c2.tto]; exact hs.2⟩
        · rw [if_neg hs]
          exact ⟨[], 5, rfl, .inl ⟨by decide, rfl⟩⟩
      · rw [Bool.and_self, if_pos rfl, if_neg hf]
        exact ⟨[], 131, rfl, .inl ⟨by decide, rfl⟩⟩
/-- what Compose of two that fit does -/
theorem comp_eqv {a y : List S70} (ha : canB a = true) (hy : canB y = true) (hf : fromOf y = toOf a) : chainOk (canon (compOps a y)) = true ∧ fromOf (canon (compOps a y)) = fromOf a ∧ toOf (canon (compOps a y)) = toOf y ∧
    (∀ {α : Type} {g : ByteArray → List α}, Wr g → ∀ xs : List α, fromOf a ≤ (xs.length : Int) → ap g (canon (compOps a y)) xs = ap g y (ap g a xs)) := by
  have oka := chainOk_opOk (canB_lens ha).1
  have oky := chainOk_opOk (canB_lens hy).1
  have hsa := canB_small ha
  have hfa := fromOf_nonneg (d := a) (fun o ho => kindOk_posN (opOk_kindOk (oka o ho)))
  obtain ⟨n, hn⟩ : ∃ n : Nat, fromOf a = (n : Int) := ⟨(fromOf a).toNat, by omega⟩
  obtain ⟨s1, s2, s3⟩ := comp_sem wr_gs y a (tk 0 n) oka oky hsa hf (by rw [tk_len]; omega)
  obtain ⟨c1, c2⟩ := canon_sem s3
  have hsem : ∀ {α : Type} {g : ByteArray → List α}, Wr g → ∀ xs : List α, fromOf a ≤ (xs.length : Int) → ap g (canon (compOps a y)) xs = ap g y (ap g a xs) := by
    intro α g hg xs hx
    rw [c2.sem hg xs (by rw [c2.from_, s2]; exact hx)]
    exact (comp_sem hg y a xs oka oky hsa hf hx).1
  refine ⟨c1, by rw [c2.from_, s2], ?_, hsem⟩
  have h1 := hsem wr_gs (tk 0 n) (by rw [tk_len]; omega)
  have h2 := ap_len wr_gs (canon (compOps a y)) (tk 0 n) (okc c1) (by rw [tk_len, c2.from_, s2]; omega)
  have h3 := ap_len wr_gs a (tk 0 n) (okc (canB_lens ha).1) (by rw [tk_len]; omega)
  have h4 := ap_len wr_gs y (ap gs a (tk 0 n)) (okc (canB_lens hy).1) (by rw [h3]; omega)
  rw [h1] at h2
  rw [← h2, h4]
theorem short_len {d : List S70} (hc : chainOk d = true) (h1 : fromOf d ≤ 268435456) (h2 : toOf d ≤ 268435456) : d.length ≤ 536870912 := by
  have hok := chainOk_opOk hc
  have e1 := ok_length hok
  have e2 := opws_le (fun o ho => kindOk_posN (opOk_kindOk (hok o ho)))
  omega
/-- both orders make one delta -/
theorem meet_one {a b x y : List S70} (ha : canB a = true) (hb : canB b = true) (hf : fromOf a = fromOf b) (hx : canB x = true) (hy : canB y = true) (hfy : fromOf y = toOf a) (hfx : fromOf x = toOf b)
    (ey : Eqv y (overOps false (a.length + b.length + 1) a 0 b 0)) (ex : Eqv x (overOps true (b.length + a.length + 1) b 0 a 0)) :
    (∀ {α : Type} {g : ByteArray → List α}, Wr g → ∀ xs : List α, fromOf a ≤ (xs.length : Int) → ap g y (ap g a xs) = ap g x (ap g b xs)) ∧ canon (compOps a y) = canon (compOps b x) := by
  have oka := chainOk_opOk (canB_lens ha).1
  have okb := chainOk_opOk (canB_lens hb).1
  have hmeet : ∀ {α : Type} {g : ByteArray → List α}, Wr g → ∀ xs : List α, fromOf a ≤ (xs.length : Int) → ap g y (ap g a xs) = ap g x (ap g b xs) := by
    intro α g hg xs hxs
    have h3 := ap_len hg a xs (okc (canB_lens ha).1) hxs
    have h4 := ap_len hg b xs (okc (canB_lens hb).1) (by omega)
    rw [ey.sem hg _ (by rw [h3]; omega), ex.sem hg _ (by rw [h4]; omega)]
    have := over_meet hg (a.length + b.length + 1) a b 0 0 xs oka okb ⟨Int.le_refl 0, .inl rfl⟩ ⟨Int.le_refl 0, .inl rfl⟩ (by rw [cutH_zero]; exact hxs) (by rw [cutH_zero]; omega)
    rw [cutH_zero, cutH_zero] at this
    rw [this, Nat.add_comm a.length b.length]
  refine ⟨hmeet, ?_⟩
  obtain ⟨p1, p2, p3, p4⟩ := comp_eqv ha hy hfy
  obtain ⟨q1, q2, q3, q4⟩ := comp_eqv hb hx hfx
  have hfa := fromOf_nonneg (d := a) (fun o ho => kindOk_posN (opOk_kindOk (oka o ho)))
  obtain ⟨n, hn⟩ : ∃ n : Nat, fromOf a = (n : Int) := ⟨(fromOf a).toNat, by omega⟩
  refine uniq _ _ 0 n p1 q1 (by rw [p2, hn]) (by rw [q2, ← hf, hn]) ?_
  rw [p4 wr_gs (tk 0 n) (by rw [tk_len]; omega), q4 wr_gs (tk 0 n) (by rw [tk_len]; omega)]
  exact hmeet wr_gs (tk 0 n) (by rw [tk_len]; omega)
theorem apply_fit {xs : List Int} {d : List S70} (h : canB d = true) (hf : fromOf d = (xs.length : Int)) : delta_Apply.f xs d = some (ap bytesOf d xs, 0) := by
  unfold delta_Apply.f
  rw [if_pos h, if_pos hf]
theorem compose_fit {a y : List S70} (ha : canB a = true) (hy : canB y = true) (hf : fromOf y = toOf a) : delta_Compose.f a y = some (canon (compOps a y), 0) := by
  unfold delta_Compose.f
  rw [ha, hy, Bool.and_self, if_pos rfl, if_pos hf]
end Go.Proofs.Ytidihnnkcmeaeaa.A
namespace Go.Proofs.Ytidihnnkcmeaeaa.A
open Go.RowKit Go.Proofs.YtidihnnkcmeaeaaW.PrintWords Go.Proofs.YtidihnnkcmeaeaaW.PrintLast Go.Proofs.YtidihnnkcmeaeaaW.PrintMore
set_option linter.unusedVariables false
set_option linter.unusedSimpArgs false

theorem rd6_at (pre : List (List S70)) (o : List S70) (rest : List (List S70)) : rd_L6 (pre ++ o :: rest) (pre.length : Int) = o := by
 unfold rd_L6
 rw [Int.toNat_natCast, List.getD_eq_getElem?_getD, List.getElem?_append_right (Nat.le_refl _)]
 simp
/-- do they stand one behind the other? -/
def fitsFrom : Int → List (List S70) → Bool
 | _, [] => true
 | x, d :: ds => decide (fromOf d = x) && fitsFrom (toOf d) ds
theorem chained_l1 (rest : List (List S70)) : ∀ (pre : List (List S70)) (x : Int), (pre ++ rest).length ≤ 9223372036854775807 → (∀ d ∈ rest, canB d = true ∧ d.length ≤ 9223372036854775807) →
  Ev (fun k => shift_chained.l1 k x (pre ++ rest) ((pre ++ rest).length : Int) (pre.length : Int)) (if fitsFrom x rest = true then 0 else 131) := by
 induction rest with
 | nil =>
  intro pre x hl h
  refine Ev.step (f := fun _ => some 0) (fun k => ?_) (Ev.now _)
  rw [shift_chained.l1, if_neg (by simp)]
 | cons d rest ih =>
  intro pre x hl h
  have hrd := rd6_at pre d rest
  have hge : (0 : Int) ≤ (pre.length : Int) := Int.natCast_nonneg _
  have hlt : (pre.length : Int) < ((pre ++ d :: rest).length : Int) := by simp; omega
  have hw := wrap_succ (i := pre.length) (n := (pre ++ d :: rest).length) (by simp) hl
  have hih := fun x => ih (pre ++ [d]) x (by simpa using hl) (fun y hy => h y (List.mem_cons_of_mem _ hy))
  simp only [List.append_assoc, List.singleton_append] at hih
  have hpl : ((pre ++ [d]).length : Int) = ((pre.length + 1 : Nat) : Int) := by simp
  rw [hpl] at hih
  obtain ⟨hc, hdl⟩ := h d List.mem_cons_self
  refine Ev.step (fun k => by rw [shift_chained.l1, if_pos hlt, if_pos hge, if_pos hlt, hrd, hw]) ?_
  refine Ev.bind (lens_all hdl hc) ?_
  rw [fitsFrom]
  by_cases hf : fromOf d = x
  ·
   rw [decide_eq_true hf, Bool.true_and]
   refine Ev.congr (fun k => by rw [if_pos hf]) ?_
   exact hih (toOf d)
  ·
   rw [decide_eq_false hf, Bool.false_and, if_neg (by decide)]
   refine Ev.congr (fun k => by rw [if_neg hf]) ?_
   exact Ev.now _
theorem chained_l0 (x0 : List (List S70)) (x1 : List S70) (R : Int) (rest : List (List S70)) : ∀ (pre : List (List S70)), (pre ++ rest).length ≤ 9223372036854775807 → (∀ d ∈ rest, d.length ≤ 9223372036854775807) →
  (rest.all canB = true → Ev (fun k => (delta_Lens.f k x1).bind fun bt687 => (shift_chained.l1 k bt687.1 x0 (x0.length : Int) 0)) R) →
  Ev (fun k => shift_chained.l0 k x0 x1 (pre ++ rest) ((pre ++ rest).length : Int) (pre.length : Int)) (if rest.all canB = true then R else 130) := by
 induction rest with
 | nil =>
  intro pre hl h hR
  rw [if_pos (by rfl)]
  refine Ev.step (fun k => by rw [shift_chained.l0, if_neg (by simp)]) (hR rfl)
 | cons d rest ih =>
  intro pre hl h hR
  have hrd := rd6_at pre d rest
  have hge : (0 : Int) ≤ (pre.length : Int) := Int.natCast_nonneg _
  have hlt : (pre.length : Int) < ((pre ++ d :: rest).length : Int) := by simp; omega
  have hw := wrap_succ (i := pre.length) (n := (pre ++ d :: rest).length) (by simp) hl
  have hdl := h d List.mem_cons_self
  refine Ev.step (fun k => by rw [shift_chained.l0, if_pos hlt, if_pos hge, if_pos hlt, hrd, hw]) ?_
  rw [List.all_cons] at hR ⊢
  cases hc : canB d with
  | true =>
   rw [hc, Bool.true_and] at hR
   rw [Bool.true_and]
   refine Ev.bind (lens_all hdl hc) ?_
   simp only [if_true]
   have hih := ih (pre ++ [d]) (by simpa using hl) (fun y hy => h y (List.mem_cons_of_mem _ hy)) hR
   simp only [List.append_assoc, List.singleton_append] at hih
   have hpl : ((pre ++ [d]).length : Int) = ((pre.length + 1 : Nat) : Int) := by simp
   rw [hpl] at hih
   exact hih
  | false =>
   rw [Bool.false_and, if_neg (by decide)]
   refine Ev.bind (lens_bad hdl hc) ?_
   exact Ev.now _
theorem chained_ev {aa : List (List S70)} {b : List S70} (hl : aa.length < 5864062014804) (hd : ∀ d ∈ aa, d.length ≤ 9223372036854775807) (hb : b.length ≤ 9223372036854775807) :
  Ev (fun k => shift_chained.f k aa b) (if (aa ++ [b]).all canB = true then (if fitsFrom (fromOf b) aa = true then 0 else 131) else 130) := by
 refine Ev.congr (fun k => by rw [shift_chained.f, Option.bind_some, if_pos (show ([] : List (List S70)).length + aa.length < 5864062014805 by simp; omega), Option.bind_some, List.nil_append, if_pos (by omega), Option.bind_some]) ?_
 have := chained_l0 aa b (if fitsFrom (fromOf b) aa = true then 0 else 131) (aa ++ [b]) [] (by simp; omega) (fun d hd' => by
  rcases List.mem_append.1 hd' with h | h
  ·
   exact hd d h
  ·
   rw [List.mem_singleton.1 h]; exact hb) (fun hall => by
  have hal := List.all_eq_true.1 hall
  have hcb := hal b (by simp)
  refine Ev.bind (lens_all hb hcb) ?_
  have := chained_l1 aa [] (fromOf b) (by simp; omega) (fun d hd' => ⟨hal d (by simp [hd']), hd d hd'⟩)
  simpa using this)
 simpa using this

/-- what stands between two steps of Chain -/
inductive Run : List (List S70) → List S70 → List (List S70) → List S70 → Prop
 | nil (l : List S70) : Run [] l [] l
 | cons {a x y l l' : List S70} {aa xs : List (List S70)} (ha : canB a = true) (hl : canB l = true) (hf : fromOf a = fromOf l) (hx : canB x = true) (hy : canB y = true) (hfy : fromOf y = toOf a) (hfx : fromOf x = toOf l)
   (ey : Eqv y (overOps false (a.length + l.length + 1) a 0 l 0)) (ex : Eqv x (overOps true (l.length + a.length + 1) l 0 a 0)) (h : Run aa y xs l') : Run (a :: aa) l (x :: xs) l'
theorem Run.len {aa xs : List (List S70)} {l l' : List S70} (h : Run aa l xs l') : aa.length = xs.length := by
 induction h with
 | nil => rfl
 | cons _ _ _ _ _ _ _ _ _ _ ih => simp [ih]
theorem both_res (a l : List S70) : ∃ x y e, shift_Both.f a l = some (x, y, e) ∧ (e ≠ 0 ∧ x = [] ∧ y = [] ∨ e = 0 ∧ canB a = true ∧ canB l = true ∧ fromOf a = fromOf l ∧ canB x = true ∧ canB y = true ∧ fromOf y = toOf a ∧ fromOf x = toOf l ∧ Eqv y (overOps false (a.length + l.length + 1) a 0 l 0) ∧ Eqv x (overOps true (l.length + a.length + 1) l 0 a 0)) := by
 obtain ⟨x, e1, hx, hxx⟩ := over_res l a true
 obtain ⟨y, e2, hy, hyy⟩ := over_res a l false
 unfold shift_Both.f
 rcases hxx with ⟨x1, x2⟩ | ⟨x1, x2, x3, x4, x5, x6, x7⟩
 ·
  exact ⟨[], [], e1, by rw [hx, Option.bind_some, if_neg x1], .inl ⟨x1, rfl, rfl⟩⟩
 ·
  rcases hyy with ⟨y1, y2⟩ | ⟨y1, y2, y3, y4, y5, y6, y7⟩
  ·
   exact ⟨[], [], e2, by rw [hx, Option.bind_some, if_pos x1, hy, Option.bind_some, if_neg y1], .inl ⟨y1, rfl, rfl⟩⟩
  ·
   exact ⟨x, y, 0, by rw [hx, Option.bind_some, if_pos x1, hy, Option.bind_some, if_pos y1], .inr ⟨rfl, y2, y3, y4, x5, y5, y6, x6, y7, x7⟩⟩
theorem chain_loop (rest : List (List S70)) : ∀ (pre : List (List S70)) (l : List S70) (out : List (List S70)), (pre ++ rest).length < 5864062014804 → out.length ≤ pre.length →
  ∃ l' xs e, Ev (fun k => shift_Chain.l0 k l out (pre ++ rest) ((pre ++ rest).length : Int) (pre.length : Int)) (l', xs, e) ∧ (e ≠ 0 ∧ l' = [] ∧ xs = [] ∨ e = 0 ∧ ∃ ys, xs = out ++ ys ∧ Run rest l ys l') := by
 induction rest with
 | nil =>
  intro pre l out hl ho
  refine ⟨l, out, 0, ?_, .inr ⟨rfl, [], by simp, Run.nil l⟩⟩
  refine Ev.step (f := fun _ => some (l, out, 0)) (fun k => ?_) (Ev.now _)
  rw [shift_Chain.l0, if_neg (by simp)]
 | cons a rest ih =>
  intro pre l out hl ho
  have hrd := rd6_at pre a rest
  have hge : (0 : Int) ≤ (pre.length : Int) := Int.natCast_nonneg _
  have hlt : (pre.length : Int) < ((pre ++ a :: rest).length : Int) := by simp; omega
  have hw := wrap_succ (i := pre.length) (n := (pre ++ a :: rest).length) (by simp) (by omega)
  have hpl : ((pre ++ [a]).length : Int) = ((pre.length + 1 : Nat) : Int) := by simp
  obtain ⟨x, y, e, hb, hr⟩ := both_res a l
  have hout : out.length < 5864062014805 := by simp only [List.length_append, List.length_cons] at hl; omega
  rcases hr with ⟨h1, h2, h3⟩ | ⟨h1, h2, h3, h4, h5, h6, h7, h8, h9, h10⟩
  ·
   refine ⟨[], [], e, ?_, .inl ⟨h1, rfl, rfl⟩⟩
   refine Ev.step (f := fun _ => some ([], [], e)) (fun k => ?_) (Ev.now _)
   rw [shift_Chain.l0, if_pos hlt, if_pos hge, if_pos hlt, hrd, hb, Option.bind_some, if_neg h1]
  ·
   obtain ⟨l', xs, e', i1, i2⟩ := ih (pre ++ [a]) y (out ++ [x]) (by simpa using hl) (by simp; omega)
   simp only [List.append_assoc, List.singleton_append] at i1
   rw [hpl] at i1
   refine ⟨l', xs, e', ?_, ?_⟩
   ·
    exact Ev.step (fun k => by rw [shift_Chain.l0, if_pos hlt, if_pos hge, if_pos hlt, hrd, hb, Option.bind_some, if_pos h1, if_pos hout, hw]) i1
   ·
    rcases i2 with ⟨j1, j2, j3⟩ | ⟨j1, ys, j2, j3⟩
    ·
     exact .inl ⟨j1, j2, j3⟩
    ·
     exact .inr ⟨j1, x :: ys, by rw [j2]; simp, Run.cons h2 h3 h4 h5 h6 h7 h8 h9 h10 j3⟩
theorem chain_ev {aa : List (List S70)} {b : List S70} (hl : aa.length < 5864062014804) (hd : ∀ d ∈ aa, d.length ≤ 9223372036854775807) (hb : b.length ≤ 9223372036854775807) :
  ∃ l' xs e, Ev (fun k => shift_Chain.f k aa b) (l', xs, e) ∧ (e ≠ 0 ∧ l' = [] ∧ xs = [] ∨ e = 0 ∧ canB b = true ∧ Run aa b xs l') := by
 have hch := chained_ev (b := b) hl hd hb
 by_cases hall : (aa ++ [b]).all canB = true
 ·
  rw [if_pos hall] at hch
  have hcb := List.all_eq_true.1 hall b (by simp)
  by_cases hf : fitsFrom (fromOf b) aa = true
  ·
   rw [if_pos hf] at hch
   obtain ⟨l', xs, e, i1, i2⟩ := chain_loop aa [] b [] (by simpa using hl) (by simp)
   have hcl := canB_lens hcb
   have hcan : delta_Canon.f b = some (b, 0) := by
    unfold delta_Canon.f
    rw [if_pos (List.all_eq_true.mpr (okc hcl.1)), if_pos ⟨hcl.2.1, hcl.2.2⟩, canon_id hcl.1]
   refine ⟨l', xs, e, ?_, ?_⟩
   ·
    refine Ev.bind hch ?_
    refine Ev.congr (fun k => by rw [if_pos rfl, hcan, Option.bind_some]) ?_
    simpa using i1
   ·
    rcases i2 with h | ⟨j1, ys, j2, j3⟩
    ·
     exact .inl h
    ·
     rw [List.nil_append] at j2
     rw [j2]
     exact .inr ⟨j1, hcb, j3⟩
  ·
   rw [if_neg hf] at hch
   exact ⟨[], [], 131, Ev.bind hch (Ev.now _), .inl ⟨by decide, rfl, rfl⟩⟩
 ·
  rw [if_neg hall] at hch
  exact ⟨[], [], 130, Ev.bind hch (Ev.now _), .inl ⟨by decide, rfl, rfl⟩⟩

/-- what the law's loop holds -/
structure CJ (one two l : List S70) : Prop where
 hone : canB one = true
 htwo : canB two = true
 hll : canB l = true
 from_ : fromOf one = fromOf two
 fit : fromOf l = toOf one
 tto : toOf two = toOf l
 sem : ∀ {α : Type} {g : ByteArray → List α}, Wr g → ∀ xs : List α, fromOf one ≤ (xs.length : Int) → ap g l (ap g one xs) = ap g two xs
theorem CJ.same {one two l : List S70} (h : CJ one two l) : canon (compOps one l) = two := by
 obtain ⟨p1, p2, p3, p4⟩ := comp_eqv h.hone h.hll h.fit
 have oko := chainOk_opOk (canB_lens h.hone).1
 have hf0 := fromOf_nonneg (d := one) (fun o ho => kindOk_posN (opOk_kindOk (oko o ho)))
 obtain ⟨n, hn⟩ : ∃ n : Nat, fromOf one = (n : Int) := ⟨(fromOf one).toNat, by omega⟩
 refine uniq _ _ 0 n p1 (canB_lens h.htwo).1 (by rw [p2, hn]) (by rw [← h.from_, hn]) ?_
 rw [p4 wr_gs (tk 0 n) (by rw [tk_len]; omega)]
 exact h.sem wr_gs (tk 0 n) (by rw [tk_len]; omega)
theorem comp_can {a y : List S70} (ha : canB a = true) (hy : canB y = true) (hf : fromOf y = toOf a) : canB (canon (compOps a y)) = true := by
 obtain ⟨p1, p2, p3, p4⟩ := comp_eqv ha hy hf
 simp only [canB, Bool.and_eq_true, decide_eq_true_eq]
 exact ⟨⟨p1, by rw [p2]; exact (canB_lens ha).2.1⟩, by rw [p3]; exact (canB_lens hy).2.2⟩
theorem CJ.start {a b x y : List S70} (ha : canB a = true) (hb : canB b = true) (hf : fromOf a = fromOf b) (hx : canB x = true) (hy : canB y = true) (hfy : fromOf y = toOf a) (hfx : fromOf x = toOf b)
  (ey : Eqv y (overOps false (a.length + b.length + 1) a 0 b 0)) (ex : Eqv x (overOps true (b.length + a.length + 1) b 0 a 0)) : CJ a (canon (compOps b x)) y := by
 obtain ⟨m1, m2⟩ := meet_one ha hb hf hx hy hfy hfx ey ex
 obtain ⟨p1, p2, p3, p4⟩ := comp_eqv hb hx hfx
 obtain ⟨r1, r2, r3, r4⟩ := comp_eqv ha hy hfy
 refine ⟨ha, comp_can hb hx hfx, hy, by rw [p2, hf], hfy, by rw [← m2, r3], ?_⟩
 intro α g hg xs hxs
 rw [p4 hg xs (by omega)]
 exact m1 hg xs hxs
theorem CJ.step {one two l a x y : List S70} (h : CJ one two l) (ha : canB a = true) (hf : fromOf a = fromOf l) (hx : canB x = true) (hy : canB y = true) (hfy : fromOf y = toOf a) (hfx : fromOf x = toOf l)
  (ey : Eqv y (overOps false (a.length + l.length + 1) a 0 l 0)) (ex : Eqv x (overOps true (l.length + a.length + 1) l 0 a 0)) : fromOf a = toOf one ∧ fromOf x = toOf two ∧ CJ (canon (compOps one a)) (canon (compOps two x)) y := by
 have h1 : fromOf a = toOf one := by rw [hf, h.fit]
 have h2 : fromOf x = toOf two := by rw [hfx, h.tto]
 obtain ⟨m1, m2⟩ := meet_one ha h.hll hf hx hy hfy hfx ey ex
 obtain ⟨p1, p2, p3, p4⟩ := comp_eqv h.hone ha h1
 obtain ⟨q1, q2, q3, q4⟩ := comp_eqv h.htwo hx h2
 obtain ⟨r1, r2, r3, r4⟩ := comp_eqv ha hy hfy
 obtain ⟨s1, s2, s3, s4⟩ := comp_eqv h.hll hx hfx
 refine ⟨h1, h2, comp_can h.hone ha h1, comp_can h.htwo hx h2, hy, by rw [p2, q2, h.from_], by rw [p3, hfy], by rw [q3, ← s3, ← m2, r3], ?_⟩
 intro α g hg xs hxs
 rw [p2] at hxs
 have hln := ap_len hg one xs (okc (canB_lens h.hone).1) hxs
 rw [p4 hg xs hxs, q4 hg xs (by rw [← h.from_]; exact hxs), ← h.sem hg xs hxs]
 exact m1 hg _ (by rw [hln]; omega)
theorem chains_loop (last : List S70) (rest : List (List S70)) : ∀ (restL pre preL : List (List S70)) (one two l : List S70), Run rest l restL last → CJ one two l → pre.length = preL.length → 1 ≤ pre.length → (pre ++ rest).length ≤ 9223372036854775807 →
  Ev (fun k => galleylaw14_ShiftChains.l0 k (pre ++ rest) last (preL ++ restL) one two ((pre ++ rest).length : Int) (pre.length : Int)) true := by
 induction rest with
 | nil =>
  intro restL pre preL one two l hr hj hp h1 hl
  cases hr
  refine Ev.step (fun k => by rw [galleylaw14_ShiftChains.l0, if_neg (by simp), compose_fit hj.hone hj.hll hj.fit, Option.bind_some, if_pos rfl, hj.same]) ?_
  exact Ev.bind (same14_one two (by have := canB_length hj.htwo; omega)) (Ev.now _)
 | cons a rest ih =>
  intro restL pre preL one two l hr hj hp h1 hl
  cases hr with
  | @cons _ x y _ _ _ xs ha hl2 hf hx hy hfy hfx ey ex h =>
   have hrd := rd6_at pre a rest
   have hrd2 := rd6_at preL x xs
   rw [← hp] at hrd2
   have hge : (0 : Int) ≤ (pre.length : Int) := Int.natCast_nonneg _
   have hlt : (pre.length : Int) < ((pre ++ a :: rest).length : Int) := by simp; omega
   have hlt2 : (pre.length : Int) < ((preL ++ x :: xs).length : Int) := by simp; omega
   have hpos : (pre.length : Int) > 0 := by omega
   have hw := wrap_succ (i := pre.length) (n := (pre ++ a :: rest).length) (by simp) hl
   have hpl : ((pre ++ [a]).length : Int) = ((pre.length + 1 : Nat) : Int) := by simp
   obtain ⟨s1, s2, s3⟩ := hj.step ha hf hx hy hfy hfx ey ex
   have hih := ih xs (pre ++ [a]) (preL ++ [x]) _ _ _ h s3 (by simp [hp]) (by simp) (by simpa using hl)
   simp only [List.append_assoc, List.singleton_append] at hih
   rw [hpl] at hih
   exact Ev.step (fun k => by rw [galleylaw14_ShiftChains.l0, if_pos hlt, if_pos hpos, if_pos hge, if_pos hlt, hrd, compose_fit hj.hone ha s1, Option.bind_some, if_pos rfl, if_pos hlt2, hrd2, compose_fit hj.htwo hx s2, Option.bind_some, if_pos rfl, hw]) hih
theorem shiftChains_law (aa : List (List S70)) (b : List S70) (hl : aa.length < 5864062014804) (hd : ∀ d ∈ aa, d.length ≤ 9223372036854775807) (hb : b.length ≤ 9223372036854775807) : Ev (fun k => galleylaw14_ShiftChains.f k aa b) true := by
 unfold galleylaw14_ShiftChains.f
 refine Ev.bind (a := true) (Ev.now _) ?_
 simp only [if_true]
 obtain ⟨l', xs, e, h1, h2⟩ := chain_ev (b := b) hl hd hb
 refine Ev.bind h1 ?_
 rcases h2 with ⟨e1, e2, e3⟩ | ⟨e1, hcb, hr⟩
 ·
  rw [e2, e3]
  refine Ev.congr (fun k => by rw [if_neg e1, if_pos (by rfl)]) ?_
  exact Ev.now _
 ·
  have hlen := hr.len
  have hlen2 : (xs.length : Int) = (aa.length : Int) := by omega
  refine Ev.congr (fun k => by rw [if_pos e1, if_pos hlen2]) ?_
  cases hr with
  | nil =>
   refine Ev.congr (fun k => by rw [if_pos (by simp)]) ?_
   exact Ev.bind (same14_one _ hb) (Ev.now _)
  | @cons a x y _ _ aa xs ha hl2 hf hx hy hfy hfx ey ex h =>
   have hlt : (0 : Int) < ((a :: aa).length : Int) := by rw [List.length_cons]; omega
   have hne : ¬ ((a :: aa).length : Int) = 0 := by omega
   refine Ev.congr (fun k => by rw [if_neg hne, if_pos hlt]) ?_
   have hr0 : rd_L6 (a :: aa) 0 = a := rd6_at [] a aa
   have hx0 : rd_L6 (x :: xs) 0 = x := rd6_at [] x xs
   have hj := CJ.start ha hl2 hf hx hy hfy hfx ey ex
   have hlt2 : (0 : Int) < ((x :: xs).length : Int) := by rw [List.length_cons]; omega
   have hn0 : ¬ ((0 : Int) > 0) := by omega
   rw [hr0]
   refine Ev.step (fun k => by rw [galleylaw14_ShiftChains.l0, if_pos hlt, if_neg hn0, if_pos (Int.le_refl 0), if_pos hlt2, hx0, compose_fit hcb hx hfx, Option.bind_some, if_pos rfl]) ?_
   have := chains_loop l' aa xs [a] [x] a _ y h hj rfl (by simp) (by simp at hl ⊢; omega)
   have hz : wrap64 (0 + 1) = 1 := by unfold wrap64; omega
   rw [hz]
   simpa using this
end Go.Proofs.Ytidihnnkcmeaeaa.A
