/- What a list of operations does to a row; Canon does the same and is canonical. Plain lists. No condition but canonical operations. -/
import Derived.Test.YtidihnnkcmeaeaaMG2
namespace Go.Proofs.Ytidihnnkcmeaeaa.A
open Go.RowKit Go.Proofs.YtidihnnkcmeaeaaW.PrintWords Go.Proofs.YtidihnnkcmeaeaaW.PrintLast Go.Proofs.YtidihnnkcmeaeaaW.PrintMore
set_option linter.unusedVariables false
set_option linter.unusedSimpArgs false
structure Wr {α : Type} (g : ByteArray → List α) : Prop where
 app : ∀ s t, g (s ++ t) = g s ++ g t
 len : ∀ s, (g s).length = s.size
theorem Wr.nil {α : Type} {g : ByteArray → List α} (h : Wr g) : g noText = [] := List.eq_nil_of_length_eq_zero (by rw [h.len]; rfl)
theorem ap_put {α : Type} {g : ByteArray → List α} {o : S70} {d : List S70} {xs : List α} (h : o.f0 = 2) : ap g (o :: d) xs = g o.f2 ++ ap g d xs := by rw [ap, if_pos h]
theorem ap_keep {α : Type} {g : ByteArray → List α} {o : S70} {d : List S70} {xs : List α} (h : o.f0 = 1) : ap g (o :: d) xs = xs.take o.f1.toNat ++ ap g d (xs.drop o.f1.toNat) := by rw [ap, if_neg (by omega), if_pos h]
theorem ap_drop {α : Type} {g : ByteArray → List α} {o : S70} {d : List S70} {xs : List α} (h : o.f0 = 3) : ap g (o :: d) xs = ap g d (xs.drop o.f1.toNat) := by rw [ap, if_neg (by omega), if_neg (by omega)]
theorem okk_cases {o : S70} (h : kindOk o = true) : o.f0 = 2 ∨ o.f0 = 1 ∧ 0 ≤ o.f1 ∨ o.f0 = 3 ∧ 0 ≤ o.f1 := by
 simp only [kindOk, Bool.and_eq_true, Bool.or_eq_true, decide_eq_true_eq, beq_iff_eq] at h
 omega
theorem ap_append {α : Type} {g : ByteArray → List α} : ∀ (a b : List S70) (xs : List α), (∀ o ∈ a, kindOk o = true) → ap g (a ++ b) xs = ap g a xs ++ ap g b (xs.drop (fromOf a).toNat)
 | [], b, xs, _ => by simp [ap, fromOf]
 | o :: a, b, xs, h => by
  have h' : ∀ x ∈ a, kindOk x = true := fun x hx => h x (List.mem_cons_of_mem _ hx)
  have hf := fromOf_nonneg (d := a) (fun x hx => kindOk_posN (h' x hx))
  rw [List.cons_append, fromOf_cons]
  rcases okk_cases (h o List.mem_cons_self) with k1 | ⟨k1, k2⟩ | ⟨k1, k2⟩
  ·
   rw [ap_put k1, ap_put k1, ap_append a b _ h', if_pos k1, Int.zero_add, List.append_assoc]
  ·
   rw [ap_keep k1, ap_keep k1, ap_append a b _ h', if_neg (by omega), List.append_assoc, List.drop_drop]
   congr 4
   omega
  ·
   rw [ap_drop k1, ap_drop k1, ap_append a b _ h', if_neg (by omega), List.drop_drop]
   congr 3
   omega
theorem ap_len {α : Type} {g : ByteArray → List α} (hg : Wr g) : ∀ (a : List S70) (xs : List α), (∀ o ∈ a, kindOk o = true) → fromOf a ≤ (xs.length : Int) → ((ap g a xs).length : Int) = toOf a
 | [], xs, _, _ => by simp [ap, toOf]
 | o :: a, xs, h, hx => by
  have h' : ∀ x ∈ a, kindOk x = true := fun x hx => h x (List.mem_cons_of_mem _ hx)
  have hf := fromOf_nonneg (d := a) (fun x hx => kindOk_posN (h' x hx))
  rw [fromOf_cons] at hx
  rw [toOf_cons]
  rcases okk_cases (h o List.mem_cons_self) with k1 | ⟨k1, k2⟩ | ⟨k1, k2⟩
  ·
   rw [if_pos k1] at hx
   rw [ap_put k1, if_pos k1, List.length_append, hg.len, Int.natCast_add, ap_len hg a xs h' (by omega)]
  ·
   rw [if_neg (by omega)] at hx
   rw [ap_keep k1, if_neg (by omega), if_neg (by omega), List.length_append, List.length_take, Int.natCast_add, ap_len hg a _ h' (by rw [List.length_drop]; omega)]
   omega
  ·
   rw [if_neg (by omega)] at hx
   rw [ap_drop k1, if_neg (by omega), if_pos k1, ap_len hg a _ h' (by rw [List.length_drop]; omega)]
   omega
structure Eqv (a b : List S70) : Prop where
 sem : ∀ {α : Type} {g : ByteArray → List α}, Wr g → ∀ xs : List α, fromOf a ≤ (xs.length : Int) → ap g a xs = ap g b xs
 from_ : fromOf a = fromOf b
 tto : toOf a = toOf b
theorem Eqv.refl (a : List S70) : Eqv a a := ⟨fun _ _ _ => rfl, rfl, rfl⟩
theorem Eqv.trans {a b c : List S70} (h : Eqv a b) (k : Eqv b c) : Eqv a c := ⟨fun hg xs hx => (h.sem hg xs hx).trans (k.sem hg xs (by rw [← h.from_]; exact hx)), h.from_.trans k.from_, h.tto.trans k.tto⟩
theorem Eqv.left {a b : List S70} (h : Eqv a b) (c : List S70) (ha : ∀ o ∈ a, kindOk o = true) (hb : ∀ o ∈ b, kindOk o = true) (hc : 0 ≤ fromOf c) : Eqv (a ++ c) (b ++ c) := by
 refine ⟨fun hg xs hx => ?_, by rw [fromOf_append, fromOf_append, h.from_], by rw [toOf_append, toOf_append, h.tto]⟩
 rw [fromOf_append] at hx
 rw [ap_append a c xs ha, ap_append b c xs hb, h.sem hg xs (by omega), h.from_]
theorem Eqv.right {a b : List S70} (h : Eqv a b) (c : List S70) (hc : ∀ o ∈ c, kindOk o = true) : Eqv (c ++ a) (c ++ b) := by
 have hf := fromOf_nonneg (d := c) (fun x hx => kindOk_posN (hc x hx))
 refine ⟨fun hg xs hx => ?_, by rw [fromOf_append, fromOf_append, h.from_], by rw [toOf_append, toOf_append, h.tto]⟩
 rw [fromOf_append] at hx
 rw [ap_append c a xs hc, ap_append c b xs hc, h.sem hg _ (by rw [List.length_drop]; omega)]
theorem chain_snoc : ∀ (l : List S70) (q : S70), chainOk (l ++ [q]) = (chainOk l && opOk q && pvOk l.getLast? q)
 | [], q => by simp [chainOk, hdOk, pvOk]
 | [a], q => by simp [chainOk, hdOk, pvOk, nbOk, Bool.and_comm, Bool.and_left_comm, Bool.and_assoc]
 | a :: b :: l, q => by
  have ih := chain_snoc (b :: l) q
  have e : (a :: b :: l) ++ [q] = a :: ((b :: l) ++ [q]) := rfl
  rw [e, chainOk, ih]
  have h1 : hdOk a ((b :: l) ++ [q]) = hdOk a (b :: l) := rfl
  have h2 : (a :: b :: l).getLast? = (b :: l).getLast? := by simp
  have h3 : chainOk (a :: b :: l) = (opOk a && hdOk a (b :: l) && chainOk (b :: l)) := rfl
  rw [h1, h2, h3]
  simp only [Bool.and_assoc]
structure BK (b : Bs) : Prop where
 bw : BW b
 ok : chainOk b.out = true
theorem BK.new : BK Bs.new := ⟨BW.zero, rfl⟩
theorem kend_last {out : List S70} (h : KEnd out) : out.getLast? = none ∨ ∃ m, out.getLast? = some (⟨1, m, noText⟩ : S70) := by
 rcases h with rfl | ⟨init, m, rfl⟩
 ·
  exact .inl rfl
 ·
  exact .inr ⟨m, by simp⟩
theorem done_chain {b : Bs} (h : BK b) : chainOk b.done = true := by
 obtain ⟨hb, ho⟩ := h
 cases hb with
 | zero => rfl
 | kept init m hm => rw [done_kept]; exact ho
 | chg out put drop hk hd h =>
  have hoo : chainOk out = true := ho
  rw [done_chg]
  have h1 : chainOk (if 0 < put.size then out ++ [(⟨2, 0, put⟩ : S70)] else out) = true := by
   by_cases hp : 0 < put.size
   ·
    rw [if_pos hp, chain_snoc, hoo, opOk_put (by omega), Bool.true_and, Bool.true_and]
    rcases kend_last hk with e | ⟨m, e⟩ <;> rw [e] <;> rfl
   ·
    rw [if_neg hp]; exact hoo
  by_cases hdp : 0 < drop
  ·
   rw [if_pos hdp, chain_snoc, h1, opOk_num (.inr rfl) (by omega), Bool.true_and, Bool.true_and]
   by_cases hp : 0 < put.size
   ·
    rw [if_pos hp]
    simp [pvOk, nbOk]
   ·
    rw [if_neg hp]
    rcases kend_last hk with e | ⟨m, e⟩ <;> rw [e] <;> rfl
  ·
   rw [if_neg hdp, List.append_nil]; exact h1
theorem fromOf_one (o : S70) : fromOf [o] = if o.f0 = 2 then 0 else o.f1 := by rw [fromOf_cons]; simp [fromOf]
theorem toOf_one (o : S70) : toOf [o] = if o.f0 = 2 then (o.f2.size : Int) else if o.f0 = 3 then 0 else o.f1 := by rw [toOf_cons]; simp [toOf]
theorem eqv_keeps {m n : Int} (hm : 0 ≤ m) (hn : 0 ≤ n) : Eqv [(⟨1, m + n, noText⟩ : S70)] [(⟨1, m, noText⟩ : S70), ⟨1, n, noText⟩] := by
 refine ⟨fun hg xs hx => ?_, by simp [fromOf], by simp [toOf]⟩
 rw [ap_keep rfl, ap_keep rfl, ap_keep rfl]
 dsimp only [ap]
 rw [List.append_nil, List.append_nil, show (m + n).toNat = m.toNat + n.toNat by omega, List.take_add]
theorem eqv_drops {m n : Int} (hm : 0 ≤ m) (hn : 0 ≤ n) : Eqv [(⟨3, m + n, noText⟩ : S70)] [(⟨3, m, noText⟩ : S70), ⟨3, n, noText⟩] := by
 refine ⟨fun hg xs hx => ?_, by simp [fromOf], by simp [toOf]⟩
 rw [ap_drop rfl, ap_drop rfl, ap_drop rfl]
 dsimp only [ap]
theorem eqv_puts (s t : ByteArray) : Eqv [(⟨2, 0, s ++ t⟩ : S70)] [(⟨2, 0, s⟩ : S70), ⟨2, 0, t⟩] := by
 refine ⟨fun hg xs hx => ?_, by simp [fromOf], by simp [toOf, ByteArray.size_append]⟩
 rw [ap_put rfl, ap_put rfl, ap_put rfl]
 dsimp only [ap]
 rw [hg.app]
 simp
theorem eqv_swap (s : ByteArray) (n : Int) : Eqv [(⟨2, 0, s⟩ : S70), ⟨3, n, noText⟩] [(⟨3, n, noText⟩ : S70), ⟨2, 0, s⟩] := by
 refine ⟨fun hg xs hx => ?_, by simp [fromOf], by simp [toOf]⟩
 rw [ap_put rfl, ap_drop rfl, ap_drop rfl, ap_put rfl]
theorem eqv_none {q : S70} (h : q = ⟨1, 0, noText⟩ ∨ q = ⟨3, 0, noText⟩ ∨ q = ⟨2, 0, noText⟩) : Eqv [] [q] := by
 rcases h with rfl | rfl | rfl
 ·
  refine ⟨fun hg xs hx => ?_, by simp [fromOf], by simp [toOf]⟩
  rw [ap_keep rfl]; simp [ap]
 ·
  refine ⟨fun hg xs hx => ?_, by simp [fromOf], by simp [toOf]⟩
  rw [ap_drop rfl]; simp [ap]
 ·
  refine ⟨fun hg xs hx => ?_, by simp [fromOf], by simp [toOf, noText_size]⟩
  rw [ap_put rfl, hg.nil]; simp [ap]
def norm (o : S70) : S70 := if o.f0 = 2 then ⟨2, 0, o.f2⟩ else ⟨o.f0, o.f1, noText⟩
theorem norm_eqv {o : S70} (h : kindOk o = true) : Eqv [norm o] [o] := by
 rcases okk_cases h with k1 | ⟨k1, k2⟩ | ⟨k1, k2⟩
 ·
  have : norm o = ⟨2, 0, o.f2⟩ := by unfold norm; rw [if_pos k1]
  rw [this]
  refine ⟨fun hg xs hx => ?_, by rw [fromOf_one, fromOf_one, if_pos rfl, if_pos k1], by rw [toOf_one, toOf_one, if_pos rfl, if_pos k1]⟩
  rw [ap_put rfl, ap_put k1]
 ·
  have : norm o = ⟨1, o.f1, noText⟩ := by unfold norm; rw [if_neg (by omega), k1]
  rw [this]
  refine ⟨fun hg xs hx => ?_, by rw [fromOf_one, fromOf_one, if_neg (show ¬ (1 : Int) = 2 by decide), if_neg (show ¬ o.f0 = 2 by omega)], by rw [toOf_one, toOf_one, if_neg (show ¬ (1 : Int) = 2 by decide), if_neg (show ¬ (1 : Int) = 3 by decide), if_neg (show ¬ o.f0 = 2 by omega), if_neg (show ¬ o.f0 = 3 by omega)]⟩
  rw [ap_keep rfl, ap_keep k1]
 ·
  have : norm o = ⟨3, o.f1, noText⟩ := by unfold norm; rw [if_neg (by omega), k1]
  rw [this]
  refine ⟨fun hg xs hx => ?_, by rw [fromOf_one, fromOf_one, if_neg (show ¬ (3 : Int) = 2 by decide), if_neg (show ¬ o.f0 = 2 by omega)], by rw [toOf_one, toOf_one, if_neg (show ¬ (3 : Int) = 2 by decide), if_pos (show (3 : Int) = 3 from rfl), if_neg (show ¬ o.f0 = 2 by omega), if_pos k1]⟩
  rw [ap_drop rfl, ap_drop k1]
theorem okc {l : List S70} (h : chainOk l = true) : ∀ o ∈ l, kindOk o = true := fun o ho => opOk_kindOk (chainOk_opOk h o ho)
theorem okone (k n : Int) (s : ByteArray) (h : (k = 1 ∨ k = 3) ∧ 0 ≤ n ∨ k = 2) : ∀ o ∈ [(⟨k, n, s⟩ : S70)], kindOk o = true := by
 intro o ho
 rw [List.mem_singleton.1 ho]
 simp only [kindOk, Bool.and_eq_true, Bool.or_eq_true, decide_eq_true_eq, beq_iff_eq]
 omega
theorem step_eqv {b : Bs} {o : S70} (h : BK b) (hk : kindOk o = true) : BK (b.step o) ∧ Eqv (b.step o).done (b.done ++ [o]) := by
 have hdc := okc (done_chain h)
 suffices hs : BK (b.step o) ∧ Eqv (b.step o).done (b.done ++ [norm o]) by
  exact ⟨hs.1, hs.2.trans ((norm_eqv hk).right b.done hdc)⟩
 obtain ⟨hb, hoo⟩ := h
 rcases okk_cases hk with k1 | ⟨k1, k2⟩ | ⟨k1, k2⟩
 ·
  have hno : norm o = ⟨2, 0, o.f2⟩ := by unfold norm; rw [if_pos k1]
  have hst : b.step o = b.onPut o.f2 := by unfold Bs.step; rw [if_pos k1]
  rw [hst, hno]
  by_cases h0 : o.f2.size = 0
  ·
   have : b.onPut o.f2 = b := by simp [Bs.onPut, h0]
   rw [this, noText_eq h0]
   refine ⟨⟨hb, hoo⟩, ?_⟩
   have := (eqv_none (q := ⟨2, 0, noText⟩) (.inr (.inr rfl))).right b.done hdc
   rwa [List.append_nil] at this
  ·
   have hpos : 0 < o.f2.size := by omega
   cases hb with
   | zero =>
    have he : Bs.onPut ⟨[], 0, noText, 0⟩ o.f2 = ⟨[], 2, noText ++ o.f2, 0⟩ := by simp only [Bs.onPut, if_neg h0]
    rw [he, size_nil_append, done_chg, done_zero, if_pos hpos, if_neg (by omega), List.append_nil]
    exact ⟨⟨BW.chg [] o.f2 0 (.inl rfl) (Int.le_refl 0) (.inl hpos), rfl⟩, Eqv.refl _⟩
   | kept init m hm =>
    have he : Bs.onPut ⟨init ++ [(⟨1, m, noText⟩ : S70)], 1, noText, 0⟩ o.f2 = ⟨init ++ [(⟨1, m, noText⟩ : S70)], 2, noText ++ o.f2, 0⟩ := by simp only [Bs.onPut, if_neg h0]
    rw [he, size_nil_append, done_kept, done_chg, if_pos hpos, if_neg (by omega), List.append_nil]
    exact ⟨⟨BW.chg _ o.f2 0 (.inr ⟨init, m, rfl⟩) (Int.le_refl 0) (.inl hpos), hoo⟩, Eqv.refl _⟩
   | chg out put drop ho hd hz =>
    have he : Bs.onPut ⟨out, 2, put, drop⟩ o.f2 = ⟨out, 2, put ++ o.f2, drop⟩ := by simp only [Bs.onPut, if_neg h0]
    have hsz : 0 < (put ++ o.f2).size := by rw [ByteArray.size_append]; omega
    have hout := okc (show chainOk out = true from hoo)
    rw [he, done_chg, done_chg, if_pos hsz]
    refine ⟨⟨BW.chg out (put ++ o.f2) drop ho hd (.inl hsz), hoo⟩, ?_⟩
    have hbase : Eqv (out ++ [(⟨2, 0, put ++ o.f2⟩ : S70)]) ((if 0 < put.size then out ++ [(⟨2, 0, put⟩ : S70)] else out) ++ [(⟨2, 0, o.f2⟩ : S70)]) := by
     by_cases hp : 0 < put.size
     ·
      rw [if_pos hp, List.append_assoc]
      exact (eqv_puts put o.f2).right out hout
     ·
      rw [if_neg hp, noText_eq (show put.size = 0 by omega), size_nil_append]
      exact Eqv.refl _
    by_cases hdp : 0 < drop
    ·
     rw [if_pos hdp]
     have hokA : ∀ x ∈ out ++ [(⟨2, 0, put ++ o.f2⟩ : S70)], kindOk x = true := fun x hx => by
      rcases List.mem_append.1 hx with hx | hx
      ·
       exact hout x hx
      ·
       exact okone 2 0 _ (.inr rfl) x hx
     have hokP : ∀ x ∈ (if 0 < put.size then out ++ [(⟨2, 0, put⟩ : S70)] else out), kindOk x = true := by
      split
      ·
       intro x hx
       rcases List.mem_append.1 hx with hx | hx
       ·
        exact hout x hx
       ·
        exact okone 2 0 _ (.inr rfl) x hx
      ·
       exact hout
     have hokB : ∀ x ∈ (if 0 < put.size then out ++ [(⟨2, 0, put⟩ : S70)] else out) ++ [(⟨2, 0, o.f2⟩ : S70)], kindOk x = true := fun x hx => by
      rcases List.mem_append.1 hx with hx | hx
      ·
       exact hokP x hx
      ·
       exact okone 2 0 _ (.inr rfl) x hx
     have e1 := hbase.left [(⟨3, drop, noText⟩ : S70)] hokA hokB (by rw [fromOf_one, if_neg (show ¬ (3 : Int) = 2 by decide)]; exact hd)
     have e2 := (eqv_swap o.f2 drop).right (if 0 < put.size then out ++ [(⟨2, 0, put⟩ : S70)] else out) hokP
     have e3 := e1.trans (by rw [List.append_assoc]; exact e2)
     have e4 : (if 0 < put.size then out ++ [(⟨2, 0, put⟩ : S70)] else out) ++ [(⟨3, drop, noText⟩ : S70)] ++ [(⟨2, 0, o.f2⟩ : S70)] = (if 0 < put.size then out ++ [(⟨2, 0, put⟩ : S70)] else out) ++ [(⟨3, drop, noText⟩ : S70), ⟨2, 0, o.f2⟩] := by
      rw [List.append_assoc]; rfl
     rw [e4]
     exact e3
    ·
     rw [if_neg hdp, List.append_nil, List.append_nil]
     exact hbase
 ·
  have hno : norm o = ⟨1, o.f1, noText⟩ := by unfold norm; rw [if_neg (by omega), k1]
  have hst : b.step o = b.onKeep o.f1 := by unfold Bs.step; rw [if_neg (by omega), if_pos k1]
  rw [hst, hno]
  by_cases h0 : o.f1 = 0
  ·
   have : b.onKeep o.f1 = b := by simp [Bs.onKeep, h0]
   rw [this, h0]
   refine ⟨⟨hb, hoo⟩, ?_⟩
   have := (eqv_none (q := ⟨1, 0, noText⟩) (.inl rfl)).right b.done hdc
   rwa [List.append_nil] at this
  ·
   cases hb with
   | zero =>
    have he : Bs.onKeep ⟨[], 0, noText, 0⟩ o.f1 = ⟨[] ++ [(⟨1, o.f1, noText⟩ : S70)], 1, noText, 0⟩ := by simp [Bs.onKeep, h0]
    rw [he, done_kept, done_zero]
    refine ⟨⟨BW.kept [] _ k2, ?_⟩, Eqv.refl _⟩
    show chainOk ([] ++ [(⟨1, o.f1, noText⟩ : S70)]) = true
    rw [chain_snoc, opOk_num (.inl rfl) (by omega)]
    rfl
   | kept init m hm =>
    have hg : growLast (init ++ [(⟨1, m, noText⟩ : S70)]) o.f1 = init ++ [(⟨1, m + o.f1, noText⟩ : S70)] := by
     unfold growLast
     have hx : (init ++ [(⟨1, m, noText⟩ : S70)]).getD ((init ++ [(⟨1, m, noText⟩ : S70)]).length - 1) z70 = ⟨1, m, noText⟩ := by
      rw [List.length_append, List.length_singleton, Nat.add_sub_cancel, List.getD_eq_getElem?_getD, List.getElem?_append_right (Nat.le_refl _)]
      simp
     rw [hx, List.length_append, List.length_singleton, Nat.add_sub_cancel, List.set_append_right _ _ (Nat.le_refl _), Nat.sub_self]
     rfl
    have he : Bs.onKeep ⟨init ++ [(⟨1, m, noText⟩ : S70)], 1, noText, 0⟩ o.f1 = ⟨init ++ [(⟨1, m + o.f1, noText⟩ : S70)], 1, noText, 0⟩ := by
     simp only [Bs.onKeep, if_neg h0, if_true, hg]
    have hoo2 : chainOk (init ++ [(⟨1, m, noText⟩ : S70)]) = true := hoo
    rw [chain_snoc, Bool.and_eq_true, Bool.and_eq_true] at hoo2
    have hinit := okc hoo2.1.1
    rw [he, done_kept, done_kept]
    refine ⟨⟨BW.kept init _ (by omega), ?_⟩, ?_⟩
    ·
     show chainOk (init ++ [(⟨1, m + o.f1, noText⟩ : S70)]) = true
     rw [chain_snoc, hoo2.1.1, opOk_num (.inl rfl) (by omega), Bool.and_self, Bool.true_and]
     have hp2 := hoo2.2
     cases hl : init.getLast? with
     | none => rfl
     | some z => rw [hl] at hp2; exact hp2
    ·
     rw [List.append_assoc]
     exact (eqv_keeps hm k2).right init hinit
   | chg out put drop ho hd hz =>
    have he : Bs.onKeep ⟨out, 2, put, drop⟩ o.f1 = ⟨Bs.done ⟨out, 2, put, drop⟩ ++ [(⟨1, o.f1, noText⟩ : S70)], 1, noText, 0⟩ := by
     simp only [Bs.onKeep, if_neg h0, Bs.done]
     simp
    have hdn := done_chain ⟨BW.chg out put drop ho hd hz, hoo⟩
    rw [he, done_kept]
    refine ⟨⟨BW.kept _ _ k2, ?_⟩, Eqv.refl _⟩
    show chainOk (Bs.done ⟨out, 2, put, drop⟩ ++ [(⟨1, o.f1, noText⟩ : S70)]) = true
    rw [chain_snoc, hdn, opOk_num (.inl rfl) (by omega), Bool.true_and, Bool.true_and, done_chg]
    by_cases hdp : 0 < drop
    ·
     rw [if_pos hdp]
     simp [pvOk, nbOk]
    ·
     rw [if_neg hdp, List.append_nil, if_pos (show 0 < put.size by omega)]
     simp [pvOk, nbOk]
 ·
  have hno : norm o = ⟨3, o.f1, noText⟩ := by unfold norm; rw [if_neg (by omega), k1]
  have hst : b.step o = b.onDrop o.f1 := by unfold Bs.step; rw [if_neg (by omega), if_neg (by omega)]
  rw [hst, hno]
  by_cases h0 : o.f1 = 0
  ·
   have : b.onDrop o.f1 = b := by simp [Bs.onDrop, h0]
   rw [this, h0]
   refine ⟨⟨hb, hoo⟩, ?_⟩
   have := (eqv_none (q := ⟨3, 0, noText⟩) (.inr (.inl rfl))).right b.done hdc
   rwa [List.append_nil] at this
  ·
   have hpos : 0 < o.f1 := by omega
   cases hb with
   | zero =>
    have he : Bs.onDrop ⟨[], 0, noText, 0⟩ o.f1 = ⟨[], 2, noText, 0 + o.f1⟩ := by simp [Bs.onDrop, hpos]
    rw [he, done_chg, done_zero, if_neg (by rw [noText_size]; omega), if_pos (by omega), Int.zero_add]
    exact ⟨⟨BW.chg [] noText o.f1 (.inl rfl) k2 (.inr hpos), rfl⟩, Eqv.refl _⟩
   | kept init m hm =>
    have he : Bs.onDrop ⟨init ++ [(⟨1, m, noText⟩ : S70)], 1, noText, 0⟩ o.f1 = ⟨init ++ [(⟨1, m, noText⟩ : S70)], 2, noText, 0 + o.f1⟩ := by simp [Bs.onDrop, hpos]
    rw [he, done_kept, done_chg, if_neg (by rw [noText_size]; omega), if_pos (by omega), Int.zero_add]
    exact ⟨⟨BW.chg _ noText o.f1 (.inr ⟨init, m, rfl⟩) k2 (.inr hpos), hoo⟩, Eqv.refl _⟩
   | chg out put drop ho hd hz =>
    have he : Bs.onDrop ⟨out, 2, put, drop⟩ o.f1 = ⟨out, 2, put, drop + o.f1⟩ := by simp only [Bs.onDrop, if_pos hpos]
    have hout := okc (show chainOk out = true from hoo)
    rw [he, done_chg, done_chg, if_pos (show 0 < drop + o.f1 by omega)]
    refine ⟨⟨BW.chg out put (drop + o.f1) ho (by omega) (.inr (by omega)), hoo⟩, ?_⟩
    have hokP : ∀ x ∈ (if 0 < put.size then out ++ [(⟨2, 0, put⟩ : S70)] else out), kindOk x = true := by
     split
     ·
      intro x hx
      rcases List.mem_append.1 hx with hx | hx
      ·
       exact hout x hx
      ·
       exact okone 2 0 _ (.inr rfl) x hx
     ·
      exact hout
    by_cases hdp : 0 < drop
    ·
     rw [if_pos hdp, List.append_assoc]
     exact (eqv_drops hd k2).right _ hokP
    ·
     rw [if_neg hdp, List.append_nil, show drop = 0 by omega, Int.zero_add]
     exact Eqv.refl _
theorem fold_eqv : ∀ (d : List S70) (b : Bs), BK b → (∀ o ∈ d, kindOk o = true) → BK (d.foldl Bs.step b) ∧ Eqv (d.foldl Bs.step b).done (b.done ++ d)
 | [], b, hb, _ => ⟨hb, by rw [List.foldl_nil, List.append_nil]; exact Eqv.refl _⟩
 | o :: d, b, hb, h => by
  obtain ⟨s1, s2⟩ := step_eqv hb (h o List.mem_cons_self)
  have h' : ∀ x ∈ d, kindOk x = true := fun x hx => h x (List.mem_cons_of_mem _ hx)
  obtain ⟨t1, t2⟩ := fold_eqv d (b.step o) s1 h'
  rw [List.foldl_cons]
  refine ⟨t1, t2.trans ?_⟩
  have hokD := okc (done_chain s1)
  have hokE : ∀ x ∈ b.done ++ [o], kindOk x = true := fun x hx => by
   rcases List.mem_append.1 hx with hx | hx
   ·
    exact okc (done_chain hb) x hx
   ·
    rw [List.mem_singleton.1 hx]; exact h o List.mem_cons_self
  have := s2.left d hokD hokE (fromOf_nonneg (fun x hx => kindOk_posN (h' x hx)))
  rwa [List.append_assoc] at this
theorem canon_sem {d : List S70} (h : ∀ o ∈ d, kindOk o = true) : chainOk (canon d) = true ∧ Eqv (canon d) d := by
 obtain ⟨h1, h2⟩ := fold_eqv d Bs.new BK.new h
 have h0 : Bs.new.done = [] := done_zero
 rw [h0, List.nil_append] at h2
 exact ⟨done_chain h1, h2⟩
end Go.Proofs.Ytidihnnkcmeaeaa.A
