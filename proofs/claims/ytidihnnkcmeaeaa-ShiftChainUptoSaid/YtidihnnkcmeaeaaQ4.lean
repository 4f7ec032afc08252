/- What Over's operations do: both orders meet. Plain lists. No condition but canonical operations. -/
import Derived.Test.YtidihnnkcmeaeaaQ2
import Derived.Test.YtidihnnkcmeaeaaO
namespace Go.Proofs.Ytidihnnkcmeaeaa.A
open Go.RowKit Go.Proofs.YtidihnnkcmeaeaaW.PrintWords Go.Proofs.YtidihnnkcmeaeaaW.PrintLast Go.Proofs.YtidihnnkcmeaeaaW.PrintMore
set_option linter.unusedVariables false
set_option linter.unusedSimpArgs false
theorem ap_keep_mk {α : Type} {g : ByteArray → List α} {k m : Int} {s : ByteArray} {d : List S70} {xs : List α} (h : k = 1) : ap g ((⟨k, m, s⟩ : S70) :: d) xs = xs.take m.toNat ++ ap g d (xs.drop m.toNat) := ap_keep (o := ⟨k, m, s⟩) h
theorem ap_drop_mk {α : Type} {g : ByteArray → List α} {k m : Int} {s : ByteArray} {d : List S70} {xs : List α} (h : k = 3) : ap g ((⟨k, m, s⟩ : S70) :: d) xs = ap g d (xs.drop m.toNat) := ap_drop (o := ⟨k, m, s⟩) h
def cutH (a : List S70) (x : Int) : List S70 := match a with
 | [] => []
 | p :: a => (⟨p.f0, p.f1 - x, p.f2⟩ : S70) :: a
theorem cutH_zero (a : List S70) : cutH a 0 = a := by
 cases a with
 | nil => rfl
 | cons p a => simp [cutH]
def cutOk (a : List S70) (x : Int) : Prop := 0 ≤ x ∧ (x = 0 ∨ ∃ p t, a = p :: t ∧ p.f0 ≠ 2 ∧ x < p.f1)
theorem cutOk_put {p : S70} {a : List S70} {x : Int} (h : cutOk (p :: a) x) (hp : p.f0 = 2) : x = 0 := by
 rcases h.2 with h | ⟨q, t, e, h1, h2⟩
 ·
  exact h
 ·
  injection e with e1 e2
  rw [← e1] at h1
  exact absurd hp h1
theorem cutOk_num {p : S70} {a : List S70} {x : Int} (h : cutOk (p :: a) x) (ho : opOk p = true) (hp : p.f0 ≠ 2) : x < p.f1 := by
 rcases h.2 with h | ⟨q, t, e, h1, h2⟩
 ·
  rcases opOk_cases ho with ⟨k1, k2, k3⟩ | ⟨k1, k2, k3⟩ <;> omega
 ·
  injection e with e1 e2
  rw [← e1] at h2
  exact h2
theorem cutOk_next {p : S70} {a : List S70} {x n : Int} (hx : 0 ≤ x) (hn : 0 ≤ n) (hp : p.f0 ≠ 2) (hle : x + n ≤ p.f1) : cutOk (if x + n = p.f1 then a else p :: a) (if x + n = p.f1 then 0 else x + n) := by
 by_cases h : x + n = p.f1
 ·
  rw [if_pos h, if_pos h]
  exact ⟨Int.le_refl 0, .inl rfl⟩
 ·
  rw [if_neg h, if_neg h]
  exact ⟨by omega, .inr ⟨p, a, rfl, hp, by omega⟩⟩
theorem cut_row {α : Type} {g : ByteArray → List α} {p : S70} {a : List S70} {x n : Int} {xs : List α} (ho : opOk p = true) (hp : p.f0 ≠ 2) (hx : 0 ≤ x) (hn : 0 ≤ n) (hle : x + n ≤ p.f1) :
  ap g (cutH (p :: a) x) xs = (if p.f0 = 1 then xs.take n.toNat else []) ++ ap g (cutH (if x + n = p.f1 then a else p :: a) (if x + n = p.f1 then 0 else x + n)) (xs.drop n.toNat) := by
 have hs : (p.f1 - x).toNat = n.toNat + (p.f1 - (x + n)).toNat := by omega
 rcases opOk_cases ho with ⟨k1, k2, k3⟩ | ⟨k1, k2, k3⟩
 ·
  by_cases h : x + n = p.f1
  ·
   rw [if_pos h, if_pos h, cutH_zero]
   have hs2 : (p.f1 - x).toNat = n.toNat := by omega
   rcases k1 with k1 | k1
   ·
    rw [if_pos k1, cutH, ap_keep_mk k1, hs2]
   ·
    rw [if_neg (by omega), cutH, ap_drop_mk k1, hs2, List.nil_append]
  ·
   rw [if_neg h, if_neg h]
   rcases k1 with k1 | k1
   ·
    rw [if_pos k1, cutH, cutH, ap_keep_mk k1, ap_keep_mk k1]
    rw [hs, List.take_add, List.drop_drop, List.append_assoc]
   ·
    rw [if_neg (by omega), cutH, cutH, ap_drop_mk k1, ap_drop_mk k1]
    rw [hs, List.drop_drop, List.nil_append]
 ·
  omega
theorem cut_from {p : S70} {a : List S70} {x n : Int} (hp : p.f0 ≠ 2) : fromOf (cutH (p :: a) x) = n + fromOf (cutH (if x + n = p.f1 then a else p :: a) (if x + n = p.f1 then 0 else x + n)) := by
 by_cases h : x + n = p.f1
 ·
  rw [if_pos h, if_pos h, cutH_zero, cutH, fromOf_cons, if_neg hp]
  show p.f1 - x + fromOf a = _
  omega
 ·
  rw [if_neg h, if_neg h, cutH, cutH, fromOf_cons, fromOf_cons, if_neg hp, if_neg hp]
  show p.f1 - x + fromOf a = n + (p.f1 - (x + n) + fromOf a)
  omega
theorem cut_to {p : S70} {a : List S70} {x n : Int} (hp : p.f0 ≠ 2) : toOf (cutH (p :: a) x) = (if p.f0 = 1 then n else if p.f0 = 3 then 0 else n) + toOf (cutH (if x + n = p.f1 then a else p :: a) (if x + n = p.f1 then 0 else x + n)) := by
 by_cases h : x + n = p.f1
 ·
  rw [if_pos h, if_pos h, cutH_zero, cutH, toOf_cons, if_neg hp]
  show (if p.f0 = 3 then 0 else p.f1 - x) + toOf a = _
  by_cases h3 : p.f0 = 3
  ·
   rw [if_pos h3, if_neg (by omega), if_pos h3]
  ·
   rw [if_neg h3]
   split <;> first | omega | (rw [if_neg h3]; omega)
 ·
  rw [if_neg h, if_neg h, cutH, cutH, toOf_cons, toOf_cons, if_neg hp, if_neg hp]
  show (if p.f0 = 3 then 0 else p.f1 - x) + toOf a = _ + ((if p.f0 = 3 then 0 else p.f1 - (x + n)) + toOf a)
  by_cases h3 : p.f0 = 3
  ·
   rw [if_pos h3, if_pos h3, if_neg (by omega), if_pos h3]
   omega
  ·
   rw [if_neg h3, if_neg h3]
   split <;> first | omega | (rw [if_neg h3]; omega)
theorem ok_next {p : S70} {a : List S70} {P : Prop} [Decidable P] (h : ∀ o ∈ p :: a, opOk o = true) : ∀ o ∈ (if P then a else p :: a), opOk o = true := by
 split
 ·
  exact fun o ho => h o (List.mem_cons_of_mem _ ho)
 ·
  exact h
theorem over_meet {α : Type} {g : ByteArray → List α} (hg : Wr g) : ∀ (k : Nat) (a b : List S70) (x y : Int) (xs : List α), (∀ o ∈ a, opOk o = true) → (∀ o ∈ b, opOk o = true) → cutOk a x → cutOk b y → fromOf (cutH a x) ≤ (xs.length : Int) → fromOf (cutH b y) ≤ (xs.length : Int) →
  ap g (overOps false k a x b y) (ap g (cutH a x) xs) = ap g (overOps true k b y a x) (ap g (cutH b y) xs)
 | 0, a, b, x, y, xs, _, _, _, _, _, _ => by rw [overOps, overOps, ap, ap]
 | k + 1, [], [], x, y, xs, _, _, _, _, _, _ => by rw [overOps, overOps, ap, ap]
 | k + 1, [], q :: b, x, y, xs, ha, hb, hx, hy, hfa, hfb => by
  have hb' : ∀ o ∈ b, opOk o = true := fun o ho => hb o (List.mem_cons_of_mem _ ho)
  rw [overOps, overOps]
  by_cases q2 : q.f0 = 2
  ·
   have hy0 := cutOk_put hy q2
   subst hy0
   rw [cutH_zero] at hfb ⊢
   rw [fromOf_cons, if_pos q2] at hfb
   rw [if_pos q2, if_pos q2, ap_put q2, ap_put q2, ap_keep rfl]
   have hl : (((q.f2.size : Nat) : Int)).toNat = (g q.f2).length := by rw [hg.len]; omega
   show g q.f2 ++ _ = (g q.f2 ++ ap g b xs).take ((q.f2.size : Nat) : Int).toNat ++ ap g _ ((g q.f2 ++ ap g b xs).drop ((q.f2.size : Nat) : Int).toNat)
   rw [hl, List.take_left, List.drop_left]
   have := over_meet hg k [] b x 0 xs ha hb' hx ⟨Int.le_refl 0, .inl rfl⟩ hfa (by rw [cutH_zero]; omega)
   rw [cutH_zero] at this
   rw [this]
  ·
   rw [if_neg q2, if_neg q2, ap, ap]
 | k + 1, p :: a, [], x, y, xs, ha, hb, hx, hy, hfa, hfb => by
  have ha' : ∀ o ∈ a, opOk o = true := fun o ho => ha o (List.mem_cons_of_mem _ ho)
  rw [overOps, overOps]
  by_cases p2 : p.f0 = 2
  ·
   have hx0 := cutOk_put hx p2
   subst hx0
   rw [cutH_zero] at hfa ⊢
   rw [fromOf_cons, if_pos p2] at hfa
   rw [if_pos p2, if_pos p2, ap_put p2, ap_put p2, ap_keep rfl]
   have hl : (((p.f2.size : Nat) : Int)).toNat = (g p.f2).length := by rw [hg.len]; omega
   show (g p.f2 ++ ap g a xs).take ((p.f2.size : Nat) : Int).toNat ++ ap g _ ((g p.f2 ++ ap g a xs).drop ((p.f2.size : Nat) : Int).toNat) = g p.f2 ++ _
   rw [hl, List.take_left, List.drop_left]
   have := over_meet hg k a [] 0 y xs ha' hb ⟨Int.le_refl 0, .inl rfl⟩ hy (by rw [cutH_zero]; omega) hfb
   rw [cutH_zero] at this
   rw [this]
  ·
   rw [if_neg p2, if_neg p2, ap, ap]
 | k + 1, p :: a, q :: b, x, y, xs, ha, hb, hx, hy, hfa, hfb => by
  have ha' : ∀ o ∈ a, opOk o = true := fun o ho => ha o (List.mem_cons_of_mem _ ho)
  have hb' : ∀ o ∈ b, opOk o = true := fun o ho => hb o (List.mem_cons_of_mem _ ho)
  rw [overOps, overOps]
  by_cases p2 : p.f0 = 2
  ·
   have hx0 := cutOk_put hx p2
   subst hx0
   rw [cutH_zero] at hfa ⊢
   rw [fromOf_cons, if_pos p2] at hfa
   rw [if_neg (show ¬ (q.f0 = 2 ∧ (false = true ∨ p.f0 ≠ 2)) from fun h => by rcases h.2 with h | h; exact absurd h (by decide); exact h p2), if_pos p2, if_pos (show p.f0 = 2 ∧ (true = true ∨ q.f0 ≠ 2) from ⟨p2, .inl rfl⟩), ap_put p2, ap_put p2, ap_keep rfl]
   have hl : (((p.f2.size : Nat) : Int)).toNat = (g p.f2).length := by rw [hg.len]; omega
   show (g p.f2 ++ ap g a xs).take ((p.f2.size : Nat) : Int).toNat ++ ap g _ ((g p.f2 ++ ap g a xs).drop ((p.f2.size : Nat) : Int).toNat) = g p.f2 ++ _
   rw [hl, List.take_left, List.drop_left]
   have := over_meet hg k a (q :: b) 0 y xs ha' hb ⟨Int.le_refl 0, .inl rfl⟩ hy (by rw [cutH_zero]; omega) hfb
   rw [cutH_zero] at this
   rw [this]
  ·
   rw [if_neg (show ¬ (p.f0 = 2 ∧ (true = true ∨ q.f0 ≠ 2)) from fun h => p2 h.1)]
   by_cases q2 : q.f0 = 2
   ·
    have hy0 := cutOk_put hy q2
    subst hy0
    rw [cutH_zero (q :: b)] at hfb ⊢
    rw [fromOf_cons, if_pos q2] at hfb
    rw [if_pos (show q.f0 = 2 ∧ (false = true ∨ p.f0 ≠ 2) from ⟨q2, .inr p2⟩), if_pos q2, ap_put q2, ap_put q2, ap_keep rfl]
    have hl : (((q.f2.size : Nat) : Int)).toNat = (g q.f2).length := by rw [hg.len]; omega
    show g q.f2 ++ _ = (g q.f2 ++ ap g b xs).take ((q.f2.size : Nat) : Int).toNat ++ ap g _ ((g q.f2 ++ ap g b xs).drop ((q.f2.size : Nat) : Int).toNat)
    rw [hl, List.take_left, List.drop_left]
    have := over_meet hg k (p :: a) b x 0 xs ha hb' hx ⟨Int.le_refl 0, .inl rfl⟩ hfa (by rw [cutH_zero]; omega)
    rw [cutH_zero b] at this
    rw [this]
   ·
    rw [if_neg (show ¬ (q.f0 = 2 ∧ (false = true ∨ p.f0 ≠ 2)) from fun h => q2 h.1), if_neg p2, if_neg q2]
    have hop := ha p List.mem_cons_self
    have hoq := hb q List.mem_cons_self
    have hxl := cutOk_num hx hop p2
    have hyl := cutOk_num hy hoq q2
    obtain ⟨n, hn⟩ : ∃ n, n = if q.f1 - y < p.f1 - x then q.f1 - y else p.f1 - x := ⟨_, rfl⟩
    have hn2 : (if p.f1 - x < q.f1 - y then p.f1 - x else q.f1 - y) = n := by rw [hn]; split <;> split <;> omega
    have hx0 := hx.1
    have hy0 := hy.1
    have hn1 : 1 ≤ n := by rw [hn]; split <;> omega
    have hnx : x + n ≤ p.f1 := by rw [hn]; split <;> omega
    have hny : y + n ≤ q.f1 := by rw [hn]; split <;> omega
    dsimp only
    rw [← hn, hn2]
    have hra := cut_row (g := g) (a := a) (xs := xs) hop p2 hx0 (show 0 ≤ n by omega) hnx
    have hrb := cut_row (g := g) (a := b) (xs := xs) hoq q2 hy0 (show 0 ≤ n by omega) hny
    have hfa2 := cut_from (a := a) (x := x) (n := n) p2
    have hfb2 := cut_from (a := b) (x := y) (n := n) q2
    have hfan : 0 ≤ fromOf (cutH (if x + n = p.f1 then a else p :: a) (if x + n = p.f1 then 0 else x + n)) := by
     by_cases h : x + n = p.f1
     ·
      rw [if_pos h, if_pos h, cutH_zero]
      exact fromOf_nonneg (fun o ho => kindOk_posN (opOk_kindOk (ha' o ho)))
     ·
      rw [if_neg h, if_neg h, cutH, fromOf_cons, if_neg p2]
      have := fromOf_nonneg (d := a) (fun o ho => kindOk_posN (opOk_kindOk (ha' o ho)))
      show 0 ≤ p.f1 - (x + n) + fromOf a
      omega
    have hln : (xs.take n.toNat).length = n.toNat := by rw [List.length_take]; omega
    have hih := over_meet hg k _ _ _ _ (xs.drop n.toNat) (ok_next (P := x + n = p.f1) ha) (ok_next (P := y + n = q.f1) hb) (cutOk_next (a := a) hx0 (show 0 ≤ n by omega) p2 hnx) (cutOk_next (a := b) hy0 (show 0 ≤ n by omega) q2 hny) (by rw [List.length_drop]; omega) (by rw [List.length_drop]; omega)
    rw [hra, hrb]
    have hp13 : p.f0 = 1 ∨ p.f0 = 3 := by rcases opOk_cases hop with ⟨k1, k2, k3⟩ | ⟨k1, k2, k3⟩ <;> omega
    have hq13 : q.f0 = 1 ∨ q.f0 = 3 := by rcases opOk_cases hoq with ⟨k1, k2, k3⟩ | ⟨k1, k2, k3⟩ <;> omega
    rcases hp13 with p1 | p3
    ·
     rcases hq13 with q1 | q3
     ·
      rw [if_pos p1, if_pos q1, if_pos p1, if_pos q1, List.cons_append, List.cons_append, List.nil_append, List.nil_append, ap_keep_mk q1, ap_keep_mk p1]
      rw [List.take_left' hln, List.drop_left' hln, List.take_left' hln, List.drop_left' hln, hih]
     ·
      have hq1 : ¬ q.f0 = 1 := by omega
      rw [if_pos p1, if_neg hq1, if_pos p1, if_neg hq1, List.cons_append, List.nil_append, List.nil_append, List.nil_append, ap_drop_mk q3]
      rw [List.drop_left' hln, hih]
    ·
     rcases hq13 with q1 | q3
     ·
      have hp1 : ¬ p.f0 = 1 := by omega
      rw [if_neg hp1, if_pos q1, if_neg hp1, if_pos q1, List.nil_append, List.nil_append, List.cons_append, List.nil_append, ap_drop_mk p3]
      rw [List.drop_left' hln, hih]
     ·
      have hp1 : ¬ p.f0 = 1 := by omega
      have hq1 : ¬ q.f0 = 1 := by omega
      rw [if_neg hp1, if_neg hq1, if_neg hp1, if_neg hq1, List.nil_append, List.nil_append, List.nil_append, List.nil_append, hih]
theorem over_from (first : Bool) : ∀ (k : Nat) (a b : List S70) (x y : Int), (∀ o ∈ a, opOk o = true) → (∀ o ∈ b, opOk o = true) → cutOk a x → cutOk b y → fromOf (cutH a x) = fromOf (cutH b y) → a.length + b.length < k →
  fromOf (overOps first k a x b y) = toOf (cutH a x) ∧ (∀ o ∈ overOps first k a x b y, kindOk o = true)
 | 0, a, b, x, y, _, _, _, _, _, hk => by omega
 | k + 1, [], [], x, y, _, _, _, _, _, _ => by
  rw [overOps]
  exact ⟨rfl, by simp⟩
 | k + 1, [], q :: b, x, y, ha, hb, hx, hy, hf, hk => by
  have hb' : ∀ o ∈ b, opOk o = true := fun o ho => hb o (List.mem_cons_of_mem _ ho)
  have hfb := fromOf_nonneg (d := b) (fun o ho => kindOk_posN (opOk_kindOk (hb' o ho)))
  have hoq := hb q List.mem_cons_self
  rw [overOps]
  by_cases q2 : q.f0 = 2
  ·
   have hy0 := cutOk_put hy q2
   subst hy0
   rw [cutH_zero, fromOf_cons, if_pos q2] at hf
   obtain ⟨i1, i2⟩ := over_from first k [] b x 0 ha hb' hx ⟨Int.le_refl 0, .inl rfl⟩ (by rw [cutH_zero]; omega) (by simp only [List.length_cons, List.length_nil] at hk ⊢; omega)
   rw [if_pos q2, fromOf_cons, if_pos q2, i1, Int.zero_add]
   refine ⟨rfl, ?_⟩
   intro o ho
   rcases List.mem_cons.1 ho with rfl | ho
   ·
    exact opOk_kindOk hoq
   ·
    exact i2 o ho
  ·
   exfalso
   have hyl := cutOk_num hy hoq q2
   rw [cutH, cutH, fromOf_cons, if_neg q2] at hf
   have hf2 : (0 : Int) = q.f1 - y + fromOf b := hf
   omega
 | k + 1, p :: a, [], x, y, ha, hb, hx, hy, hf, hk => by
  have ha' : ∀ o ∈ a, opOk o = true := fun o ho => ha o (List.mem_cons_of_mem _ ho)
  have hfa := fromOf_nonneg (d := a) (fun o ho => kindOk_posN (opOk_kindOk (ha' o ho)))
  have hop := ha p List.mem_cons_self
  rw [overOps]
  by_cases p2 : p.f0 = 2
  ·
   have hx0 := cutOk_put hx p2
   subst hx0
   rw [cutH_zero, fromOf_cons, if_pos p2] at hf
   obtain ⟨i1, i2⟩ := over_from first k a [] 0 y ha' hb ⟨Int.le_refl 0, .inl rfl⟩ hy (by rw [cutH_zero]; omega) (by simp only [List.length_cons, List.length_nil] at hk ⊢; omega)
   rw [if_pos p2, fromOf_cons, if_neg (show ¬ (1 : Int) = 2 by decide), i1, cutH_zero, cutH_zero, toOf_cons, if_pos p2]
   refine ⟨rfl, ?_⟩
   intro o ho
   rcases List.mem_cons.1 ho with rfl | ho
   ·
    exact okone 1 _ _ (.inl ⟨.inl rfl, by omega⟩) _ (List.mem_singleton.2 rfl)
   ·
    exact i2 o ho
  ·
   exfalso
   have hxl := cutOk_num hx hop p2
   rw [cutH, cutH, fromOf_cons, if_neg p2] at hf
   have hf2 : p.f1 - x + fromOf a = (0 : Int) := hf
   omega
 | k + 1, p :: a, q :: b, x, y, ha, hb, hx, hy, hf, hk => by
  have ha' : ∀ o ∈ a, opOk o = true := fun o ho => ha o (List.mem_cons_of_mem _ ho)
  have hb' : ∀ o ∈ b, opOk o = true := fun o ho => hb o (List.mem_cons_of_mem _ ho)
  have hop := ha p List.mem_cons_self
  have hoq := hb q List.mem_cons_self
  simp only [List.length_cons] at hk
  rw [overOps]
  by_cases c : q.f0 = 2 ∧ (first = true ∨ p.f0 ≠ 2)
  ·
   have hy0 := cutOk_put hy c.1
   subst hy0
   rw [cutH_zero (q :: b), fromOf_cons (d := b), if_pos c.1] at hf
   obtain ⟨i1, i2⟩ := over_from first k (p :: a) b x 0 ha hb' hx ⟨Int.le_refl 0, .inl rfl⟩ (by rw [cutH_zero b]; omega) (by simp only [List.length_cons]; omega)
   rw [if_pos c, fromOf_cons, if_pos c.1, i1, Int.zero_add]
   refine ⟨rfl, ?_⟩
   intro o ho
   rcases List.mem_cons.1 ho with rfl | ho
   ·
    exact opOk_kindOk hoq
   ·
    exact i2 o ho
  ·
   rw [if_neg c]
   by_cases p2 : p.f0 = 2
   ·
    have hx0 := cutOk_put hx p2
    subst hx0
    rw [cutH_zero, fromOf_cons, if_pos p2] at hf
    obtain ⟨i1, i2⟩ := over_from first k a (q :: b) 0 y ha' hb ⟨Int.le_refl 0, .inl rfl⟩ hy (by rw [cutH_zero]; omega) (by simp only [List.length_cons]; omega)
    rw [if_pos p2, fromOf_cons, if_neg (show ¬ (1 : Int) = 2 by decide), i1, cutH_zero, cutH_zero, toOf_cons, if_pos p2]
    refine ⟨rfl, ?_⟩
    intro o ho
    rcases List.mem_cons.1 ho with rfl | ho
    ·
     exact okone 1 _ _ (.inl ⟨.inl rfl, by omega⟩) _ (List.mem_singleton.2 rfl)
    ·
     exact i2 o ho
   ·
    rw [if_neg p2]
    have q2 : q.f0 ≠ 2 := fun h => c ⟨h, .inr p2⟩
    have hxl := cutOk_num hx hop p2
    have hyl := cutOk_num hy hoq q2
    obtain ⟨n, hn⟩ : ∃ n, n = if q.f1 - y < p.f1 - x then q.f1 - y else p.f1 - x := ⟨_, rfl⟩
    have hx0 := hx.1
    have hy0 := hy.1
    have hn1 : 1 ≤ n := by rw [hn]; split <;> omega
    have hnx : x + n ≤ p.f1 := by rw [hn]; split <;> omega
    have hny : y + n ≤ q.f1 := by rw [hn]; split <;> omega
    have hone : x + n = p.f1 ∨ y + n = q.f1 := by rw [hn]; split <;> omega
    dsimp only
    rw [← hn]
    have hfa2 := cut_from (a := a) (x := x) (n := n) p2
    have hfb2 := cut_from (a := b) (x := y) (n := n) q2
    have hto2 := cut_to (a := a) (x := x) (n := n) p2
    obtain ⟨i1, i2⟩ := over_from first k _ _ _ _ (ok_next (P := x + n = p.f1) ha) (ok_next (P := y + n = q.f1) hb) (cutOk_next (a := a) hx0 (show 0 ≤ n by omega) p2 hnx) (cutOk_next (a := b) hy0 (show 0 ≤ n by omega) q2 hny) (by omega) (by
     rcases hone with h | h
     ·
      rw [if_pos h]
      split
      ·
       omega
      ·
       rw [List.length_cons]; omega
     ·
      rw [if_pos h]
      split
      ·
       omega
      ·
       rw [List.length_cons]; omega)
    have hp13 : p.f0 = 1 ∨ p.f0 = 3 := by rcases opOk_cases hop with ⟨k1, k2, k3⟩ | ⟨k1, k2, k3⟩ <;> omega
    have hq13 : q.f0 = 1 ∨ q.f0 = 3 := by rcases opOk_cases hoq with ⟨k1, k2, k3⟩ | ⟨k1, k2, k3⟩ <;> omega
    rw [hto2]
    rcases hp13 with p1 | p3
    ·
     rw [if_pos p1, if_pos p1, List.cons_append, List.nil_append, fromOf_cons, if_neg q2, i1]
     refine ⟨rfl, ?_⟩
     intro o ho
     rcases List.mem_cons.1 ho with rfl | ho
     ·
      exact okone q.f0 n _ (.inl ⟨hq13, by omega⟩) _ (List.mem_singleton.2 rfl)
     ·
      exact i2 o ho
    ·
     have hp1 : ¬ p.f0 = 1 := by omega
     rw [if_neg hp1, if_neg hp1, if_pos p3, List.nil_append, i1, Int.zero_add]
     exact ⟨rfl, i2⟩
end Go.Proofs.Ytidihnnkcmeaeaa.A
