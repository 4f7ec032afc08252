/- Two canonical deltas that do the same to a row of unlike places are one. Plain lists. No condition but that they are canonical. -/
import Derived.Test.YtidihnnkcmeaeaaQ1
namespace Go.Proofs.Ytidihnnkcmeaeaa.A
open Go.RowKit Go.Proofs.YtidihnnkcmeaeaaW.PrintWords Go.Proofs.YtidihnnkcmeaeaaW.PrintLast Go.Proofs.YtidihnnkcmeaeaaW.PrintMore
set_option linter.unusedVariables false
set_option linter.unusedSimpArgs false
theorem bytesOf_app (s t : ByteArray) : bytesOf (s ++ t) = bytesOf s ++ bytesOf t := by
 unfold bytesOf
 rw [← List.map_append]
 congr 1
def tk : Nat → Nat → List (Nat ⊕ Int)
 | _, 0 => []
 | x, n + 1 => .inl x :: tk (x + 1) n
theorem tk_len : ∀ (n x : Nat), (tk x n).length = n
 | 0, x => rfl
 | n + 1, x => by simp [tk, tk_len n]
theorem tk_drop : ∀ (k x n : Nat), (tk x n).drop k = tk (x + k) (n - k)
 | 0, x, n => by simp
 | k + 1, x, 0 => by simp [tk]
 | k + 1, x, n + 1 => by
  rw [tk, List.drop_succ_cons, tk_drop k (x + 1) n]
  congr 1 <;> omega
theorem tk_take : ∀ (k x n : Nat), k ≤ n → (tk x n).take k = tk x k
 | 0, x, n, _ => by simp [tk]
 | k + 1, x, 0, h => by omega
 | k + 1, x, n + 1, h => by
  rw [tk, List.take_succ_cons, tk_take k (x + 1) n (by omega)]
  rfl
theorem tk_split (k j x : Nat) : tk x (k + j) = tk x k ++ tk (x + k) j := by
 have h1 := List.take_append_drop k (tk x (k + j))
 rw [tk_take k x _ (by omega), tk_drop] at h1
 rw [← h1]
 congr 2
 omega
theorem tk_head (x n : Nat) (h : 1 ≤ n) : (tk x n).head? = some (.inl x) := by
 cases n with
 | zero => omega
 | succ n => rfl
def gs (s : ByteArray) : List (Nat ⊕ Int) := (bytesOf s).map .inr
theorem wr_gs : Wr gs := ⟨fun s t => by unfold gs; rw [bytesOf_app, List.map_append], fun s => by unfold gs; rw [List.length_map, bytesOf_length]⟩
theorem map_inr_inj : ∀ {l l' : List Int}, l.map (Sum.inr : Int → Nat ⊕ Int) = l'.map Sum.inr → l = l'
 | [], [], _ => rfl
 | [], _ :: _, h => by simp at h
 | _ :: _, [], h => by simp at h
 | a :: l, b :: l', h => by
  rw [List.map_cons, List.map_cons] at h
  injection h with h1 h2
  rw [Sum.inr.inj h1, map_inr_inj h2]
theorem gs_inj {s t : ByteArray} (h : gs s = gs t) : s = t := by
 have h1 : bytesOf s = bytesOf t := map_inr_inj h
 rw [← str_bytes s, ← str_bytes t, h1]
theorem gs_inr (s : ByteArray) : ∀ z ∈ gs s, ∃ y, z = .inr y := by
 intro z hz
 obtain ⟨y, _, rfl⟩ := List.mem_map.1 hz
 exact ⟨y, rfl⟩
theorem gs_head {s : ByteArray} (h : 1 ≤ s.size) : ∃ y t, gs s = .inr y :: t := by
 have hl := wr_gs.len s
 cases hs : gs s with
 | nil => rw [hs] at hl; simp at hl; omega
 | cons z t =>
  obtain ⟨y, rfl⟩ := gs_inr s z (by rw [hs]; exact List.mem_cons_self)
  exact ⟨y, t, rfl⟩
theorem begins {o : S70} {d : List S70} {x n : Nat} (hc : chainOk (o :: d) = true) (hn : fromOf (o :: d) = (n : Int)) :
  (o.f0 = 1 → 1 ≤ o.f1.toNat ∧ o.f1.toNat ≤ n ∧ ap gs (o :: d) (tk x n) = tk x o.f1.toNat ++ ap gs d (tk (x + o.f1.toNat) (n - o.f1.toNat)) ∧ fromOf d = ((n - o.f1.toNat : Nat) : Int)) ∧
  (o.f0 = 3 → 1 ≤ o.f1.toNat ∧ o.f1.toNat ≤ n ∧ ap gs (o :: d) (tk x n) = ap gs d (tk (x + o.f1.toNat) (n - o.f1.toNat)) ∧ fromOf d = ((n - o.f1.toNat : Nat) : Int)) ∧
  (o.f0 = 2 → ap gs (o :: d) (tk x n) = gs o.f2 ++ ap gs d (tk x n) ∧ fromOf d = (n : Int) ∧ 1 ≤ o.f2.size) := by
 obtain ⟨ho, hh, hc2⟩ := chainOk_cons hc
 have hf := fromOf_nonneg (d := d) (fun y hy => kindOk_posN (opOk_kindOk (chainOk_opOk hc2 y hy)))
 rw [fromOf_cons] at hn
 rcases opOk_cases ho with ⟨k1, k2, k3⟩ | ⟨k1, k2, k3⟩
 ·
  rw [if_neg (by omega)] at hn
  refine ⟨fun h => ⟨by omega, by omega, ?_, by omega⟩, fun h => ⟨by omega, by omega, ?_, by omega⟩, fun h => by omega⟩
  ·
   rw [ap_keep h, tk_take _ _ _ (by omega), tk_drop]
  ·
   rw [ap_drop h, tk_drop]
 ·
  rw [if_pos k1] at hn
  exact ⟨fun h => by omega, fun h => by omega, fun h => ⟨by rw [ap_put k1], by omega, k3⟩⟩
theorem no_keep {d : List S70} {x n : Nat} (hc : chainOk d = true) (hn : fromOf d = (n : Int)) (h : ∀ o t, d = o :: t → o.f0 ≠ 1) : (ap gs d (tk x n)).head? ≠ some (.inl x) := by
 cases d with
 | nil => simp [ap]
 | cons o d =>
  obtain ⟨b1, b2, b3⟩ := begins (x := x) hc hn
  obtain ⟨ho, hh, hc2⟩ := chainOk_cons hc
  have h1 := h o d rfl
  rcases opOk_cases ho with ⟨k1, k2, k3⟩ | ⟨k1, k2, k3⟩
  ·
   have k3' : o.f0 = 3 := by omega
   obtain ⟨c1, c2, c3, c4⟩ := b2 k3'
   rw [c3]
   cases d with
   | nil => simp [ap]
   | cons q t =>
    have hn2 := nbOk_ne (show nbOk o q = true from hh)
    obtain ⟨hq, _, _⟩ := chainOk_cons hc2
    have hq1 : q.f0 = 1 := by rcases opOk_cases hq with ⟨j1, j2, j3⟩ | ⟨j1, j2, j3⟩ <;> omega
    obtain ⟨e1, e2, e3, e4⟩ := (begins (x := x + o.f1.toNat) hc2 c4).1 hq1
    rw [e3, List.head?_append, tk_head _ _ e1]
    simp
    omega
  ·
   obtain ⟨c1, c2, c3⟩ := b3 k1
   obtain ⟨y, t, hy⟩ := gs_head c3
   rw [c1, hy]
   simp
theorem no_put {d : List S70} {x n : Nat} (hc : chainOk d = true) (hn : fromOf d = (n : Int)) (h : ∀ o t, d = o :: t → o.f0 ≠ 2) (z : Int) : (ap gs d (tk x n)).head? ≠ some (.inr z) := by
 cases d with
 | nil => simp [ap]
 | cons o d =>
  obtain ⟨b1, b2, b3⟩ := begins (x := x) hc hn
  obtain ⟨ho, hh, hc2⟩ := chainOk_cons hc
  have h1 := h o d rfl
  rcases opOk_cases ho with ⟨k1, k2, k3⟩ | ⟨k1, k2, k3⟩
  ·
   rcases k1 with k1 | k1
   ·
    obtain ⟨c1, c2, c3, c4⟩ := b1 k1
    rw [c3, List.head?_append, tk_head _ _ c1]
    simp
   ·
    obtain ⟨c1, c2, c3, c4⟩ := b2 k1
    rw [c3]
    cases d with
    | nil => simp [ap]
    | cons q t =>
     have hn2 := nbOk_ne (show nbOk o q = true from hh)
     obtain ⟨hq, _, _⟩ := chainOk_cons hc2
     have hq1 : q.f0 = 1 := by rcases opOk_cases hq with ⟨j1, j2, j3⟩ | ⟨j1, j2, j3⟩ <;> omega
     obtain ⟨e1, e2, e3, e4⟩ := (begins (x := x + o.f1.toNat) hc2 c4).1 hq1
     rw [e3, List.head?_append, tk_head _ _ e1]
     simp
  ·
   omega
theorem inr_split : ∀ {l1 l2 A B : List (Nat ⊕ Int)}, (∀ z ∈ l1, ∃ y, z = .inr y) → (∀ z ∈ l2, ∃ y, z = .inr y) → (∀ z, A.head? ≠ some (.inr z)) → (∀ z, B.head? ≠ some (.inr z)) → l1 ++ A = l2 ++ B → l1 = l2 ∧ A = B
 | [], [], A, B, _, _, _, _, h => ⟨rfl, h⟩
 | [], z :: l2, A, B, _, h2, hA, _, h => by
  obtain ⟨y, rfl⟩ := h2 z List.mem_cons_self
  have h' : A = .inr y :: (l2 ++ B) := h
  exact absurd (by rw [h']; rfl) (hA y)
 | z :: l1, [], A, B, h1, _, _, hB, h => by
  obtain ⟨y, rfl⟩ := h1 z List.mem_cons_self
  have h' : .inr y :: (l1 ++ A) = B := h
  exact absurd (by rw [← h']; rfl) (hB y)
 | z :: l1, w :: l2, A, B, h1, h2, hA, hB, h => by
  have h' : z :: (l1 ++ A) = w :: (l2 ++ B) := h
  injection h' with e1 e2
  obtain ⟨i1, i2⟩ := inr_split (fun v hv => h1 v (List.mem_cons_of_mem _ hv)) (fun v hv => h2 v (List.mem_cons_of_mem _ hv)) hA hB e2
  exact ⟨by rw [e1, i1], i2⟩
theorem op_eq {p q : S70} (hp : opOk p = true) (hq : opOk q = true) (h0 : p.f0 = q.f0) (h1 : p.f0 ≠ 2 → p.f1 = q.f1) (h2 : p.f0 = 2 → p.f2 = q.f2) : p = q := by
 rcases opOk_cases hp with ⟨k1, k2, k3⟩ | ⟨k1, k2, k3⟩
 ·
  rcases opOk_cases hq with ⟨j1, j2, j3⟩ | ⟨j1, j2, j3⟩
  ·
   cases p; cases q; simp only at *; rw [h0, h1 (by omega), k3, j3]
  ·
   omega
 ·
  rcases opOk_cases hq with ⟨j1, j2, j3⟩ | ⟨j1, j2, j3⟩
  ·
   omega
  ·
   have := h2 k1
   cases p; cases q; simp only at *; rw [h0, k2, j2, this]
theorem keep_less {d : List S70} {x m j k : Nat} {B : List (Nat ⊕ Int)} (hj : 1 ≤ j) (hc : chainOk d = true) (hn : fromOf d = (k : Int)) (h : ∀ o t, d = o :: t → o.f0 ≠ 1) : tk x m ++ ap gs d (tk (x + m) k) ≠ tk x (m + j) ++ B := by
 intro e
 rw [tk_split, List.append_assoc, List.append_right_inj] at e
 apply no_keep (x := x + m) hc hn h
 rw [e, List.head?_append, tk_head _ _ hj]
 rfl
theorem uniq : ∀ (a b : List S70) (x n : Nat), chainOk a = true → chainOk b = true → fromOf a = (n : Int) → fromOf b = (n : Int) → ap gs a (tk x n) = ap gs b (tk x n) → a = b
 | [], [], x, n, _, _, _, _, _ => rfl
 | [], q :: b, x, n, ha, hb, hna, hnb, h => by
  exfalso
  have hn0 : (n : Int) = 0 := by rw [← hna]; rfl
  obtain ⟨c1, c2, c3⟩ := begins (x := x) hb hnb
  obtain ⟨hq, _, _⟩ := chainOk_cons hb
  rcases opOk_cases hq with ⟨k1, k2, k3⟩ | ⟨k1, k2, k3⟩
  ·
   rcases k1 with k1 | k1
   ·
    have := c1 k1; omega
   ·
    have := c2 k1; omega
  ·
   obtain ⟨d1, d2, d3⟩ := c3 k1
   obtain ⟨y, t, hy⟩ := gs_head d3
   rw [d1, hy, ap] at h
   simp at h
 | p :: a, [], x, n, ha, hb, hna, hnb, h => by
  exfalso
  have hn0 : (n : Int) = 0 := by rw [← hnb]; rfl
  obtain ⟨c1, c2, c3⟩ := begins (x := x) ha hna
  obtain ⟨hq, _, _⟩ := chainOk_cons ha
  rcases opOk_cases hq with ⟨k1, k2, k3⟩ | ⟨k1, k2, k3⟩
  ·
   rcases k1 with k1 | k1
   ·
    have := c1 k1; omega
   ·
    have := c2 k1; omega
  ·
   obtain ⟨d1, d2, d3⟩ := c3 k1
   obtain ⟨y, t, hy⟩ := gs_head d3
   rw [d1, hy, ap] at h
   simp at h
 | p :: a, q :: b, x, n, ha, hb, hna, hnb, h => by
  obtain ⟨pk, pd, pp⟩ := begins (x := x) ha hna
  obtain ⟨qk, qd, qp⟩ := begins (x := x) hb hnb
  obtain ⟨hp, hhp, hca⟩ := chainOk_cons ha
  obtain ⟨hq, hhq, hcb⟩ := chainOk_cons hb
  have hpc := opOk_cases hp
  have hqc := opOk_cases hq
  have tailne : ∀ {o : S70} {d : List S70}, hdOk o d = true → ∀ y t, d = y :: t → y.f0 ≠ o.f0 := by
   intro o d hh y t e
   subst e
   exact fun e => (nbOk_ne (show nbOk o y = true from hh)).1 e.symm
  have headk : ∀ {o : S70} {d : List S70}, (∀ y t, o :: d = y :: t → y.f0 ≠ 1) ↔ o.f0 ≠ 1 := by
   intro o d
   exact ⟨fun h => h o d rfl, fun h y t e => by injection e with e1 e2; rw [← e1]; exact h⟩
  have headp : ∀ {o : S70} {d : List S70}, (∀ y t, o :: d = y :: t → y.f0 ≠ 2) ↔ o.f0 ≠ 2 := by
   intro o d
   exact ⟨fun h => h o d rfl, fun h y t e => by injection e with e1 e2; rw [← e1]; exact h⟩
  by_cases p1 : p.f0 = 1
  ·
   obtain ⟨u1, u2, u3, u4⟩ := pk p1
   by_cases q1 : q.f0 = 1
   ·
    obtain ⟨v1, v2, v3, v4⟩ := qk q1
    rw [u3, v3] at h
    have hta := tailne hhp
    have htb := tailne hhq
    rw [p1] at hta
    rw [q1] at htb
    have hm : p.f1.toNat = q.f1.toNat := by
     rcases Nat.lt_trichotomy p.f1.toNat q.f1.toNat with hlt | he | hlt
     ·
      exfalso
      obtain ⟨j, hj⟩ : ∃ j, q.f1.toNat = p.f1.toNat + j := ⟨q.f1.toNat - p.f1.toNat, by omega⟩
      refine keep_less (m := p.f1.toNat) (j := j) (by omega) hca u4 hta ?_ (B := ap gs b (tk (x + q.f1.toNat) (n - q.f1.toNat))) (x := x)
      rw [← hj]
      exact h
     ·
      exact he
     ·
      exfalso
      obtain ⟨j, hj⟩ : ∃ j, p.f1.toNat = q.f1.toNat + j := ⟨p.f1.toNat - q.f1.toNat, by omega⟩
      refine keep_less (m := q.f1.toNat) (j := j) (by omega) hcb v4 htb ?_ (B := ap gs a (tk (x + p.f1.toNat) (n - p.f1.toNat))) (x := x)
      rw [← hj]
      exact h.symm
    rw [hm, List.append_right_inj] at h
    rw [hm] at u4
    have ih := uniq a b (x + q.f1.toNat) (n - q.f1.toNat) hca hcb u4 v4 h
    rw [ih, op_eq hp hq (by omega) (fun _ => by omega) (fun e => by omega)]
   ·
    exfalso
    apply no_keep (x := x) hb hnb (headk.2 q1)
    rw [← h, u3, List.head?_append, tk_head _ _ u1]
    rfl
  ·
   by_cases q1 : q.f0 = 1
   ·
    exfalso
    obtain ⟨v1, v2, v3, v4⟩ := qk q1
    apply no_keep (x := x) ha hna (headk.2 p1)
    rw [h, v3, List.head?_append, tk_head _ _ v1]
    rfl
   ·
    by_cases p2 : p.f0 = 2
    ·
     obtain ⟨u1, u2, u3⟩ := pp p2
     by_cases q2 : q.f0 = 2
     ·
      obtain ⟨v1, v2, v3⟩ := qp q2
      rw [u1, v1] at h
      have hta := tailne hhp
      have htb := tailne hhq
      rw [p2] at hta
      rw [q2] at htb
      obtain ⟨e1, e2⟩ := inr_split (gs_inr p.f2) (gs_inr q.f2) (no_put hca u2 hta) (no_put hcb v2 htb) h
      have ih := uniq a b x n hca hcb u2 v2 e2
      rw [ih, op_eq hp hq (by omega) (fun e => absurd p2 e) (fun _ => gs_inj e1)]
     ·
      exfalso
      obtain ⟨y, t, hy⟩ := gs_head u3
      apply no_put (x := x) hb hnb (headp.2 q2) y
      rw [← h, u1, hy]
      rfl
    ·
     by_cases q2 : q.f0 = 2
     ·
      exfalso
      obtain ⟨v1, v2, v3⟩ := qp q2
      obtain ⟨y, t, hy⟩ := gs_head v3
      apply no_put (x := x) ha hna (headp.2 p2) y
      rw [h, v1, hy]
      rfl
     ·
      have p3 : p.f0 = 3 := by omega
      have q3 : q.f0 = 3 := by omega
      obtain ⟨u1, u2, u3, u4⟩ := pd p3
      obtain ⟨v1, v2, v3, v4⟩ := qd q3
      rw [u3, v3] at h
      have hk : ∀ {o : S70} {d : List S70}, o.f0 = 3 → hdOk o d = true → chainOk d = true → ∀ y t, d = y :: t → y.f0 = 1 := by
       intro o d h3 hh hc y t e
       subst e
       have hn := nbOk_ne (show nbOk o y = true from hh)
       obtain ⟨hy, _, _⟩ := chainOk_cons hc
       rcases opOk_cases hy with ⟨j1, j2, j3⟩ | ⟨j1, j2, j3⟩ <;> omega
      have hm : p.f1.toNat = q.f1.toNat := by
       cases a with
       | nil =>
        cases b with
        | nil =>
         have e1 : ((n - p.f1.toNat : Nat) : Int) = 0 := by rw [← u4]; rfl
         have e2 : ((n - q.f1.toNat : Nat) : Int) = 0 := by rw [← v4]; rfl
         omega
        | cons z t =>
         exfalso
         obtain ⟨w1, w2, w3, w4⟩ := (begins (x := x + q.f1.toNat) hcb v4).1 (hk q3 hhq hcb z t rfl)
         rw [w3, ap] at h
         have hl := congrArg List.length h
         rw [List.length_append, tk_len] at hl
         simp at hl
         omega
       | cons y t =>
        obtain ⟨w1, w2, w3, w4⟩ := (begins (x := x + p.f1.toNat) hca u4).1 (hk p3 hhp hca y t rfl)
        cases b with
        | nil =>
         exfalso
         rw [w3, ap] at h
         have hl := congrArg List.length h
         rw [List.length_append, tk_len] at hl
         simp at hl
         omega
        | cons z t' =>
         obtain ⟨z1, z2, z3, z4⟩ := (begins (x := x + q.f1.toNat) hcb v4).1 (hk q3 hhq hcb z t' rfl)
         have hh := congrArg List.head? h
         rw [w3, z3, List.head?_append, List.head?_append, tk_head _ _ w1, tk_head _ _ z1] at hh
         simp at hh
         omega
      rw [hm] at h u4
      have ih := uniq a b (x + q.f1.toNat) (n - q.f1.toNat) hca hcb u4 v4 h
      rw [ih, op_eq hp hq (by omega) (fun _ => by omega) (fun e => by omega)]
theorem eqv_uniq {a b : List S70} (ha : chainOk a = true) (hb : chainOk b = true) (h : Eqv a b) : a = b := by
 have hf := fromOf_nonneg (d := a) (fun y hy => kindOk_posN (opOk_kindOk (chainOk_opOk ha y hy)))
 obtain ⟨n, hn⟩ : ∃ n : Nat, fromOf a = (n : Int) := ⟨(fromOf a).toNat, by omega⟩
 exact uniq a b 0 n ha hb hn (by rw [← h.from_]; exact hn) (h.sem wr_gs (tk 0 n) (by rw [tk_len]; omega))
end Go.Proofs.Ytidihnnkcmeaeaa.A
