/- A place through one delta and then another lies between its two places through both composed. Plain lists. No condition but canonical operations that fit. -/
import Derived.Test.YtidihnnkcmeaeaaP1
import Derived.Test.YtidihnnkcmeaeaaQ5
namespace Go.Proofs.Ytidihnnkcmeaeaa.A
open Go.RowKit Go.Proofs.YtidihnnkcmeaeaaW.PrintWords Go.Proofs.YtidihnnkcmeaeaaW.PrintLast
set_option linter.unusedVariables false

/-- what changes make of a row that begins at place `lo` -/
def apc {α : Type} (g : ByteArray → List α) : Int → List S91 → List α → List α
  | _, [], xs => xs
  | lo, c :: cs, xs => xs.take (c.f0 - lo).toNat ++ (g c.f2 ++ apc g c.f1 cs (xs.drop (c.f1 - lo).toNat))

theorem apc_shift {α : Type} {g : ByteArray → List α} {n x m : Int} {b : Bool} : ∀ {cs : List S91} {xs : List α}, 0 ≤ m → ris n b (x + m) cs → xs.take m.toNat ++ apc g (x + m) cs (xs.drop m.toNat) = apc g x cs xs
  | [], xs, hm, h => by rw [apc, apc, List.take_append_drop]
  | c :: cs, xs, hm, h => by
    obtain ⟨h1, _, h2, h3, h4⟩ := h
    rw [apc, apc, List.drop_drop, ← List.append_assoc]
    have e1 : xs.take (c.f0 - x).toNat = xs.take m.toNat ++ (xs.drop m.toNat).take (c.f0 - (x + m)).toNat := by
      rw [show (c.f0 - x).toNat = m.toNat + (c.f0 - (x + m)).toNat by omega, List.take_add]
    rw [e1, show m.toNat + (c.f1 - (x + m)).toNat = (c.f1 - x).toNat by omega]

theorem ap_apc {α : Type} {g : ByteArray → List α} (hg : Wr g) : ∀ (d : List S70) (x : Int) (xs : List α), chainOk d = true → (xs.length : Int) = fromOf d → ap g d xs = apc g x (chs x d) xs
  | [], x, xs, _, hx => by
    simp only [fromOf] at hx
    obtain rfl := List.eq_nil_of_length_eq_zero (by omega : xs.length = 0)
    rw [ap, chs, apc]
  | [o], x, xs, h, hx => by
    obtain ⟨ho, _, _⟩ := chainOk_cons h
    rw [fromOf_one] at hx
    rcases opOk_cases ho with ⟨k1, k2, k3⟩ | ⟨k1, k2, k3⟩
    · rw [if_neg (by omega)] at hx
      rcases k1 with k1 | k1
      · rw [ap_keep k1, chs, if_pos k1, apc, ap, List.append_nil, List.take_of_length_le (by omega)]
      · rw [ap_drop k1, chs, if_neg (by omega), if_neg (by omega), apc, apc, ap]
        simp only [Int.sub_self, Int.toNat_zero, List.take_zero, List.nil_append, hg.nil]
        rw [List.drop_of_length_le (by omega)]
    · rw [if_pos k1] at hx
      obtain rfl := List.eq_nil_of_length_eq_zero (by omega : xs.length = 0)
      rw [ap_put k1, chs, if_neg (by omega), if_pos k1, apc, apc, ap]
      simp
  | o :: q :: d, x, xs, h, hx => by
    obtain ⟨ho, hh, hc⟩ := chainOk_cons h
    obtain ⟨hq, hh2, hc2⟩ := chainOk_cons hc
    have hnb : nbOk o q = true := hh
    have hne := nbOk_ne hnb
    have hx' := hx
    rw [fromOf_cons] at hx
    have hfn := fromOf_nonneg (d := q :: d) (fun o ho => kindOk_posN (opOk_kindOk (chainOk_opOk hc o ho)))
    rcases opOk_cases ho with ⟨k1, k2, k3⟩ | ⟨k1, k2, k3⟩
    · rw [if_neg (by omega)] at hx
      have hl : ((xs.drop o.f1.toNat).length : Int) = fromOf (q :: d) := by rw [List.length_drop]; omega
      rcases k1 with k1 | k1
      · obtain ⟨i1, _, _⟩ := chs_ris (q :: d) (x + o.f1) (x + o.f1 + fromOf (q :: d)) hc rfl (fun _ _ _ => trivial)
        rw [ap_keep k1, ap_apc hg (q :: d) (x + o.f1) _ hc hl, chs, if_pos k1]
        exact apc_shift (by omega) i1
      · rw [ap_drop k1, ap_apc hg (q :: d) (x + o.f1) _ hc hl, chs, if_neg (by omega), if_neg (by omega), apc]
        simp only [Int.sub_self, Int.toNat_zero, List.take_zero, List.nil_append, hg.nil]
        rw [show x + o.f1 - x = o.f1 by omega]
    · rw [if_pos k1] at hx
      rw [ap_put k1, chs, if_neg (by omega), if_pos k1]
      by_cases q3 : q.f0 = 3
      · rw [fromOf_cons, if_neg (show ¬ q.f0 = 2 by omega)] at hx hfn
        rw [if_pos q3]
        have hq1 : 1 ≤ q.f1 := by rcases opOk_cases hq with ⟨j1, j2, j3⟩ | ⟨j1, j2, j3⟩ <;> omega
        have hfn2 := fromOf_nonneg (d := d) (fun o ho => kindOk_posN (opOk_kindOk (chainOk_opOk hc2 o ho)))
        rw [ap_drop q3, ap_apc hg d (x + q.f1) _ hc2 (by rw [List.length_drop]; omega), apc]
        simp only [Int.sub_self, Int.toNat_zero, List.take_zero, List.nil_append]
        rw [show x + q.f1 - x = q.f1 by omega]
      · rw [if_neg q3, ap_apc hg (q :: d) x _ hc (by omega), apc]
        simp only [Int.sub_self, Int.toNat_zero, List.take_zero, List.nil_append, List.drop_zero]

theorem apc_mem {α : Type} {g : ByteArray → List α} {P : α → Prop} (hP : ∀ s, ∀ z ∈ g s, ¬ P z) : ∀ (cs : List S91) (lo : Int) (xs : List α) (z : α), z ∈ apc g lo cs xs → P z → z ∈ xs
  | [], lo, xs, z, h, hz => by rwa [apc] at h
  | c :: cs, lo, xs, z, h, hz => by
    rw [apc, List.mem_append, List.mem_append] at h
    rcases h with h | h | h
    · exact List.mem_of_mem_take h
    · exact absurd hz (hP _ z h)
    · exact List.mem_of_mem_drop (apc_mem hP cs _ _ z h hz)

/-- an element of the three parts -/
theorem three_at {α : Type} {A B C : List α} {i : Nat} {z : α} (h : (A ++ (B ++ C))[i]? = some z) :
    (i < A.length ∧ A[i]? = some z) ∨ z ∈ B ∨ (A.length + B.length ≤ i ∧ C[i - A.length - B.length]? = some z) := by
  by_cases h1 : i < A.length
  · rw [List.getElem?_append_left h1] at h; exact .inl ⟨h1, h⟩
  · rw [List.getElem?_append_right (by omega)] at h
    by_cases h2 : i - A.length < B.length
    · rw [List.getElem?_append_left h2] at h; exact .inr (.inl (List.mem_of_getElem? h))
    · rw [List.getElem?_append_right (by omega)] at h; exact .inr (.inr ⟨by omega, h⟩)

theorem apc_left {α : Type} {g : ByteArray → List α} (hg : Wr g) {P : α → Prop} (hP : ∀ s, ∀ z ∈ g s, ¬ P z) {n p : Int} : ∀ (cs : List S91) (b : Bool) (lo w : Int) (xs : List α), ris n b lo cs → (xs.length : Int) = n - lo →
    (∀ (i : Nat) (z : α), xs[i]? = some z → P z → lo + (i : Int) < p) → ∀ (i : Nat) (z : α), (apc g lo cs xs)[i]? = some z → P z → lo + w + (i : Int) < plc 1 p w cs
  | [], b, lo, w, xs, hr, hl, hx, i, z, hi, hz => by rw [apc] at hi; rw [plc]; have := hx i z hi hz; omega
  | c :: cs, b, lo, w, xs, hr, hl, hx, i, z, hi, hz => by
    obtain ⟨h1, _, h2, h3, h4⟩ := hr
    have hlt : (xs.take (c.f0 - lo).toNat).length = (c.f0 - lo).toNat := by rw [List.length_take]; omega
    have hgl := hg.len c.f2
    rw [apc] at hi
    rw [plc]
    rcases three_at hi with ⟨a1, a2⟩ | a | ⟨a1, a2⟩
    · rw [hlt] at a1
      rw [List.getElem?_take_of_lt a1] at a2
      have := hx i z a2 hz
      by_cases p1 : p < c.f0
      · rw [if_pos p1]; omega
      · rw [if_neg p1]
        by_cases p2 : p ≤ c.f1
        · rw [if_pos p2, if_pos rfl]; omega
        · rw [if_neg p2]
          have := plc_low (g := 1) (p := p) (w := w + ((c.f2.size : Int) - (c.f1 - c.f0))) h4 (by omega)
          omega
    · exact absurd hz (hP _ z a)
    · rw [hlt, hgl] at a1 a2
      have hin : ∀ (j : Nat) (y : α), (xs.drop (c.f1 - lo).toNat)[j]? = some y → P y → c.f1 + (j : Int) < p := by
        intro j y hj hy
        rw [List.getElem?_drop] at hj
        have := hx _ y hj hy
        omega
      have hgt : c.f1 < p := by
        obtain ⟨j, hj⟩ := List.mem_iff_getElem?.1 (apc_mem hP cs _ _ z (List.mem_of_getElem? a2) hz)
        have := hin j z hj hz
        omega
      rw [if_neg (by omega), if_neg (by omega)]
      have := apc_left hg hP cs true c.f1 (w + ((c.f2.size : Int) - (c.f1 - c.f0))) (xs.drop (c.f1 - lo).toNat) h4 (by rw [List.length_drop]; omega) hin _ z a2 hz
      omega

theorem apc_right {α : Type} {g : ByteArray → List α} (hg : Wr g) {P : α → Prop} (hP : ∀ s, ∀ z ∈ g s, ¬ P z) {n p : Int} : ∀ (cs : List S91) (b : Bool) (lo w : Int) (xs : List α), ris n b lo cs → (xs.length : Int) = n - lo →
    (∀ (i : Nat) (z : α), xs[i]? = some z → P z → p ≤ lo + (i : Int)) → ∀ (i : Nat) (z : α), (apc g lo cs xs)[i]? = some z → P z → plc 2 p w cs ≤ lo + w + (i : Int)
  | [], b, lo, w, xs, hr, hl, hx, i, z, hi, hz => by rw [apc] at hi; rw [plc]; have := hx i z hi hz; omega
  | c :: cs, b, lo, w, xs, hr, hl, hx, i, z, hi, hz => by
    obtain ⟨h1, _, h2, h3, h4⟩ := hr
    have hlt : (xs.take (c.f0 - lo).toNat).length = (c.f0 - lo).toNat := by rw [List.length_take]; omega
    have hgl := hg.len c.f2
    rw [apc] at hi
    rw [plc]
    rcases three_at hi with ⟨a1, a2⟩ | a | ⟨a1, a2⟩
    · rw [hlt] at a1
      rw [List.getElem?_take_of_lt a1] at a2
      have := hx i z a2 hz
      rw [if_pos (by omega)]; omega
    · exact absurd hz (hP _ z a)
    · rw [hlt, hgl] at a1 a2
      have hin : ∀ (j : Nat) (y : α), (xs.drop (c.f1 - lo).toNat)[j]? = some y → P y → p ≤ c.f1 + (j : Int) := by
        intro j y hj hy
        rw [List.getElem?_drop] at hj
        have := hx _ y hj hy
        omega
      by_cases p1 : p < c.f0
      · rw [if_pos p1]; omega
      · rw [if_neg p1]
        by_cases p2 : p ≤ c.f1
        · rw [if_pos p2, if_neg (by omega)]; omega
        · rw [if_neg p2]
          have := apc_right hg hP cs true c.f1 (w + ((c.f2.size : Int) - (c.f1 - c.f0))) (xs.drop (c.f1 - lo).toNat) h4 (by rw [List.length_drop]; omega) hin _ z a2 hz
          omega

theorem three_last {α : Type} {A B C : List α} {i : Nat} : (A ++ (B ++ C))[A.length + B.length + i]? = C[i]? := by
  rw [List.getElem?_append_right (by omega), List.getElem?_append_right (by omega)]; congr 1; omega

theorem apc_left_at {α : Type} {g : ByteArray → List α} (hg : Wr g) {n p : Int} : ∀ (cs : List S91) (b : Bool) (lo w : Int) (xs : List α), ris n b lo cs → (xs.length : Int) = n - lo → lo ≤ p → p ≤ n → (b = true → lo < p) →
    plc 1 p w cs = lo + w ∧ b = false ∨ ∃ i k : Nat, (apc g lo cs xs)[i]? = xs[k]? ∧ k < xs.length ∧ lo + (k : Int) < p ∧ lo + w + (i : Int) + 1 = plc 1 p w cs
  | [], b, lo, w, xs, hr, hl, h0, hn, hb => by
    rw [plc]
    by_cases e : p = lo
    · exact .inl ⟨by omega, by cases b with | false => rfl | true => exact absurd (hb rfl) (by omega)⟩
    · exact .inr ⟨(p - lo - 1).toNat, (p - lo - 1).toNat, by rw [apc], by omega, by omega, by omega⟩
  | c :: cs, b, lo, w, xs, hr, hl, h0, hn, hb => by
    obtain ⟨h1, h1b, h2, h3, h4⟩ := hr
    have hlt : (xs.take (c.f0 - lo).toNat).length = (c.f0 - lo).toNat := by rw [List.length_take]; omega
    have hgl := hg.len c.f2
    rw [plc, apc]
    have inT : ∀ i : Nat, i < (c.f0 - lo).toNat → (xs.take (c.f0 - lo).toNat ++ (g c.f2 ++ apc g c.f1 cs (xs.drop (c.f1 - lo).toNat)))[i]? = xs[i]? := by
      intro i hi
      rw [List.getElem?_append_left (by rw [hlt]; exact hi), List.getElem?_take_of_lt hi]
    by_cases p1 : p < c.f0
    · rw [if_pos p1]
      by_cases e : p = lo
      · exact .inl ⟨by omega, by cases b with | false => rfl | true => exact absurd (hb rfl) (by omega)⟩
      · exact .inr ⟨(p - lo - 1).toNat, (p - lo - 1).toNat, inT _ (by omega), by omega, by omega, by omega⟩
    · rw [if_neg p1]
      by_cases p2 : p ≤ c.f1
      · rw [if_pos p2, if_pos rfl]
        by_cases e : c.f0 = lo
        · exact .inl ⟨by omega, by cases b with | false => rfl | true => exact absurd (h1b rfl) (by omega)⟩
        · exact .inr ⟨(c.f0 - lo - 1).toNat, (c.f0 - lo - 1).toNat, inT _ (by omega), by omega, by omega, by omega⟩
      · rw [if_neg p2]
        rcases apc_left_at hg cs true c.f1 (w + ((c.f2.size : Int) - (c.f1 - c.f0))) (xs.drop (c.f1 - lo).toNat) h4 (by rw [List.length_drop]; omega) (by omega) hn (fun _ => by omega) with ⟨_, h⟩ | ⟨i, k, e1, e2, e3, e4⟩
        · cases h
        · rw [List.length_drop] at e2
          rw [List.getElem?_drop] at e1
          refine .inr ⟨(xs.take (c.f0 - lo).toNat).length + (g c.f2).length + i, (c.f1 - lo).toNat + k, by rw [three_last, e1], by omega, by omega, ?_⟩
          rw [hlt, hgl]
          omega

theorem apc_right_at {α : Type} {g : ByteArray → List α} (hg : Wr g) {n : Int} : ∀ (cs : List S91) (b : Bool) (lo w p : Int) (xs : List α), ris n b lo cs → (xs.length : Int) = n - lo → lo ≤ p → p ≤ n →
    plc 2 p w cs = n + w + growsBy cs ∨ ∃ i k : Nat, (apc g lo cs xs)[i]? = xs[k]? ∧ k < xs.length ∧ p ≤ lo + (k : Int) ∧ lo + w + (i : Int) = plc 2 p w cs
  | [], b, lo, w, p, xs, hr, hl, h0, hn => by
    rw [plc]
    by_cases e : p = n
    · exact .inl (by simp only [growsBy]; omega)
    · exact .inr ⟨(p - lo).toNat, (p - lo).toNat, by rw [apc], by omega, by omega, by omega⟩
  | c :: cs, b, lo, w, p, xs, hr, hl, h0, hn => by
    obtain ⟨h1, h1b, h2, h3, h4⟩ := hr
    have hlt : (xs.take (c.f0 - lo).toNat).length = (c.f0 - lo).toNat := by rw [List.length_take]; omega
    have hgl := hg.len c.f2
    rw [plc, apc]
    have go : ∀ q : Int, c.f1 ≤ q → q ≤ n → p ≤ q →
        plc 2 q (w + ((c.f2.size : Int) - (c.f1 - c.f0))) cs = n + w + growsBy (c :: cs) ∨ ∃ i k : Nat, (xs.take (c.f0 - lo).toNat ++ (g c.f2 ++ apc g c.f1 cs (xs.drop (c.f1 - lo).toNat)))[i]? = xs[k]? ∧ k < xs.length ∧ p ≤ lo + (k : Int) ∧ lo + w + (i : Int) = plc 2 q (w + ((c.f2.size : Int) - (c.f1 - c.f0))) cs := by
      intro q q1 q2 q3
      rcases apc_right_at hg cs true c.f1 (w + ((c.f2.size : Int) - (c.f1 - c.f0))) q (xs.drop (c.f1 - lo).toNat) h4 (by rw [List.length_drop]; omega) q1 q2 with h | ⟨i, k, e1, e2, e3, e4⟩
      · exact .inl (by rw [h]; simp only [growsBy]; omega)
      · rw [List.length_drop] at e2
        rw [List.getElem?_drop] at e1
        refine .inr ⟨(xs.take (c.f0 - lo).toNat).length + (g c.f2).length + i, (c.f1 - lo).toNat + k, by rw [three_last, e1], by omega, by omega, ?_⟩
        rw [hlt, hgl]
        omega
    by_cases p1 : p < c.f0
    · rw [if_pos p1]
      refine .inr ⟨(p - lo).toNat, (p - lo).toNat, ?_, by omega, by omega, by omega⟩
      rw [List.getElem?_append_left (by rw [hlt]; omega), List.getElem?_take_of_lt (by omega)]
    · rw [if_neg p1]
      by_cases p2 : p ≤ c.f1
      · rw [if_pos p2, if_neg (by omega)]
        have e : plc 2 c.f1 (w + ((c.f2.size : Int) - (c.f1 - c.f0))) cs = c.f0 + w + (c.f2.size : Int) := by
          cases cs with
          | nil => rw [plc]; omega
          | cons c' cs' =>
            obtain ⟨_, h5, _⟩ := h4
            rw [plc, if_pos (h5 rfl)]; omega
        rw [← e]
        exact go c.f1 (by omega) h3 p2
      · rw [if_neg p2]
        exact go p (by omega) hn (by omega)

theorem tk_at {x n k : Nat} (h : k < n) : (tk x n)[k]? = some (.inl (x + k)) := by
  have := tk_head (x + k) (n - k) (by omega)
  rw [← tk_drop k x n, List.head?_drop] at this
  exact this

theorem through_both {a c : List S70} (ha : canB a = true) (hc : canB c = true) (hf : fromOf c = toOf a) {x : Int} (h0 : 0 ≤ x) (h1 : x ≤ fromOf a) :
    plc 1 x 0 (chs 0 (canon (compOps a c))) ≤ plc 1 (plc 1 x 0 (chs 0 a)) 0 (chs 0 c) ∧ plc 2 (plc 2 x 0 (chs 0 a)) 0 (chs 0 c) ≤ plc 2 x 0 (chs 0 (canon (compOps a c))) := by
  obtain ⟨c1, c2, c3⟩ := canB_lens ha
  obtain ⟨d1, d2, d3⟩ := canB_lens hc
  obtain ⟨e1, e2, e3, e4⟩ := comp_eqv ha hc hf
  obtain ⟨n, hn⟩ : ∃ n : Nat, fromOf a = (n : Int) := ⟨(fromOf a).toNat, by omega⟩
  obtain ⟨ra, _, ga⟩ := chs_ris a 0 (fromOf a) c1 (by omega) (fun _ _ _ => trivial)
  obtain ⟨rc, _, gc⟩ := chs_ris c 0 (fromOf c) d1 (by omega) (fun _ _ _ => trivial)
  obtain ⟨rb, _, gb⟩ := chs_ris (canon (compOps a c)) 0 (fromOf a) e1 (by omega) (fun _ _ _ => trivial)
  have l0 : ((tk 0 n).length : Int) = fromOf a := by rw [tk_len, hn]
  have l1 := ap_len wr_gs a (tk 0 n) (okc c1) (by omega)
  have row : apc gs 0 (chs 0 (canon (compOps a c))) (tk 0 n) = apc gs 0 (chs 0 c) (apc gs 0 (chs 0 a) (tk 0 n)) := by
    rw [← ap_apc wr_gs _ 0 _ e1 (by omega), ← ap_apc wr_gs a 0 _ c1 l0, ← ap_apc wr_gs c 0 _ d1 (by omega)]
    exact e4 wr_gs _ (by omega)
  have la : ((apc gs 0 (chs 0 a) (tk 0 n)).length : Int) = fromOf c := by rw [← ap_apc wr_gs a 0 _ c1 l0]; omega
  have hh := plc_high (g := 2) (p := x) (w := 0) ra h1
  have hlw := plc_low (g := 2) (p := x) (w := 0) ra h0
  have hlw1 := plc_low (g := 1) (p := x) (w := 0) ra h0
  constructor
  · have hP : ∀ s, ∀ z ∈ gs s, ¬ (∃ k : Nat, z = .inl k ∧ (k : Int) < x) := by
      intro s z hz ⟨k, hk, _⟩
      obtain ⟨y, hy⟩ := gs_inr s z hz
      rw [hk] at hy; cases hy
    rcases apc_left_at wr_gs (chs 0 (canon (compOps a c))) false 0 0 (tk 0 n) rb (by omega) h0 h1 (fun h => by cases h) with ⟨h, _⟩ | ⟨i, k, q1, q2, q3, q4⟩
    · rw [h]
      have := plc_low (g := 1) (p := plc 1 x 0 (chs 0 a)) (w := 0) rc (by omega)
      omega
    · rw [tk_len] at q2
      rw [tk_at q2, row] at q1
      have m1 := apc_left wr_gs hP (p := x) (chs 0 a) false 0 0 (tk 0 n) ra (by omega) (by
        intro i z hi ⟨k, hk, hkx⟩
        have hin : i < n := by
          have := (List.getElem?_eq_some_iff.1 hi).1
          rwa [tk_len] at this
        rw [tk_at hin] at hi
        injection hi with hi
        rw [← hi] at hk
        injection hk with hk
        omega)
      have m2 := apc_left wr_gs hP (p := plc 1 x 0 (chs 0 a)) (chs 0 c) false 0 0 (apc gs 0 (chs 0 a) (tk 0 n)) rc (by omega) (by
        intro i z hi hz
        have := m1 i z hi hz
        omega) i _ q1 ⟨0 + k, rfl, by omega⟩
      omega
  · have hP : ∀ s, ∀ z ∈ gs s, ¬ (∃ k : Nat, z = .inl k ∧ x ≤ (k : Int)) := by
      intro s z hz ⟨k, hk, _⟩
      obtain ⟨y, hy⟩ := gs_inr s z hz
      rw [hk] at hy; cases hy
    rcases apc_right_at wr_gs (chs 0 (canon (compOps a c))) false 0 0 x (tk 0 n) rb (by omega) h0 h1 with h | ⟨i, k, q1, q2, q3, q4⟩
    · rw [h, gb, e3, e2]
      have := plc_high (g := 2) (p := plc 2 x 0 (chs 0 a)) (w := 0) rc (by omega)
      omega
    · rw [tk_len] at q2
      rw [tk_at q2, row] at q1
      have m1 := apc_right wr_gs hP (p := x) (chs 0 a) false 0 0 (tk 0 n) ra (by omega) (by
        intro i z hi ⟨k, hk, hkx⟩
        have hin : i < n := by
          have := (List.getElem?_eq_some_iff.1 hi).1
          rwa [tk_len] at this
        rw [tk_at hin] at hi
        injection hi with hi
        rw [← hi] at hk
        injection hk with hk
        omega)
      have m2 := apc_right wr_gs hP (p := plc 2 x 0 (chs 0 a)) (chs 0 c) false 0 0 (apc gs 0 (chs 0 a) (tk 0 n)) rc (by omega) (by
        intro i z hi hz
        have := m1 i z hi hz
        omega) i _ q1 ⟨0 + k, rfl, by omega⟩
      omega
end Go.Proofs.Ytidihnnkcmeaeaa.A
