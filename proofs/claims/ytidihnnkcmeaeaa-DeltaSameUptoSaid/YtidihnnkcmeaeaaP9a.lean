/- What changes do to a row; places that are all unlike. Plain lists. No condition but canonical operations. -/
import Derived.Test.YtidihnnkcmeaeaaP1
import Derived.Test.YtidihnnkcmeaeaaQ2
namespace Go.Proofs.Ytidihnnkcmeaeaa.A
open Go.RowKit Go.Proofs.YtidihnnkcmeaeaaW.PrintWords Go.Proofs.YtidihnnkcmeaeaaW.PrintLast
set_option linter.unusedVariables false

/-- what changes make of a row that begins at place `lo` -/
def apc {α : Type} (g : ByteArray → List α) : Int → List S91 → List α → List α
  | _, [], xs => xs
  | lo, c :: cs, xs => xs.take (c.f0 - lo).toNat ++ (g c.f2 ++ apc g c.f1 cs (xs.drop (c.f1 - lo).toNat))

theorem apc_shift {α : Type} {g : ByteArray → List α} {n x m : Int} {b : Bool} : ∀ {cs : List S91} {xs : List α}, 0 ≤ m → ris n b (x + m) cs → xs.take m.toNat ++ apc g (x + m) cs (xs.drop m.toNat) = apc g x cs xs
  | [], xs, hm, h => by rw [apc, apc, List.take_append_drop]
  | c :: cs, xs, hm, h => by
    obtain ⟨h1, _, h2, h3, h4⟩ := h
    rw [apc, apc, List.drop_drop, ← List.append_assoc]
    have e1 : xs.take (c.f0 - x).toNat = xs.take m.toNat ++ (xs.drop m.toNat).take (c.f0 - (x + m)).toNat := by
      rw [show (c.f0 - x).toNat = m.toNat + (c.f0 - (x + m)).toNat by omega, List.take_add]
    rw [e1, show m.toNat + (c.f1 - (x + m)).toNat = (c.f1 - x).toNat by omega]

theorem ap_apc {α : Type} {g : ByteArray → List α} (hg : Wr g) : ∀ (d : List S70) (x : Int) (xs : List α), chainOk d = true → (xs.length : Int) = fromOf d → ap g d xs = apc g x (chs x d) xs
  | [], x, xs, _, hx => by
    simp only [fromOf] at hx
    obtain rfl := List.eq_nil_of_length_eq_zero (by omega : xs.length = 0)
    rw [ap, chs, apc]
  | [o], x, xs, h, hx => by
    obtain ⟨ho, _, _⟩ := chainOk_cons h
    rw [fromOf_one] at hx
    rcases opOk_cases ho with ⟨k1, k2, k3⟩ | ⟨k1, k2, k3⟩
    · rw [if_neg (by omega)] at hx
      rcases k1 with k1 | k1
      · rw [ap_keep k1, chs, if_pos k1, apc, ap, List.append_nil, List.take_of_length_le (by omega)]
      · rw [ap_drop k1, chs, if_neg (by omega), if_neg (by omega), apc, apc, ap]
        simp only [Int.sub_self, Int.toNat_zero, List.take_zero, List.nil_append, hg.nil]
        rw [List.drop_of_length_le (by omega)]
    · rw [if_pos k1] at hx
      obtain rfl := List.eq_nil_of_length_eq_zero (by omega : xs.length = 0)
      rw [ap_put k1, chs, if_neg (by omega), if_pos k1, apc, apc, ap]
      simp
  | o :: q :: d, x, xs, h, hx => by
    obtain ⟨ho, hh, hc⟩ := chainOk_cons h
    obtain ⟨hq, hh2, hc2⟩ := chainOk_cons hc
    have hnb : nbOk o q = true := hh
    have hne := nbOk_ne hnb
    have hx' := hx
    rw [fromOf_cons] at hx
    have hfn := fromOf_nonneg (d := q :: d) (fun o ho => kindOk_posN (opOk_kindOk (chainOk_opOk hc o ho)))
    rcases opOk_cases ho with ⟨k1, k2, k3⟩ | ⟨k1, k2, k3⟩
    · rw [if_neg (by omega)] at hx
      have hl : ((xs.drop o.f1.toNat).length : Int) = fromOf (q :: d) := by rw [List.length_drop]; omega
      rcases k1 with k1 | k1
      · obtain ⟨i1, _, _⟩ := chs_ris (q :: d) (x + o.f1) (x + o.f1 + fromOf (q :: d)) hc rfl (fun _ _ _ => trivial)
        rw [ap_keep k1, ap_apc hg (q :: d) (x + o.f1) _ hc hl, chs, if_pos k1]
        exact apc_shift (by omega) i1
      · rw [ap_drop k1, ap_apc hg (q :: d) (x + o.f1) _ hc hl, chs, if_neg (by omega), if_neg (by omega), apc]
        simp only [Int.sub_self, Int.toNat_zero, List.take_zero, List.nil_append, hg.nil]
        rw [show x + o.f1 - x = o.f1 by omega]
    · rw [if_pos k1] at hx
      rw [ap_put k1, chs, if_neg (by omega), if_pos k1]
      by_cases q3 : q.f0 = 3
      · rw [fromOf_cons, if_neg (show ¬ q.f0 = 2 by omega)] at hx hfn
        rw [if_pos q3]
        have hq1 : 1 ≤ q.f1 := by rcases opOk_cases hq with ⟨j1, j2, j3⟩ | ⟨j1, j2, j3⟩ <;> omega
        have hfn2 := fromOf_nonneg (d := d) (fun o ho => kindOk_posN (opOk_kindOk (chainOk_opOk hc2 o ho)))
        rw [ap_drop q3, ap_apc hg d (x + q.f1) _ hc2 (by rw [List.length_drop]; omega), apc]
        simp only [Int.sub_self, Int.toNat_zero, List.take_zero, List.nil_append]
        rw [show x + q.f1 - x = q.f1 by omega]
      · rw [if_neg q3, ap_apc hg (q :: d) x _ hc (by omega), apc]
        simp only [Int.sub_self, Int.toNat_zero, List.take_zero, List.nil_append, List.drop_zero]

theorem tk_at {x n k : Nat} (h : k < n) : (tk x n)[k]? = some (.inl (x + k)) := by
  have := tk_head (x + k) (n - k) (by omega)
  rw [← tk_drop k x n, List.head?_drop] at this
  exact this
end Go.Proofs.Ytidihnnkcmeaeaa.A
