/- DeltaAssoc in plain words: it answers true. Plain lists. No condition but sizes. -/
import Derived.Test.YtidihnnkcmeaeaaL0
import Derived.Test.YtidihnnkcmeaeaaL1
import Derived.Test.YtidihnnkcmeaeaaA32
import Derived.Test.YtidihnnkcmeaeaaL2a
namespace Go.Proofs.Ytidihnnkcmeaeaa.A
open Go.RowKit Go.Proofs.YtidihnnkcmeaeaaW.PrintWords Go.Proofs.YtidihnnkcmeaeaaW.PrintLast Go.Proofs.YtidihnnkcmeaeaaW.PrintMore
set_option linter.unusedVariables false
set_option linter.unusedSimpArgs false

def keepL (n : Int) : List S70 := if n = 0 then [] else [(⟨1, n, noText⟩ : S70)]
theorem keepL_can {n : Int} (h0 : 0 ≤ n) (h1 : n ≤ 268435456) : canB (keepL n) = true ∧ fromOf (keepL n) = n ∧ toOf (keepL n) = n := by
 unfold keepL
 by_cases h : n = 0
 · subst h; rw [if_pos rfl]; exact ⟨by decide, rfl, rfl⟩
 · rw [if_neg h]
   have hf : fromOf [(⟨1, n, noText⟩ : S70)] = n := by simp [fromOf]
   have ht : toOf [(⟨1, n, noText⟩ : S70)] = n := by simp [toOf]
   refine ⟨?_, hf, ht⟩
   rw [canB, hf, ht, decide_eq_true h1, Bool.and_true, Bool.and_true]
   simp only [chainOk, opOk, hdOk, Bool.and_true, Bool.or_eq_true, Bool.and_eq_true]
   left
   exact ⟨⟨by decide, decide_eq_true (by omega)⟩, by decide⟩
theorem keepL_ap {α : Type} {g : ByteArray → List α} {n : Int} {xs : List α} (h0 : 0 ≤ n) (h : n = (xs.length : Int)) : ap g (keepL n) xs = xs := by
 unfold keepL
 by_cases hn : n = 0
 · rw [if_pos hn]
   have : xs = [] := List.eq_nil_of_length_eq_zero (by omega)
   rw [this]; rfl
 · rw [if_neg hn, ap_keep (by rfl)]
   show xs.take n.toNat ++ ap g [] _ = xs
   rw [ap, List.append_nil, List.take_of_length_le (by omega)]
theorem all_f (n : Int) : galleylaw13_all.f n = some (keepL n) := by
 unfold galleylaw13_all.f keepL
 split <;> rfl
theorem comp_keepL {p : List S70} (hp : canB p = true) : canon (compOps (keepL (fromOf p)) p) = p ∧ canon (compOps p (keepL (toOf p))) = p := by
 have hc := canB_lens hp
 have hf0 := fromOf_nonneg (d := p) (fun o ho => kindOk_posN (okc hc.1 o ho))
 have ht0 := toOf_nonneg (d := p) (fun o ho => kindOk_posN (okc hc.1 o ho))
 obtain ⟨k1, k2, k3⟩ := keepL_can hf0 hc.2.1
 obtain ⟨m1, m2, m3⟩ := keepL_can ht0 hc.2.2
 obtain ⟨p1, p2, p3, p4⟩ := comp_eqv k1 hp k3.symm
 obtain ⟨q1, q2, q3, q4⟩ := comp_eqv hp m1 m2
 constructor
 · refine one_delta p1 hc.1 (by rw [p2, k2]) (fun xs hx => ?_)
   rw [p2, k2] at hx
   rw [p4 wr_gs xs (by omega), keepL_ap hf0 hx]
 · refine one_delta q1 hc.1 q2 (fun xs hx => ?_)
   rw [q2] at hx
   rw [q4 wr_gs xs (by omega), keepL_ap ht0]
   rw [ap_len wr_gs p xs (okc hc.1) (by omega)]
theorem comp_assoc {p q r : List S70} (hp : canB p = true) (hq : canB q = true) (hr : canB r = true) (h1 : fromOf q = toOf p) (h2 : fromOf r = toOf q) : canon (compOps (canon (compOps p q)) r) = canon (compOps p (canon (compOps q r))) := by
 obtain ⟨a1, a2, a3, a4⟩ := comp_eqv hp hq h1
 obtain ⟨b1, b2, b3, b4⟩ := comp_eqv hq hr h2
 have hpq := comp_can hp hq h1
 have hqr := comp_can hq hr h2
 obtain ⟨c1, c2, c3, c4⟩ := comp_eqv hpq hr (by rw [a3, h2])
 obtain ⟨d1, d2, d3, d4⟩ := comp_eqv hp hqr (by rw [b2, h1])
 refine one_delta c1 d1 (by rw [c2, a2, d2]) (fun xs hx => ?_)
 rw [c2, a2] at hx
 have hl := ap_len wr_gs p xs (okc (canB_lens hp).1) (by omega)
 rw [c4 wr_gs xs (by rw [a2]; omega), a4 wr_gs xs (by omega), d4 wr_gs xs (by omega), b4 wr_gs _ (by rw [hl]; omega)]
theorem deltaAssoc_law (xs : List Int) (a b c : List S70) (hs : ∀ d ∈ [a, b, c], ∀ o ∈ d, o.f2.size ≤ 140737488355328) : Ev (fun k => galleylaw13_DeltaAssoc.f k xs a b c) true := by
 unfold galleylaw13_DeltaAssoc.f
 refine Ev.bind (a := true) (Ev.now _) ?_
 refine Ev.congr (fun k => by rw [if_pos rfl]) ?_
 obtain ⟨sh, hsh, hsh2⟩ := short_ev xs [a, b, c] (by simp) hs
 refine Ev.bind hsh ?_
 cases sh with
 | false => exact Ev.congr (fun k => by rw [if_neg (by decide)]) (Ev.now _)
 | true =>
  refine Ev.congr (fun k => by rw [if_pos rfl]) ?_
  obtain ⟨hx, hd⟩ := hsh2 rfl
  obtain ⟨p, ep, ⟨hp, hpf⟩, hpt⟩ := fit_ev (hd a (by simp)) (n := (xs.length : Int)) (by omega) (by omega)
  have hp0 := toOf_nonneg (d := p) (fun o ho => kindOk_posN (okc (canB_lens hp).1 o ho))
  obtain ⟨q, eq, ⟨hq, hqf⟩, hqt⟩ := fit_ev (hd b (by simp)) hp0 (by omega)
  have hq0 := toOf_nonneg (d := q) (fun o ho => kindOk_posN (okc (canB_lens hq).1 o ho))
  obtain ⟨r, er, ⟨hr, hrf⟩, hrt⟩ := fit_ev (hd c (by simp)) hq0 (by omega)
  have hpq := comp_can hp hq hqf
  have hqr := comp_can hq hr hrf
  obtain ⟨a1, a2, a3, a4⟩ := comp_eqv hp hq hqf
  obtain ⟨b1, b2, b3, b4⟩ := comp_eqv hq hr hrf
  have hl := comp_can hpq hr (by rw [a3, hrf])
  have hr2 := comp_can hp hqr (by rw [b2, hqf])
  have len : ∀ {d : List S70}, canB d = true → d.length ≤ 9223372036854775807 := fun h => by have := can_len h; omega
  refine Ev.bind ep ?_
  refine Ev.bind (own_ev hp) ?_
  refine Ev.bind (lens_all (len hp) hp) ?_
  refine Ev.bind eq ?_
  refine Ev.bind (own_ev hq) ?_
  refine Ev.bind (lens_all (len hq) hq) ?_
  refine Ev.bind er ?_
  refine Ev.bind (own_ev hp) ?_
  refine Ev.bind (own_ev hq) ?_
  refine Ev.bind (a := (canon (compOps p q), 0)) (by rw [compose_fit hp hq hqf]; exact Ev.now _) ?_
  refine Ev.bind (own_ev hq) ?_
  refine Ev.bind (own_ev hr) ?_
  refine Ev.bind (a := (canon (compOps q r), 0)) (by rw [compose_fit hq hr hrf]; exact Ev.now _) ?_
  refine Ev.bind (own_ev hpq) ?_
  refine Ev.bind (own_ev hr) ?_
  refine Ev.bind (a := (canon (compOps (canon (compOps p q)) r), 0)) (by rw [compose_fit hpq hr (by rw [a3, hrf])]; exact Ev.now _) ?_
  refine Ev.bind (own_ev hp) ?_
  refine Ev.bind (own_ev hqr) ?_
  refine Ev.bind (a := (canon (compOps p (canon (compOps q r))), 0)) (by rw [compose_fit hp hqr (by rw [b2, hqf])]; exact Ev.now _) ?_
  refine Ev.congr (fun k => by rw [if_pos rfl, if_pos rfl, if_pos rfl, if_pos rfl, if_pos rfl, if_pos rfl]) ?_
  refine Ev.bind (a := true) (by rw [← comp_assoc hp hq hr hqf hrf]; exact same_self _ (len hl)) ?_
  refine Ev.step (fun k => by rw [galleylaw13_DeltaAssoc.j0, if_neg (by decide)]) ?_
  obtain ⟨k1, k2, k3⟩ := keepL_can (n := (xs.length : Int)) (by omega) (by omega)
  obtain ⟨m1, m2, m3⟩ := keepL_can hp0 (by omega)
  obtain ⟨z1, z2⟩ := comp_keepL hp
  rw [hpf] at z1
  refine Ev.bind (a := keepL (xs.length : Int)) (by rw [all_f]; exact Ev.now _) ?_
  refine Ev.bind (own_ev hp) ?_
  refine Ev.bind (a := (p, 0)) (by rw [compose_fit k1 hp (by rw [k3, hpf]), z1]; exact Ev.now _) ?_
  refine Ev.bind (own_ev hp) ?_
  refine Ev.bind (a := keepL (toOf p)) (by rw [all_f]; exact Ev.now _) ?_
  refine Ev.bind (a := (p, 0)) (by rw [compose_fit hp m1 m2, z2]; exact Ev.now _) ?_
  refine Ev.congr (fun k => by rw [if_pos rfl, if_pos rfl]) ?_
  refine Ev.bind (same_self _ (len hp)) ?_
  refine Ev.congr (fun k => by rw [if_pos rfl]) ?_
  exact Ev.bind (same_self _ (len hp)) (Ev.now _)
end Go.Proofs.Ytidihnnkcmeaeaa.A
