/- shift.Over's loop in plain lists, and what its guard answers. No condition but the lists' lengths. -/
import Derived.Test.YtidihnnkcmeaeaaMG2
import Derived.Test.YtidihnnkcmeaeaaMG3
namespace Go.Proofs.Ytidihnnkcmeaeaa.A
open Go.RowKit Go.Proofs.YtidihnnkcmeaeaaW.PrintWords Go.Proofs.YtidihnnkcmeaeaaW.PrintLast Go.Proofs.YtidihnnkcmeaeaaW.PrintMore
set_option linter.unusedVariables false
set_option linter.unusedSimpArgs false
theorem lens_bad {d : List S70} (hl : d.length ≤ 9223372036854775807) (h : canB d = false) : Ev (fun k => delta_Lens.f k d) (0, 0, 130) := by
 have h1 := valid_ev d hl
 rw [h] at h1
 refine Ev.bind h1 ?_
 exact Ev.now _
theorem fits_ev {a b : List S70} (hla : a.length ≤ 9223372036854775807) (hlb : b.length ≤ 9223372036854775807) : Ev (fun k => shift_fits.f k a b) (if canB a = true then (if canB b = true then (if fromOf a = fromOf b then 0 else 131) else 130) else 130) := by
 unfold shift_fits.f
 cases hca : canB a with
 | true =>
  refine Ev.bind (lens_all hla hca) ?_
  simp only [if_true]
  cases hcb : canB b with
  | true =>
   refine Ev.bind (lens_all hlb hcb) ?_
   simp only [if_true]
   by_cases hf : fromOf a = fromOf b
   ·
    simp only [hf, if_true]
    exact Ev.now _
   ·
    simp only [hf, if_false]
    exact Ev.now _
  | false =>
   refine Ev.bind (lens_bad hlb hcb) ?_
   exact Ev.now _
 | false =>
  refine Ev.bind (lens_bad hla hca) ?_
  exact Ev.now _
theorem drop_rd {d : List S70} {k : Nat} (h : k < d.length) : d.drop k = rd_T70 d (k : Int) :: d.drop (k + 1) := by
 rw [List.drop_eq_getElem_cons h]
 unfold rd_T70
 rw [Int.toNat_natCast, List.getD_eq_getElem?_getD, List.getElem?_eq_getElem h]
 rfl
theorem rd_in {d : List S70} {k : Nat} (h : k < d.length) : rd_T70 d (k : Int) ∈ d := by
 unfold rd_T70
 rw [Int.toNat_natCast, List.getD_eq_getElem?_getD, List.getElem?_eq_getElem h]
 exact List.getElem_mem h
structure OvI (first : Bool) (a b T : List S70) (i j : Nat) (x y : Int) (out : List S70) : Prop where
 hi : i ≤ a.length
 hj : j ≤ b.length
 hx : 0 ≤ x
 hy : 0 ≤ y
 hx2 : x = 0 ∨ ∃ h : i < a.length, (rd_T70 a (i : Int)).f0 ≠ 2 ∧ x < (rd_T70 a (i : Int)).f1
 hy2 : y = 0 ∨ ∃ h : j < b.length, (rd_T70 b (j : Int)).f0 ≠ 2 ∧ y < (rd_T70 b (j : Int)).f1
 len : out.length ≤ i + j
 all : ∃ k, (a.length - i) + (b.length - j) < k ∧ T = out ++ overOps first k (a.drop i) x (b.drop j) y
theorem OvI.start (first : Bool) (a b : List S70) : OvI first a b (overOps first (a.length + b.length + 1) a 0 b 0) 0 0 0 0 [] :=
 ⟨Nat.zero_le _, Nat.zero_le _, Int.le_refl 0, Int.le_refl 0, .inl rfl, .inl rfl, Nat.zero_le _, a.length + b.length + 1, by omega, by simp⟩
section
variable {first : Bool} {a b T : List S70} {i j : Nat} {x y : Int} {out : List S70}
theorem OvI.put (h : OvI first a b T i j x y out) (hj : j < b.length) (h2 : (rd_T70 b (j : Int)).f0 = 2) (h3 : first = true ∨ ¬ (i < a.length ∧ (rd_T70 a (i : Int)).f0 = 2)) : OvI first a b T i (j + 1) x y (out ++ [rd_T70 b (j : Int)]) := by
 obtain ⟨q1, q2, q3, q4, q5, q6, q7, k, q8, q9⟩ := h
 have hy0 : y = 0 := by
  rcases q6 with h | ⟨_, h, _⟩
  ·
   exact h
  ·
   exact absurd h2 h
 refine ⟨q1, hj, q3, q4, q5, .inl hy0, by rw [List.length_append, List.length_singleton]; omega, ?_⟩
 cases k with
 | zero => omega
 | succ k =>
  refine ⟨k, by omega, ?_⟩
  rw [q9, List.append_assoc]
  congr 1
  rw [drop_rd hj]
  by_cases hi : i < a.length
  ·
   rw [drop_rd hi, overOps]
   have h3' : first = true ∨ (rd_T70 a (i : Int)).f0 ≠ 2 := h3.elim .inl (fun h => .inr (fun h4 => h ⟨hi, h4⟩))
   rw [if_pos ⟨h2, h3'⟩]
   rfl
  ·
   have hn : a.drop i = [] := List.drop_eq_nil_of_le (by omega)
   rw [hn, overOps, if_pos h2]
   rfl
theorem OvI.keep (h : OvI first a b T i j x y out) (hi : i < a.length) (h2 : (rd_T70 a (i : Int)).f0 = 2) (h3 : ¬ (j < b.length ∧ (rd_T70 b (j : Int)).f0 = 2 ∧ first = true)) : OvI first a b T (i + 1) j x y (out ++ [(⟨1, ((rd_T70 a (i : Int)).f2.size : Int), noText⟩ : S70)]) := by
 obtain ⟨q1, q2, q3, q4, q5, q6, q7, k, q8, q9⟩ := h
 have hx0 : x = 0 := by
  rcases q5 with h | ⟨_, h, _⟩
  ·
   exact h
  ·
   exact absurd h2 h
 refine ⟨hi, q2, q3, q4, .inl hx0, q6, by rw [List.length_append, List.length_singleton]; omega, ?_⟩
 cases k with
 | zero => omega
 | succ k =>
  refine ⟨k, by omega, ?_⟩
  rw [q9, List.append_assoc]
  congr 1
  rw [drop_rd hi]
  by_cases hj : j < b.length
  ·
   rw [drop_rd hj, overOps]
   have h3' : ¬ ((rd_T70 b (j : Int)).f0 = 2 ∧ (first = true ∨ (rd_T70 a (i : Int)).f0 ≠ 2)) := fun h => h.2.elim (fun hf => h3 ⟨hj, h.1, hf⟩) (fun hn => hn h2)
   rw [if_neg h3', if_pos h2]
   rfl
  ·
   have hn : b.drop j = [] := List.drop_eq_nil_of_le (by omega)
   rw [hn, overOps, if_pos h2]
   rfl
theorem OvI.stop (h : OvI first a b T i j x y out) (h1 : ¬ (i < a.length ∧ j < b.length)) (h2 : ¬ (i < a.length ∧ (rd_T70 a (i : Int)).f0 = 2)) (h3 : ¬ (j < b.length ∧ (rd_T70 b (j : Int)).f0 = 2)) : T = out := by
 obtain ⟨q1, q2, q3, q4, q5, q6, q7, k, q8, q9⟩ := h
 rw [q9]
 cases k with
 | zero => omega
 | succ k =>
  by_cases hi : i < a.length
  ·
   have hn : b.drop j = [] := List.drop_eq_nil_of_le (by omega)
   rw [hn, drop_rd hi, overOps, if_neg (fun h => h2 ⟨hi, h⟩), List.append_nil]
  ·
   have hn : a.drop i = [] := List.drop_eq_nil_of_le (by omega)
   rw [hn]
   by_cases hj : j < b.length
   ·
    rw [drop_rd hj, overOps, if_neg (fun h => h3 ⟨hj, h⟩), List.append_nil]
   ·
    have hn2 : b.drop j = [] := List.drop_eq_nil_of_le (by omega)
    rw [hn2, overOps, List.append_nil]
theorem OvI.both (h : OvI first a b T i j x y out) (oka : ∀ o ∈ a, opOk o = true) (okb : ∀ o ∈ b, opOk o = true) (hi : i < a.length) (hj : j < b.length) (h2 : (rd_T70 a (i : Int)).f0 ≠ 2) (h3 : (rd_T70 b (j : Int)).f0 ≠ 2) {n : Int}
  (hn : n = if (rd_T70 b (j : Int)).f1 - y < (rd_T70 a (i : Int)).f1 - x then (rd_T70 b (j : Int)).f1 - y else (rd_T70 a (i : Int)).f1 - x) :
  1 ≤ n ∧ OvI first a b T (if x + n = (rd_T70 a (i : Int)).f1 then i + 1 else i) (if y + n = (rd_T70 b (j : Int)).f1 then j + 1 else j) (if x + n = (rd_T70 a (i : Int)).f1 then 0 else x + n) (if y + n = (rd_T70 b (j : Int)).f1 then 0 else y + n)
   (out ++ if (rd_T70 a (i : Int)).f0 = 1 then [(⟨(rd_T70 b (j : Int)).f0, n, noText⟩ : S70)] else []) := by
 obtain ⟨q1, q2, q3, q4, q5, q6, q7, k, q8, q9⟩ := h
 obtain ⟨p, hp⟩ : ∃ p, p = rd_T70 a (i : Int) := ⟨_, rfl⟩
 obtain ⟨q, hq⟩ : ∃ q, q = rd_T70 b (j : Int) := ⟨_, rfl⟩
 have hda := drop_rd hi
 have hdb := drop_rd hj
 have hop := oka _ (rd_in hi)
 have hoq := okb _ (rd_in hj)
 rw [← hp] at h2 hn q5 hda hop ⊢
 rw [← hq] at h3 hn q6 hdb hoq ⊢
 have hp1 : 1 ≤ p.f1 := by rcases opOk_cases hop with ⟨k1, k2, k3⟩ | ⟨k1, k2, k3⟩ <;> omega
 have hq1 : 1 ≤ q.f1 := by rcases opOk_cases hoq with ⟨k1, k2, k3⟩ | ⟨k1, k2, k3⟩ <;> omega
 have hx3 : x < p.f1 := by
  rcases q5 with h | ⟨_, _, h⟩ <;> omega
 have hy3 : y < q.f1 := by
  rcases q6 with h | ⟨_, _, h⟩ <;> omega
 have hn1 : 1 ≤ n := by rw [hn]; split <;> omega
 have hnx : x + n ≤ p.f1 := by rw [hn]; split <;> omega
 have hny : y + n ≤ q.f1 := by rw [hn]; split <;> omega
 have hone : x + n = p.f1 ∨ y + n = q.f1 := by rw [hn]; split <;> omega
 refine ⟨hn1, ⟨by split <;> omega, by split <;> omega, by split <;> omega, by split <;> omega, ?_, ?_, ?_, ?_⟩⟩
 ·
  by_cases hxe : x + n = p.f1
  ·
   rw [if_pos hxe]; exact .inl rfl
  ·
   simp only [if_neg hxe]
   rw [← hp]
   exact .inr ⟨hi, h2, by omega⟩
 ·
  by_cases hye : y + n = q.f1
  ·
   rw [if_pos hye]; exact .inl rfl
  ·
   simp only [if_neg hye]
   rw [← hq]
   exact .inr ⟨hj, h3, by omega⟩
 ·
  rw [List.length_append]
  have h8 : (if p.f0 = 1 then [(⟨q.f0, n, noText⟩ : S70)] else []).length ≤ 1 := by split <;> simp
  generalize (if p.f0 = 1 then [(⟨q.f0, n, noText⟩ : S70)] else []).length = z at h8 ⊢
  rcases hone with h | h
  ·
   rw [if_pos h]
   split <;> omega
  ·
   rw [if_pos h]
   split <;> omega
 ·
  cases k with
  | zero => omega
  | succ k =>
   refine ⟨k, ?_, ?_⟩
   ·
    rcases hone with h | h
    ·
     rw [if_pos h]; split <;> omega
    ·
     rw [if_pos h]; split <;> omega
   ·
    rw [q9, List.append_assoc]
    congr 1
    rw [hda, hdb, overOps, if_neg (fun h => h3 h.1), if_neg h2]
    dsimp only
    rw [← hn]
    congr 1
    by_cases hxe : x + n = p.f1
    ·
     by_cases hye : y + n = q.f1
     ·
      simp only [if_pos hxe, if_pos hye]
     ·
      simp only [if_pos hxe, if_neg hye]
      rw [hdb]
    ·
     by_cases hye : y + n = q.f1
     ·
      simp only [if_neg hxe, if_pos hye]
      rw [hda]
     ·
      simp only [if_neg hxe, if_neg hye]
      rw [hda, hdb]
end
structure OvJ (first : Bool) (a b T : List S70) (i j x y : Int) (out : List S70) : Prop where
 hi : 0 ≤ i
 hj : 0 ≤ j
 inv : OvI first a b T i.toNat j.toNat x y out
def ovM (a b : List S70) (i j : Int) : Nat := (a.length - i.toNat) + (b.length - j.toNat)
theorem OvJ.start (first : Bool) (a b : List S70) : OvJ first a b (overOps first (a.length + b.length + 1) a 0 b 0) 0 0 0 0 [] := ⟨Int.le_refl 0, Int.le_refl 0, OvI.start first a b⟩
section
variable {first : Bool} {a b T : List S70} {i j x y : Int} {out : List S70}
theorem OvJ.put (h : OvJ first a b T i j x y out) (hj : j < (b.length : Int)) (h2 : (rd_T70 b j).f0 = 2) (h3 : first = true ∨ ¬ (i < (a.length : Int) ∧ (rd_T70 a i).f0 = 2)) : OvJ first a b T i (j + 1) x y (out ++ [rd_T70 b j]) ∧ ovM a b i (j + 1) < ovM a b i j := by
 obtain ⟨p1, p2, p3⟩ := h
 have e1 : ((i.toNat : Nat) : Int) = i := Int.toNat_of_nonneg p1
 have e2 : ((j.toNat : Nat) : Int) = j := Int.toNat_of_nonneg p2
 have hn : (j + 1).toNat = j.toNat + 1 := by omega
 refine ⟨⟨p1, by omega, ?_⟩, by unfold ovM; omega⟩
 have := p3.put (by omega) (by rw [e2]; exact h2) (h3.imp id (fun h h4 => h ⟨by omega, by rw [e1] at h4; exact h4.2⟩))
 rw [e2] at this
 rw [hn]
 exact this
theorem OvJ.keep (h : OvJ first a b T i j x y out) (hi : i < (a.length : Int)) (h2 : (rd_T70 a i).f0 = 2) (h3 : ¬ (j < (b.length : Int) ∧ (rd_T70 b j).f0 = 2 ∧ first = true)) : OvJ first a b T (i + 1) j x y (out ++ [(⟨1, ((rd_T70 a i).f2.size : Int), noText⟩ : S70)]) ∧ ovM a b (i + 1) j < ovM a b i j := by
 obtain ⟨p1, p2, p3⟩ := h
 have e1 : ((i.toNat : Nat) : Int) = i := Int.toNat_of_nonneg p1
 have e2 : ((j.toNat : Nat) : Int) = j := Int.toNat_of_nonneg p2
 have hn : (i + 1).toNat = i.toNat + 1 := by omega
 refine ⟨⟨by omega, p2, ?_⟩, by unfold ovM; omega⟩
 have := p3.keep (by omega) (by rw [e1]; exact h2) (fun h4 => h3 ⟨by omega, by rw [e2] at h4; exact h4.2⟩)
 rw [e1] at this
 rw [hn]
 exact this
theorem OvJ.stop (h : OvJ first a b T i j x y out) (h1 : ¬ (i < (a.length : Int) ∧ j < (b.length : Int))) (h2 : ¬ (i < (a.length : Int) ∧ (rd_T70 a i).f0 = 2)) (h3 : ¬ (j < (b.length : Int) ∧ (rd_T70 b j).f0 = 2)) : T = out := by
 obtain ⟨p1, p2, p3⟩ := h
 have e1 : ((i.toNat : Nat) : Int) = i := Int.toNat_of_nonneg p1
 have e2 : ((j.toNat : Nat) : Int) = j := Int.toNat_of_nonneg p2
 exact p3.stop (fun h => h1 ⟨by omega, by omega⟩) (fun h => h2 ⟨by omega, by rw [e1] at h; exact h.2⟩) (fun h => h3 ⟨by omega, by rw [e2] at h; exact h.2⟩)
theorem OvJ.len (h : OvJ first a b T i j x y out) : (out.length : Int) ≤ i + j := by
 obtain ⟨p1, p2, p3⟩ := h
 have := p3.len
 omega
theorem OvJ.small (h : OvJ first a b T i j x y out) : i ≤ (a.length : Int) ∧ j ≤ (b.length : Int) := by
 obtain ⟨p1, p2, p3⟩ := h
 have := p3.hi
 have := p3.hj
 omega
def ovN (a b : List S70) (i j x y : Int) : Int := if (rd_T70 b j).f1 - y < (rd_T70 a i).f1 - x then (rd_T70 b j).f1 - y else (rd_T70 a i).f1 - x
theorem OvJ.both (h : OvJ first a b T i j x y out) (oka : ∀ o ∈ a, opOk o = true) (okb : ∀ o ∈ b, opOk o = true) (hi : i < (a.length : Int)) (hj : j < (b.length : Int)) (h2 : (rd_T70 a i).f0 ≠ 2) (h3 : (rd_T70 b j).f0 ≠ 2) :
  OvJ first a b T (if x + ovN a b i j x y = (rd_T70 a i).f1 then i + 1 else i) (if y + ovN a b i j x y = (rd_T70 b j).f1 then j + 1 else j) (if x + ovN a b i j x y = (rd_T70 a i).f1 then 0 else x + ovN a b i j x y) (if y + ovN a b i j x y = (rd_T70 b j).f1 then 0 else y + ovN a b i j x y)
   (out ++ if (rd_T70 a i).f0 = 1 then [(⟨(rd_T70 b j).f0, ovN a b i j x y, noText⟩ : S70)] else []) ∧
  ovM a b (if x + ovN a b i j x y = (rd_T70 a i).f1 then i + 1 else i) (if y + ovN a b i j x y = (rd_T70 b j).f1 then j + 1 else j) < ovM a b i j ∧ (x + ovN a b i j x y = (rd_T70 a i).f1 ∨ y + ovN a b i j x y = (rd_T70 b j).f1) ∧
  0 ≤ x ∧ 0 ≤ y ∧ 1 ≤ ovN a b i j x y ∧ x + ovN a b i j x y ≤ (rd_T70 a i).f1 ∧ y + ovN a b i j x y ≤ (rd_T70 b j).f1 := by
 obtain ⟨p1, p2, p3⟩ := h
 have e1 : ((i.toNat : Nat) : Int) = i := Int.toNat_of_nonneg p1
 have e2 : ((j.toNat : Nat) : Int) = j := Int.toNat_of_nonneg p2
 have q3 := p3.hx
 have q4 := p3.hy
 have q5 := p3.hx2
 have q6 := p3.hy2
 rw [e1] at q5
 rw [e2] at q6
 have hop := oka _ (rd_in (d := a) (k := i.toNat) (by omega))
 have hoq := okb _ (rd_in (d := b) (k := j.toNat) (by omega))
 rw [e1] at hop
 rw [e2] at hoq
 obtain ⟨g1, g2⟩ := p3.both (n := ovN a b i j x y) oka okb (by omega) (by omega) (by rw [e1]; exact h2) (by rw [e2]; exact h3) (by rw [e1, e2]; rfl)
 rw [e1, e2] at g2
 have hp1 : 1 ≤ (rd_T70 a i).f1 := by rcases opOk_cases hop with ⟨k1, k2, k3⟩ | ⟨k1, k2, k3⟩ <;> omega
 have hq1 : 1 ≤ (rd_T70 b j).f1 := by rcases opOk_cases hoq with ⟨k1, k2, k3⟩ | ⟨k1, k2, k3⟩ <;> omega
 have hx3 : x < (rd_T70 a i).f1 := by
  rcases q5 with h | ⟨_, _, h⟩ <;> omega
 have hy3 : y < (rd_T70 b j).f1 := by
  rcases q6 with h | ⟨_, _, h⟩ <;> omega
 have hnx : x + ovN a b i j x y ≤ (rd_T70 a i).f1 := by unfold ovN; split <;> omega
 have hny : y + ovN a b i j x y ≤ (rd_T70 b j).f1 := by unfold ovN; split <;> omega
 have hone : x + ovN a b i j x y = (rd_T70 a i).f1 ∨ y + ovN a b i j x y = (rd_T70 b j).f1 := by unfold ovN; split <;> omega
 have f1 : (if x + ovN a b i j x y = (rd_T70 a i).f1 then i.toNat + 1 else i.toNat) = (if x + ovN a b i j x y = (rd_T70 a i).f1 then i + 1 else i).toNat := by split <;> omega
 have f2 : (if y + ovN a b i j x y = (rd_T70 b j).f1 then j.toNat + 1 else j.toNat) = (if y + ovN a b i j x y = (rd_T70 b j).f1 then j + 1 else j).toNat := by split <;> omega
 rw [f1, f2] at g2
 refine ⟨⟨by split <;> omega, by split <;> omega, g2⟩, ?_, hone, q3, q4, g1, hnx, hny⟩
 unfold ovM
 rcases hone with h | h
 ·
  rw [if_pos h]; split <;> omega
 ·
  rw [if_pos h]; split <;> omega
end
theorem rdI_in {d : List S70} {i : Int} (h0 : 0 ≤ i) (h : i < (d.length : Int)) : rd_T70 d i ∈ d := by
 have e : ((i.toNat : Nat) : Int) = i := Int.toNat_of_nonneg h0
 have := rd_in (d := d) (k := i.toNat) (by omega)
 rwa [e] at this
end Go.Proofs.Ytidihnnkcmeaeaa.A
