/- Canonical operations, told apart. Plain lists. No condition. -/
import Derived.Test.YtidihnnkcmeaeaaQ
import Derived.Test.YtidihnnkcmeaeaaEApply
namespace Go.Proofs.Ytidihnnkcmeaeaa.A
open Go.RowKit Go.Proofs.YtidihnnkcmeaeaaW.PrintWords Go.Proofs.YtidihnnkcmeaeaaW.PrintLast Go.Proofs.YtidihnnkcmeaeaaW.PrintMore
set_option linter.unusedVariables false
set_option linter.unusedSimpArgs false
theorem noText_eq {s : ByteArray} (h : s.size = 0) : s = noText := by
 apply ByteArray.ext
 exact Array.eq_empty_of_size_eq_zero h
theorem opOk_cases {o : S70} (h : opOk o = true) : (o.f0 = 1 ∨ o.f0 = 3) ∧ 1 ≤ o.f1 ∧ o.f2 = noText ∨ o.f0 = 2 ∧ o.f1 = 0 ∧ 1 ≤ o.f2.size := by
 simp only [opOk, Bool.or_eq_true, Bool.and_eq_true, beq_iff_eq, decide_eq_true_eq, bne_iff_ne] at h
 rcases h with ⟨⟨h1, h2⟩, h3⟩ | ⟨⟨h1, h2⟩, h3⟩
 ·
  exact .inl ⟨h1, h2, noText_eq h3⟩
 ·
  exact .inr ⟨h1, h2, by omega⟩
theorem opOk_num {k n : Int} (hk : k = 1 ∨ k = 3) (hn : 1 ≤ n) : opOk (⟨k, n, noText⟩ : S70) = true := by
 have hz : (noText.size == 0) = true := rfl
 rcases hk with rfl | rfl <;> simp only [opOk, hz] <;> simp [hn]
theorem opOk_put {s : ByteArray} (h : 1 ≤ s.size) : opOk (⟨2, 0, s⟩ : S70) = true := by
 simp [opOk]
 intro h0
 rw [h0] at h
 simp at h
theorem opw_pos {o : S70} (h : opOk o = true) : 1 ≤ opw o := by
 unfold opw
 rcases opOk_cases h with ⟨h1, h2, h3⟩ | ⟨h1, h2, h3⟩
 ·
  rw [if_neg (by omega)]
  exact h2
 ·
  rw [if_pos h1]
  omega
theorem canB_small {a : List S70} (ha : canB a = true) : ∀ o ∈ a, opw o ≤ 268435456 := by
 have ca := canB_lens ha
 have hpa : ∀ o ∈ a, posN o := fun o ho => kindOk_posN (opOk_kindOk (chainOk_opOk ca.1 o ho))
 intro o ho
 have h3 : ∀ {l : List S70}, (∀ x ∈ l, posN x) → ∀ o ∈ l, opw o ≤ fromOf l ∨ opw o ≤ toOf l := by
  intro l
  induction l with
  | nil => intro _ o ho; simp at ho
  | cons x l ih =>
   intro hx o ho
   have hpr : ∀ y ∈ l, posN y := fun y hy => hx y (List.mem_cons_of_mem _ hy)
   have e1 := fromOf_nonneg hpr
   have e2 := toOf_nonneg hpr
   rw [fromOf_cons, toOf_cons]
   have hxx := hx x List.mem_cons_self
   rcases List.mem_cons.1 ho with rfl | ho
   ·
    unfold opw
    by_cases c2 : o.f0 = 2
    ·
     rw [if_pos c2, if_pos c2, if_pos c2]; right; omega
    ·
     rw [if_neg c2, if_neg c2]; left; omega
   ·
    have e3 : 0 ≤ (if x.f0 = 2 then 0 else x.f1) := by
     split
     ·
      omega
     ·
      rename_i c; exact hxx c
    have e4 : 0 ≤ (if x.f0 = 2 then (x.f2.size : Int) else if x.f0 = 3 then 0 else x.f1) := by
     split
     ·
      omega
     ·
      rename_i c
      have := hxx c
      split <;> omega
    rcases ih hpr o ho with h | h
    ·
     left; omega
    ·
     right; omega
 rcases h3 hpa o ho with h | h <;> omega
theorem ok_length : ∀ {l : List S70}, (∀ x ∈ l, opOk x = true) → (l.length : Int) ≤ opws l
 | [], _ => Int.le_refl 0
 | x :: l, hx => by
  have h1 := ok_length (l := l) (fun y hy => hx y (List.mem_cons_of_mem _ hy))
  have h2 := opw_pos (hx x List.mem_cons_self)
  simp only [opws, List.length_cons]
  omega
theorem canB_length {a : List S70} (ha : canB a = true) : a.length ≤ 536870912 := by
 have ca := canB_lens ha
 have oka := chainOk_opOk ca.1
 have h1 := ok_length oka
 have h2 := opws_le (fun o ho => kindOk_posN (opOk_kindOk (oka o ho)))
 omega
def KEnd (l : List S70) : Prop := l = [] ∨ ∃ init m, l = init ++ [(⟨1, m, noText⟩ : S70)]
inductive BW : Bs → Prop
 | zero : BW ⟨[], 0, noText, 0⟩
 | kept (init : List S70) (m : Int) (hm : 0 ≤ m) : BW ⟨init ++ [(⟨1, m, noText⟩ : S70)], 1, noText, 0⟩
 | chg (out : List S70) (put : ByteArray) (drop : Int) (ho : KEnd out) (hd : 0 ≤ drop) (h : 0 < put.size ∨ 0 < drop) : BW ⟨out, 2, put, drop⟩
theorem size_nil_append (s : ByteArray) : noText ++ s = s := by
 apply ByteArray.ext
 simp [noText]
theorem done_zero : Bs.done ⟨[], 0, noText, 0⟩ = [] := by
 unfold Bs.done Bs.flush
 simp only [noText_size]
 rfl
theorem done_kept (l : List S70) : Bs.done ⟨l, 1, noText, 0⟩ = l := by
 unfold Bs.done Bs.flush
 simp only [noText_size]
 simp
theorem done_chg (out : List S70) (put : ByteArray) (drop : Int) : Bs.done ⟨out, 2, put, drop⟩ = (if 0 < put.size then out ++ [(⟨2, 0, put⟩ : S70)] else out) ++ (if 0 < drop then [(⟨3, drop, noText⟩ : S70)] else []) := rfl
end Go.Proofs.Ytidihnnkcmeaeaa.A
