/- What Compose and Apply of deltas that fit do, on plain lists. No condition but sizes. -/
import Derived.Test.YtidihnnkcmeaeaaQ3
import Derived.Test.YtidihnnkcmeaeaaEApply
namespace Go.Proofs.Ytidihnnkcmeaeaa.A
open Go.RowKit Go.Proofs.YtidihnnkcmeaeaaW.PrintWords Go.Proofs.YtidihnnkcmeaeaaW.PrintLast Go.Proofs.YtidihnnkcmeaeaaW.PrintMore
set_option linter.unusedVariables false
set_option linter.unusedSimpArgs false
/-- what Compose of two that fit does -/
theorem comp_eqv {a y : List S70} (ha : canB a = true) (hy : canB y = true) (hf : fromOf y = toOf a) : chainOk (canon (compOps a y)) = true ∧ fromOf (canon (compOps a y)) = fromOf a ∧ toOf (canon (compOps a y)) = toOf y ∧
    (∀ {α : Type} {g : ByteArray → List α}, Wr g → ∀ xs : List α, fromOf a ≤ (xs.length : Int) → ap g (canon (compOps a y)) xs = ap g y (ap g a xs)) := by
  have oka := chainOk_opOk (canB_lens ha).1
  have oky := chainOk_opOk (canB_lens hy).1
  have hsa := canB_small ha
  have hfa := fromOf_nonneg (d := a) (fun o ho => kindOk_posN (opOk_kindOk (oka o ho)))
  obtain ⟨n, hn⟩ : ∃ n : Nat, fromOf a = (n : Int) := ⟨(fromOf a).toNat, by omega⟩
  obtain ⟨s1, s2, s3⟩ := comp_sem wr_gs y a (tk 0 n) oka oky hsa hf (by rw [tk_len]; omega)
  obtain ⟨c1, c2⟩ := canon_sem s3
  have hsem : ∀ {α : Type} {g : ByteArray → List α}, Wr g → ∀ xs : List α, fromOf a ≤ (xs.length : Int) → ap g (canon (compOps a y)) xs = ap g y (ap g a xs) := by
    intro α g hg xs hx
    rw [c2.sem hg xs (by rw [c2.from_, s2]; exact hx)]
    exact (comp_sem hg y a xs oka oky hsa hf hx).1
  refine ⟨c1, by rw [c2.from_, s2], ?_, hsem⟩
  have h1 := hsem wr_gs (tk 0 n) (by rw [tk_len]; omega)
  have h2 := ap_len wr_gs (canon (compOps a y)) (tk 0 n) (okc c1) (by rw [tk_len, c2.from_, s2]; omega)
  have h3 := ap_len wr_gs a (tk 0 n) (okc (canB_lens ha).1) (by rw [tk_len]; omega)
  have h4 := ap_len wr_gs y (ap gs a (tk 0 n)) (okc (canB_lens hy).1) (by rw [h3]; omega)
  rw [h1] at h2
  rw [← h2, h4]
theorem short_len {d : List S70} (hc : chainOk d = true) (h1 : fromOf d ≤ 268435456) (h2 : toOf d ≤ 268435456) : d.length ≤ 536870912 := by
  have hok := chainOk_opOk hc
  have e1 := ok_length hok
  have e2 := opws_le (fun o ho => kindOk_posN (opOk_kindOk (hok o ho)))
  omega
theorem apply_fit {xs : List Int} {d : List S70} (h : canB d = true) (hf : fromOf d = (xs.length : Int)) : delta_Apply.f xs d = some (ap bytesOf d xs, 0) := by
  unfold delta_Apply.f
  rw [if_pos h, if_pos hf]
theorem compose_fit {a y : List S70} (ha : canB a = true) (hy : canB y = true) (hf : fromOf y = toOf a) : delta_Compose.f a y = some (canon (compOps a y), 0) := by
  unfold delta_Compose.f
  rw [ha, hy, Bool.and_self, if_pos rfl, if_pos hf]
theorem comp_can {a y : List S70} (ha : canB a = true) (hy : canB y = true) (hf : fromOf y = toOf a) : canB (canon (compOps a y)) = true := by
 obtain ⟨p1, p2, p3, p4⟩ := comp_eqv ha hy hf
 simp only [canB, Bool.and_eq_true, decide_eq_true_eq]
 exact ⟨⟨p1, by rw [p2]; exact (canB_lens ha).2.1⟩, by rw [p3]; exact (canB_lens hy).2.2⟩
/-- two canonical deltas of one length that do the same of every row are one -/
theorem one_delta {a b : List S70} (ha : chainOk a = true) (hb : chainOk b = true) (hf : fromOf a = fromOf b) (h : ∀ xs : List (Nat ⊕ Int), fromOf a = (xs.length : Int) → ap gs a xs = ap gs b xs) : a = b := by
 have hfa := fromOf_nonneg (d := a) (fun o ho => kindOk_posN (okc ha o ho))
 obtain ⟨n, hn⟩ : ∃ n : Nat, fromOf a = (n : Int) := ⟨(fromOf a).toNat, by omega⟩
 exact uniq _ _ 0 n ha hb hn (by rw [← hf, hn]) (h _ (by rw [tk_len, hn]))
end Go.Proofs.Ytidihnnkcmeaeaa.A
