/- Canon of what is canonical is it. Plain lists. No condition but canonical operations. -/
import Derived.Test.YtidihnnkcmeaeaaMG2
namespace Go.Proofs.Ytidihnnkcmeaeaa.A
open Go.RowKit Go.Proofs.YtidihnnkcmeaeaaW.PrintWords Go.Proofs.YtidihnnkcmeaeaaW.PrintLast Go.Proofs.YtidihnnkcmeaeaaW.PrintMore
set_option linter.unusedVariables false
set_option linter.unusedSimpArgs false
def lk (b : Bs) : Int := if b.last = 2 then (if 0 < b.drop then 3 else 2) else b.last
theorem step_done {b : Bs} {q : S70} (hb : BW b) (hq : opOk q = true) (h1 : lk b ≠ q.f0) (h2 : ¬ (lk b = 3 ∧ q.f0 = 2)) : (b.step q).done = b.done ++ [q] ∧ BW (b.step q) ∧ lk (b.step q) = q.f0 := by
 have hqc := opOk_cases hq
 have hq1 : (q.f0 = 1 ∨ q.f0 = 3) → q = ⟨q.f0, q.f1, noText⟩ := by
  intro h
  rcases hqc with ⟨k1, k2, k3⟩ | ⟨k1, k2, k3⟩
  ·
   cases q; simp only at k3 ⊢; rw [k3]
  ·
   omega
 have hq2 : q.f0 = 2 → q = ⟨2, 0, q.f2⟩ := by
  intro h
  rcases hqc with ⟨k1, k2, k3⟩ | ⟨k1, k2, k3⟩
  ·
   omega
  ·
   cases q; simp only at k1 k2 ⊢; rw [k1, k2]
 rcases hqc with ⟨k1, k2, k3⟩ | ⟨k1, k2, k3⟩
 ·
  rcases k1 with k1 | k1
  ·
   have hst : b.step q = b.onKeep q.f1 := by unfold Bs.step; rw [if_neg (by omega), if_pos k1]
   have hqe := hq1 (.inl k1)
   rw [k1] at hqe
   rw [hst]
   have h0 : ¬ q.f1 = 0 := by omega
   cases hb with
   | zero =>
    have he : Bs.onKeep ⟨[], 0, noText, 0⟩ q.f1 = ⟨[] ++ [(⟨1, q.f1, noText⟩ : S70)], 1, noText, 0⟩ := by simp [Bs.onKeep, h0]
    rw [he, done_kept, done_zero, ← hqe]
    exact ⟨rfl, by rw [hqe]; exact BW.kept [] _ (by omega), by rw [k1]; simp [lk]⟩
   | kept init m hm => exact absurd (show lk (⟨init ++ [(⟨1, m, noText⟩ : S70)], 1, noText, 0⟩ : Bs) = 1 by simp [lk]) (by rw [k1] at h1; exact h1)
   | chg out put drop ho hd h =>
    have he : Bs.onKeep ⟨out, 2, put, drop⟩ q.f1 = ⟨Bs.done ⟨out, 2, put, drop⟩ ++ [(⟨1, q.f1, noText⟩ : S70)], 1, noText, 0⟩ := by
     simp only [Bs.onKeep, if_neg h0, Bs.done]
     simp
    rw [he, done_kept, ← hqe]
    exact ⟨rfl, by rw [hqe]; exact BW.kept _ _ (by omega), by rw [k1]; simp [lk]⟩
  ·
   have hst : b.step q = b.onDrop q.f1 := by unfold Bs.step; rw [if_neg (by omega), if_neg (by omega)]
   have hqe := hq1 (.inr k1)
   rw [k1] at hqe
   rw [hst]
   have hpos : 0 < q.f1 := by omega
   cases hb with
   | zero =>
    have he : Bs.onDrop ⟨[], 0, noText, 0⟩ q.f1 = ⟨[], 2, noText, 0 + q.f1⟩ := by simp [Bs.onDrop, hpos]
    rw [he, done_chg, done_zero, if_neg (by rw [noText_size]; omega), if_pos (by omega), Int.zero_add, ← hqe]
    exact ⟨rfl, BW.chg [] noText q.f1 (.inl rfl) (by omega) (.inr hpos), by rw [k1]; simp [lk, hpos]⟩
   | kept init m hm =>
    have he : Bs.onDrop ⟨init ++ [(⟨1, m, noText⟩ : S70)], 1, noText, 0⟩ q.f1 = ⟨init ++ [(⟨1, m, noText⟩ : S70)], 2, noText, 0 + q.f1⟩ := by simp [Bs.onDrop, hpos]
    rw [he, done_kept, done_chg, if_neg (by rw [noText_size]; omega), if_pos (by omega), Int.zero_add, ← hqe]
    exact ⟨rfl, BW.chg _ noText q.f1 (.inr ⟨init, m, rfl⟩) (by omega) (.inr hpos), by rw [k1]; simp [lk, hpos]⟩
   | chg out put drop ho hd h =>
    have hd0 : ¬ 0 < drop := by
     intro hdp
     apply h1
     rw [k1]
     simp [lk, hdp]
    have hz : drop = 0 := by omega
    have hp : 0 < put.size := by omega
    have he : Bs.onDrop ⟨out, 2, put, drop⟩ q.f1 = ⟨out, 2, put, drop + q.f1⟩ := by simp only [Bs.onDrop, if_pos hpos]
    rw [he, done_chg, done_chg, if_pos hp, if_pos (show 0 < drop + q.f1 by omega), if_neg hd0, List.append_nil, hz, Int.zero_add, ← hqe]
    exact ⟨rfl, BW.chg out put q.f1 ho (by omega) (.inl hp), by rw [k1]; simp [lk, hpos]⟩
 ·
  have hst : b.step q = b.onPut q.f2 := by unfold Bs.step; rw [if_pos k1]
  have hqe := hq2 k1
  rw [hst]
  have h0 : ¬ q.f2.size = 0 := by omega
  have hpos : 0 < q.f2.size := by omega
  cases hb with
  | zero =>
   have he : Bs.onPut ⟨[], 0, noText, 0⟩ q.f2 = ⟨[], 2, noText ++ q.f2, 0⟩ := by simp only [Bs.onPut, if_neg h0]
   rw [he, size_nil_append, done_chg, done_zero, if_pos hpos, if_neg (by omega), List.append_nil, ← hqe]
   exact ⟨rfl, BW.chg [] q.f2 0 (.inl rfl) (Int.le_refl 0) (.inl hpos), by rw [k1]; simp [lk]⟩
  | kept init m hm =>
   have he : Bs.onPut ⟨init ++ [(⟨1, m, noText⟩ : S70)], 1, noText, 0⟩ q.f2 = ⟨init ++ [(⟨1, m, noText⟩ : S70)], 2, noText ++ q.f2, 0⟩ := by simp only [Bs.onPut, if_neg h0]
   rw [he, size_nil_append, done_kept, done_chg, if_pos hpos, if_neg (by omega), List.append_nil, ← hqe]
   exact ⟨rfl, BW.chg _ q.f2 0 (.inr ⟨init, m, rfl⟩) (Int.le_refl 0) (.inl hpos), by rw [k1]; simp [lk]⟩
  | chg out put drop ho hd h =>
   exfalso
   by_cases hdp : 0 < drop
   ·
    exact h2 ⟨by simp [lk, hdp], k1⟩
   ·
    apply h1
    rw [k1]
    simp [lk, hdp]
theorem fold_done : ∀ (d : List S70) (b : Bs), BW b → chainOk d = true → (∀ q t, d = q :: t → lk b ≠ q.f0 ∧ ¬ (lk b = 3 ∧ q.f0 = 2)) → (d.foldl Bs.step b).done = b.done ++ d
 | [], b, _, _, _ => by simp
 | q :: d, b, hb, hc, hh => by
  obtain ⟨hq, hh2, hc2⟩ := chainOk_cons hc
  obtain ⟨h1, h2⟩ := hh q d rfl
  obtain ⟨s1, s2, s3⟩ := step_done hb hq h1 h2
  rw [List.foldl_cons, fold_done d _ s2 hc2 (by
   intro a t e
   subst e
   have := nbOk_ne (show nbOk q a = true from hh2)
   rw [s3]
   exact this), s1, List.append_assoc]
  rfl
theorem canon_id {d : List S70} (hc : chainOk d = true) : canon d = d := by
 have := fold_done d Bs.new BW.zero hc (by
  intro q t e
  subst e
  obtain ⟨hq, _, _⟩ := chainOk_cons hc
  have hz : lk Bs.new = 0 := by simp [lk, Bs.new]
  rw [hz]
  rcases opOk_cases hq with ⟨k1, k2, k3⟩ | ⟨k1, k2, k3⟩ <;> omega)
 have h0 : Bs.new.done = [] := done_zero
 rw [h0] at this
 unfold canon
 rw [this]
 rfl
end Go.Proofs.Ytidihnnkcmeaeaa.A
