/- The reference's Over, place by place: what is left to do, and what it comes to. Plain lists. No condition but canonical deltas of one text. -/
import Derived.Test.YtidihnnkcmeaeaaR3
namespace Go.Proofs.Ytidihnnkcmeaeaa.A
open Go.RowKit Go.Proofs.YtidihnnkcmeaeaaW.PrintWords Go.Proofs.YtidihnnkcmeaeaaW.PrintLast
set_option linter.unusedVariables false
def roAt (first : Bool) (l0 l1 : List S70) (n p : Nat) : List S70 := if p ≤ n then refOps first ((DL l0).drop p) ((DL l1).drop p) ((PL l0).drop p) ((PL l1).drop p) else []
def roAll (first : Bool) (l0 l1 : List S70) : List S70 := refOps first (DL l0) (DL l1) (PL l0) (PL l1)
theorem roAt_zero (first : Bool) (l0 l1 : List S70) (n : Nat) : roAt first l0 l1 n 0 = roAll first l0 l1 := by unfold roAt; rw [if_pos (Nat.zero_le _)]; rfl
theorem roAt_done (first : Bool) (l0 l1 : List S70) (n : Nat) : roAt first l0 l1 n (n + 1) = [] := by unfold roAt; rw [if_neg (by omega)]
def place (first : Bool) (s t : ByteArray) (b : Bs) : Bs := if first = true then (b.onPut t).onKeep (s.size : Int) else (b.onKeep (s.size : Int)).onPut t
def onB (d e : Bool) (b : Bs) : Bs := if d = true then b else if e = true then b.onDrop 1 else b.onKeep 1
def oneN (d e : Bool) : Int := if d = true then 0 else if e = true then 0 else 1
theorem BG.place {first : Bool} {s t : ByteArray} {b : Bs} {m : Int} (h : BG b m) : BG (place first s t b) (m + (s.size : Int) + (t.size : Int)) := by
 unfold A.place
 split
 ·
  have := (h.put t).keep (n := (s.size : Int)) (by omega)
  rwa [show m + (t.size : Int) + (s.size : Int) = m + (s.size : Int) + (t.size : Int) by omega] at this
 ·
  exact (h.keep (n := (s.size : Int)) (by omega)).put t
theorem ro_round {first : Bool} {l0 l1 : List S70} {n p : Nat} (h0 : (DL l0).length = n) (h1 : (DL l1).length = n) (hp : p < n) (b : Bs) :
  (roAt first l0 l1 n p).foldl Bs.step b = (roAt first l0 l1 n (p + 1)).foldl Bs.step (onB (rdB (DL l0) (p : Int)) (rdB (DL l1) (p : Int)) (place first (rdS (PL l0) (p : Int)) (rdS (PL l1) (p : Int)) b)) := by
 unfold roAt
 rw [if_pos (by omega), if_pos (by omega), ref_round first (by omega) (by omega), fold_pieces, fold_one]
 rfl
theorem ro_end {first : Bool} {l0 l1 : List S70} {n : Nat} (h0 : (DL l0).length = n) (b : Bs) :
  (roAt first l0 l1 n n).foldl Bs.step b = place first (rdS (PL l0) (n : Int)) (rdS (PL l1) (n : Int)) b := by
 unfold roAt
 rw [if_pos (Nat.le_refl _), ref_last first (by omega), fold_pieces]
 rfl
theorem ro_to {first : Bool} {l0 l1 : List S70} {n p : Nat} (h0 : (DL l0).length = n) (h1 : (DL l1).length = n) (hp : p < n) :
  toOf (roAt first l0 l1 n p) = ((rdS (PL l0) (p : Int)).size : Int) + ((rdS (PL l1) (p : Int)).size : Int) + oneN (rdB (DL l0) (p : Int)) (rdB (DL l1) (p : Int)) + toOf (roAt first l0 l1 n (p + 1)) := by
 unfold roAt
 rw [if_pos (by omega), if_pos (by omega), to_round first (by omega) (by omega)]
 rfl
theorem ro_to_end {first : Bool} {l0 l1 : List S70} {n : Nat} (h0 : (DL l0).length = n) :
  toOf (roAt first l0 l1 n n) = ((rdS (PL l0) (n : Int)).size : Int) + ((rdS (PL l1) (n : Int)).size : Int) := by
 unfold roAt
 rw [if_pos (Nat.le_refl _), to_last first (by omega)]
theorem over_fin {l0 l1 : List S70} {first : Bool} {r1 : List S70} {r2 : Int} (h0 : canB l0 = true) (h1 : canB l1 = true) (hf : fromOf l0 = fromOf l1)
  (h : delta_Canon.f (overOps first (l0.length + l1.length + 1) l0 0 l1 0) = some (r1, r2)) :
  (toOf (roAll first l0 l1) ≤ 268435456 → r1 = ((roAll first l0 l1).foldl Bs.step Bs.new).done ∧ r2 = 0) ∧ (268435456 < toOf (roAll first l0 l1) → r1 = [] ∧ r2 = 5) := by
 have oka := chainOk_opOk (canB_lens h0).1
 have okb := chainOk_opOk (canB_lens h1).1
 obtain ⟨o1, o2⟩ := over_from first (l0.length + l1.length + 1) l0 l1 0 0 oka okb ⟨Int.le_refl 0, .inl rfl⟩ ⟨Int.le_refl 0, .inl rfl⟩ (by rw [cutH_zero, cutH_zero]; exact hf) (by omega)
 rw [cutH_zero] at o1
 have e := over_ref_all first h0 h1 hf
 have hto := (canB_lens h0).2.2
 unfold delta_Canon.f at h
 rw [if_pos (List.all_eq_true.mpr o2), o1, e.tto] at h
 have hok := refOps_ok first (DL l0) (DL l1) (PL l0) (PL l1)
 obtain ⟨c1, c2⟩ := canon_sem o2
 obtain ⟨d1, d2⟩ := canon_sem hok
 have heq : canon (overOps first (l0.length + l1.length + 1) l0 0 l1 0) = canon (roAll first l0 l1) := eqv_uniq c1 d1 ((c2.trans e).trans (symE d2))
 constructor
 ·
  intro hs
  rw [if_pos ⟨hto, hs⟩] at h
  simp only [Option.some.injEq, Prod.mk.injEq] at h
  exact ⟨by rw [← h.1, heq]; rfl, h.2.symm⟩
 ·
  intro hs
  rw [if_neg (fun hh => absurd hh.2 (by show ¬ toOf (roAll first l0 l1) ≤ 268435456; omega))] at h
  simp only [Option.some.injEq, Prod.mk.injEq] at h
  exact ⟨h.1.symm, h.2.symm⟩
theorem ne9_113 : ∀ q, q ∈ 9 :: Kd.string.E → q ≠ 113 := by intro q h; rw [show Kd.string.E = [] from rfl] at h; simp at h; omega
theorem ne4_113 : ∀ q, q ∈ 4 :: Kd.bool.E → q ≠ 113 := by intro q h; rw [show Kd.bool.E = [] from rfl] at h; simp at h; omega
end Go.Proofs.Ytidihnnkcmeaeaa.A
