/- The reference's Build does what the builder does; how much a place brings. Plain lists. No condition but canonical operations. -/
import Derived.Test.YtidihnnkcmeaeaaR2
import Derived.Test.YtidihnnkcmeaeaaHR
namespace Go.Proofs.Ytidihnnkcmeaeaa.A
open Go.RowKit Go.Proofs.YtidihnnkcmeaeaaW.PrintWords Go.Proofs.YtidihnnkcmeaeaaW.PrintLast
set_option linter.unusedVariables false
def rbOf (b : Bs) : Rb := ⟨b.out, b.put, b.drop⟩
theorem rbOf_done (b : Bs) : (rbOf b).done = b.done := rfl
theorem rbOf_put (b : Bs) (s : ByteArray) : (rbOf b).put s = rbOf (b.onPut s) := by
 unfold Bs.onPut rbOf Rb.put
 by_cases h : s.size = 0
 ·
  rw [if_pos h, noText_eq h, app_noText]
 ·
  rw [if_neg h]
theorem rbOf_drop {b : Bs} {n : Int} (hn : 0 ≤ n) : (rbOf b).dropN n = rbOf (b.onDrop n) := by
 unfold Bs.onDrop rbOf Rb.dropN
 by_cases h : 0 < n
 ·
  rw [if_pos h]
 ·
  rw [if_neg h, show n = 0 by omega, Int.add_zero]
theorem rd_last {l : List S70} {q : S70} : rd_T70 (l ++ [q]) ((((l ++ [q]).length - 1 : Nat)) : Int) = q := by
 simp [rd_T70]
theorem rflush_none (out : List S70) : (⟨out, noText, 0⟩ : Rb).flush = ⟨out, noText, 0⟩ := by
 have h1 : ¬ 0 < noText.size := by decide
 simp only [Rb.flush]
 rw [if_neg h1, if_neg (by decide), List.append_nil]
theorem rbOf_keep {b : Bs} {n : Int} (h : BW b) : (rbOf b).keep n = rbOf (b.onKeep n) := by
 by_cases hn : n = 0
 ·
  simp [Rb.keep, Bs.onKeep, hn]
 ·
  cases h with
  | zero =>
   have hfl : (rbOf ⟨[], 0, noText, 0⟩).flush.out = [] := by rw [show rbOf ⟨[], 0, noText, 0⟩ = ⟨[], noText, 0⟩ from rfl, rflush_none]
   unfold Rb.keep
   rw [if_neg hn, hfl, if_neg (by simp)]
   unfold Bs.onKeep
   rw [if_neg hn, if_neg (show ¬ (0 : Int) = 1 by decide), if_neg (show ¬ (0 : Int) = 2 by decide)]
   rfl
  | kept init m hm =>
   have hfl : (rbOf ⟨init ++ [(⟨1, m, noText⟩ : S70)], 1, noText, 0⟩).flush.out = init ++ [(⟨1, m, noText⟩ : S70)] := by
    rw [show rbOf ⟨init ++ [(⟨1, m, noText⟩ : S70)], 1, noText, 0⟩ = ⟨init ++ [(⟨1, m, noText⟩ : S70)], noText, 0⟩ from rfl, rflush_none]
   unfold Rb.keep
   rw [if_neg hn, hfl, if_pos ⟨by simp, by rw [rd_last]⟩]
   unfold Bs.onKeep
   rw [if_neg hn, if_pos rfl]
   rfl
  | chg out put drop ho hd hh =>
   have hfl : (rbOf ⟨out, 2, put, drop⟩).flush.out = (Bs.flush ⟨out, 2, put, drop⟩).out := rfl
   have hlast : ∀ q s, (Bs.flush ⟨out, 2, put, drop⟩).out = s ++ [q] → q.f0 ≠ 1 := by
    intro q s he
    unfold Bs.flush at he
    dsimp only at he
    by_cases h2 : 0 < drop
    ·
     rw [if_pos h2] at he
     have := (List.append_inj' he rfl).2
     injection this with h3
     rw [← h3]; show (3 : Int) ≠ 1; decide
    ·
     rw [if_neg h2, List.append_nil] at he
     have h1 : 0 < put.size := by rcases hh with h | h; exact h; exact absurd h h2
     rw [if_pos h1] at he
     have := (List.append_inj' he rfl).2
     injection this with h3
     rw [← h3]; show (2 : Int) ≠ 1; decide
   unfold Rb.keep
   rw [if_neg hn, hfl, if_neg (by
    rintro ⟨h1, h2⟩
    obtain ⟨s, q, hs⟩ : ∃ s q, (Bs.flush ⟨out, 2, put, drop⟩).out = s ++ [q] := ⟨_, _, (List.dropLast_concat_getLast h1).symm⟩
    rw [hs, rd_last] at h2
    exact hlast q s hs h2)]
   unfold Bs.onKeep
   rw [if_neg hn, if_neg (show ¬ (2 : Int) = 1 by decide), if_pos rfl]
   rfl
theorem bstep_put (b : Bs) (n : Int) (s : ByteArray) : b.step ⟨2, n, s⟩ = b.onPut s := by rw [Bs.step, if_pos rfl]
theorem bstep_keep (b : Bs) (n : Int) (s : ByteArray) : b.step ⟨1, n, s⟩ = b.onKeep n := by rw [Bs.step, if_neg (show ¬ (1 : Int) = 2 by decide), if_pos rfl]
theorem bstep_drop (b : Bs) (n : Int) (s : ByteArray) : b.step ⟨3, n, s⟩ = b.onDrop n := by rw [Bs.step, if_neg (show ¬ (3 : Int) = 2 by decide), if_neg (show ¬ (3 : Int) = 1 by decide)]
structure BG (b : Bs) (m : Int) : Prop where
 bk : BK b
 bi : BI b m
theorem BG.new : BG Bs.new 0 := ⟨BK.new, BI.new⟩
theorem BG.put {b : Bs} {m : Int} (h : BG b m) (s : ByteArray) : BG (b.onPut s) (m + (s.size : Int)) := by
 have := (step_eqv (o := ⟨2, 0, s⟩) h.bk rfl).1
 rw [bstep_put] at this
 exact ⟨this, h.bi.putS s⟩
theorem BG.keep {b : Bs} {m n : Int} (h : BG b m) (hn : 0 ≤ n) : BG (b.onKeep n) (m + n) := by
 have := (step_eqv (o := ⟨1, n, noText⟩) h.bk (by simp only [kindOk]; simp; exact hn)).1
 rw [bstep_keep] at this
 exact ⟨this, h.bi.keep hn⟩
theorem BG.drop {b : Bs} {m n : Int} (h : BG b m) (hn : 0 ≤ n) : BG (b.onDrop n) (m + n) := by
 have := (step_eqv (o := ⟨3, n, noText⟩) h.bk (by simp only [kindOk]; simp; exact hn)).1
 rw [bstep_drop] at this
 exact ⟨this, h.bi.dropN hn⟩
theorem BG.f1 {b : Bs} {m : Int} (h : BG b m) (hm : m ≤ 1000000000) : ∀ o ∈ b.out, o.f1 ≤ 1000000000 ∧ -1000000000 ≤ o.f1 := by
 intro o ho
 have h1 := (h.bi.each o ho).1
 have h2 := wts_mem h.bi.each o ho
 have h3 := h.bi.sum
 have h4 := h.bi.drop
 omega
theorem fold_pieces (first : Bool) (s t : ByteArray) (b : Bs) : (pieces first s t).foldl Bs.step b = if first = true then (b.onPut t).onKeep (s.size : Int) else (b.onKeep (s.size : Int)).onPut t := by
 unfold pieces
 split
 ·
  rw [List.foldl_cons, List.foldl_cons, List.foldl_nil, bstep_put, bstep_keep]
 ·
  rw [List.foldl_cons, List.foldl_cons, List.foldl_nil, bstep_put, bstep_keep]
theorem fold_one (d e : Bool) (b : Bs) : (oneB d e).foldl Bs.step b = if d = true then b else if e = true then b.onDrop 1 else b.onKeep 1 := by
 unfold oneB
 split
 ·
  rfl
 ·
  rw [List.foldl_cons, List.foldl_nil]
  split
  ·
   rw [bstep_drop]
  ·
   rw [bstep_keep]
def szs : List ByteArray → Int
 | [] => 0
 | s :: X => (s.size : Int) + szs X
theorem szs_nonneg : ∀ X : List ByteArray, 0 ≤ szs X
 | [] => Int.le_refl 0
 | s :: X => by have := szs_nonneg X; simp only [szs]; omega
theorem szs_append (X Y : List ByteArray) : szs (X ++ Y) = szs X + szs Y := by
 induction X with
 | nil => simp [szs]
 | cons s X ih => simp only [List.cons_append, szs, ih]; omega
theorem szs_none (n : Nat) : szs (List.replicate n noText) = 0 := by
 induction n with
 | zero => rfl
 | succ n ih => simp only [List.replicate_succ, szs, ih]; rfl
theorem szs_attach (s : ByteArray) (X : List ByteArray) : szs (attach s X) = (s.size : Int) + szs X := by
 cases X with
 | nil => simp only [attach, hd, szs, List.headD_nil, List.tail_nil, ByteArray.size_append]; rw [noText_size]; omega
 | cons t X => simp only [attach, hd, szs, List.headD_cons, List.tail_cons, ByteArray.size_append]; omega
theorem szs_PL : ∀ {d : List S70}, (∀ o ∈ d, opOk o = true) → szs (PL d) = txts d
 | [], _ => by simp only [PL, szs, txts]; rw [noText_size]; rfl
 | o :: d, h => by
  have ih := szs_PL (d := d) (fun p hp => h p (List.mem_cons_of_mem _ hp))
  rw [PL, txts]
  rcases opOk_cases (h o List.mem_cons_self) with ⟨k1, k2, k3⟩ | ⟨k1, k2, k3⟩
  ·
   rw [if_neg (by omega), szs_append, szs_none, ih, k3, noText_size]; omega
  ·
   rw [if_pos k1, szs_attach, ih]
theorem txts_le : ∀ {d : List S70}, (∀ o ∈ d, opOk o = true) → txts d ≤ toOf d
 | [], _ => Int.le_refl 0
 | o :: d, h => by
  have ih := txts_le (d := d) (fun p hp => h p (List.mem_cons_of_mem _ hp))
  rw [txts, toOf_cons]
  rcases opOk_cases (h o List.mem_cons_self) with ⟨k1, k2, k3⟩ | ⟨k1, k2, k3⟩
  ·
   rw [if_neg (by omega), k3, noText_size]; split <;> omega
  ·
   rw [if_pos k1]; omega
def rdS (X : List ByteArray) (i : Int) : ByteArray := X.getD i.toNat noText
def rdB (X : List Bool) (i : Int) : Bool := X.getD i.toNat false
theorem at_S {w : World} {A : Option Addr} {n : Nat} {X : List ByteArray} (h : Kd.C Kd.string w A n X) (i : Int) (h0 : 0 ≤ i) (h1 : i < n) : ∃ ad, A = some ad ∧ w.cell? (ad.add i.toNat) = some (.string (rdS X i)) := by
 obtain ⟨ad, c, e, _, hK, hc0⟩ := Kd.C_get h noText i h0 h1
 have hc : ∀ j u, c[j]? = some u → w.cell? (ad.add (i.toNat * 1 + j)) = some u := hc0
 obtain rfl : c = [.string (rdS X i)] := hK
 exact ⟨ad, e, by have := hc 0 _ rfl; rwa [Nat.mul_one, Nat.add_zero] at this⟩
theorem at_B {w : World} {A : Option Addr} {n : Nat} {X : List Bool} (h : Kd.C Kd.bool w A n X) (i : Int) (h0 : 0 ≤ i) (h1 : i < n) : ∃ ad, A = some ad ∧ w.cell? (ad.add i.toNat) = some (.bool (rdB X i)) := by
 obtain ⟨ad, c, e, _, hK, hc0⟩ := Kd.C_get h false i h0 h1
 have hc : ∀ j u, c[j]? = some u → w.cell? (ad.add (i.toNat * 1 + j)) = some u := hc0
 obtain rfl : c = [.bool (rdB X i)] := hK
 exact ⟨ad, e, by have := hc 0 _ rfl; rwa [Nat.mul_one, Nat.add_zero] at this⟩
theorem rdS_hd (X : List ByteArray) (p : Nat) : rdS X (p : Int) = hd (X.drop p) := by
 unfold rdS hd
 rw [Int.toNat_natCast]
 simp [List.getD_eq_getElem?_getD, List.headD_eq_head?_getD, List.head?_drop]
theorem rdB_drop {X : List Bool} {p : Nat} (h : p < X.length) : X.drop p = rdB X (p : Int) :: X.drop (p + 1) := by
 unfold rdB
 rw [Int.toNat_natCast, List.getD_eq_getElem?_getD, List.getElem?_eq_getElem h]
 exact List.drop_eq_getElem_cons h
theorem tail_drop (X : List ByteArray) (p : Nat) : (X.drop p).tail = X.drop (p + 1) := by
 rw [List.tail_drop]
theorem ref_round (first : Bool) {ds es : List Bool} {X Y : List ByteArray} {p : Nat} (hd_ : p < ds.length) (he : p < es.length) (b : Bs) :
  (refOps first (ds.drop p) (es.drop p) (X.drop p) (Y.drop p)).foldl Bs.step b =
   (refOps first (ds.drop (p + 1)) (es.drop (p + 1)) (X.drop (p + 1)) (Y.drop (p + 1))).foldl Bs.step
    ((oneB (rdB ds (p : Int)) (rdB es (p : Int))).foldl Bs.step ((pieces first (rdS X (p : Int)) (rdS Y (p : Int))).foldl Bs.step b)) := by
 rw [rdB_drop hd_, rdB_drop he, refOps, List.foldl_append, List.foldl_append, tail_drop, tail_drop, ← rdS_hd, ← rdS_hd]
theorem ref_last (first : Bool) {ds es : List Bool} {X Y : List ByteArray} {p : Nat} (hd_ : ds.length ≤ p) (b : Bs) :
  (refOps first (ds.drop p) (es.drop p) (X.drop p) (Y.drop p)).foldl Bs.step b = (pieces first (rdS X (p : Int)) (rdS Y (p : Int))).foldl Bs.step b := by
 rw [List.drop_eq_nil_of_le hd_, refOps, ← rdS_hd, ← rdS_hd]
theorem szs_drop {X : List ByteArray} {p : Nat} (h : p < X.length) : szs (X.drop p) = ((rdS X (p : Int)).size : Int) + szs (X.drop (p + 1)) := by
 have e : X.drop p = rdS X (p : Int) :: X.drop (p + 1) := by
  unfold rdS
  rw [Int.toNat_natCast, List.getD_eq_getElem?_getD, List.getElem?_eq_getElem h]
  exact List.drop_eq_getElem_cons h
 rw [e, szs]
theorem to_pieces (first : Bool) (s t : ByteArray) : toOf (pieces first s t) = (s.size : Int) + (t.size : Int) := by
 cases first with
 | true => simp [pieces, toOf]; omega
 | false => simp [pieces, toOf]
theorem to_one (d e : Bool) : toOf (oneB d e) = if d = true then 0 else if e = true then 0 else 1 := by
 cases d <;> cases e <;> rfl
theorem to_round (first : Bool) {ds es : List Bool} {X Y : List ByteArray} {p : Nat} (hd_ : p < ds.length) (he : p < es.length) :
  toOf (refOps first (ds.drop p) (es.drop p) (X.drop p) (Y.drop p)) = ((rdS X (p : Int)).size : Int) + ((rdS Y (p : Int)).size : Int) + (if rdB ds (p : Int) = true then 0 else if rdB es (p : Int) = true then 0 else 1) + toOf (refOps first (ds.drop (p + 1)) (es.drop (p + 1)) (X.drop (p + 1)) (Y.drop (p + 1))) := by
 rw [rdB_drop hd_, rdB_drop he, refOps, toOf_append, toOf_append, to_pieces, to_one, tail_drop, tail_drop, ← rdS_hd, ← rdS_hd]
 omega
theorem to_last (first : Bool) {ds es : List Bool} {X Y : List ByteArray} {p : Nat} (hd_ : ds.length ≤ p) :
  toOf (refOps first (ds.drop p) (es.drop p) (X.drop p) (Y.drop p)) = ((rdS X (p : Int)).size : Int) + ((rdS Y (p : Int)).size : Int) := by
 rw [List.drop_eq_nil_of_le hd_, refOps, to_pieces, ← rdS_hd, ← rdS_hd]
end Go.Proofs.Ytidihnnkcmeaeaa.A
