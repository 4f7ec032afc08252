/- galleyref13's add, Same, Lens in plain words: the builder is add, operation by operation. Plain lists. No condition but sizes. galleyref13's Valid in plain words. Plain lists. No condition but sizes. galleyref13's Compose in plain words: on canonical deltas that fit it is delta's. Plain lists. No condition but sizes that fit into memory. DeltaCompose in plain words: it answers true. Plain lists. No condition but sizes that fit into memory. -/
import Derived.Test.YtidihnnkcmeaeaaV0
import Derived.Test.YtidihnnkcmeaeaaA12
import Derived.Test.YtidihnnkcmeaeaaA11
import Derived.Test.YtidihnnkcmeaeaaEAwake
import Derived.Test.YtidihnnkcmeaeaaA10
import Derived.Test.YtidihnnkcmeaeaaECompose
import Derived.Test.YtidihnnkcmeaeaaA20
import Derived.Test.YtidihnnkcmeaeaaA21
namespace Go.Proofs.Ytidihnnkcmeaeaa.A
open Go.RowKit Go.Proofs.YtidihnnkcmeaeaaW.PrintWords Go.Proofs.YtidihnnkcmeaeaaW.PrintLast Go.Proofs.YtidihnnkcmeaeaaW.PrintMore
set_option linter.unusedVariables false
set_option linter.unusedSimpArgs false

theorem toList_nil_iff (s : ByteArray) : s.toList = ([] : List UInt8) ↔ s.size = 0 := by
  rw [ByteArray.toList_eq, Array.toList_eq_nil_iff]
  exact ⟨fun h => by show s.data.size = 0; rw [h]; rfl, fun h => Array.eq_empty_of_size_eq_zero h⟩
theorem rd_last (init : List S70) (o : S70) : rd_T70 (init ++ [o]) (init.length : Int) = o := rd_at init o []
theorem len_last (init : List S70) (o : S70) (h : init.length < 9000000000000) : wrap64 (((init ++ [o]).length : Int) - 1) = (init.length : Int) := by
  rw [List.length_append, List.length_singleton]
  unfold wrap64
  omega

/-- nothing is added -/
theorem add_skip (d : List S70) (kind n : Int) (text : ByteArray) (h : (kind = 2 ∧ text.size = 0) ∨ (kind ≠ 2 ∧ n = 0)) : Ev (fun k => galleyref13_add.f k d kind n text) d := by
  refine Ev.step (f := fun k => galleyref13_add.j0 k d kind n text true) (fun k => ?_) (Ev.step (f := fun _ => some d) (fun k => ?_) (Ev.now _))
  · rw [galleyref13_add.f]
    rcases h with ⟨h1, h2⟩ | ⟨h1, h2⟩
    · rw [if_pos h1, if_pos ((toList_nil_iff _).2 h2)]
    · rw [if_neg h1, h2]
      rfl
  · rw [galleyref13_add.j0, if_pos rfl]
def addGo (kind n : Int) (text : ByteArray) : Prop := (kind = 2 ∧ text.size ≠ 0) ∨ (kind ≠ 2 ∧ n ≠ 0)
theorem add_go {d : List S70} {kind n : Int} {text : ByteArray} (h : addGo kind n text) (k : Nat) : galleyref13_add.f (k + 1) d kind n text = galleyref13_add.j0 k d kind n text false := by
  rw [galleyref13_add.f]
  rcases h with ⟨h1, h2⟩ | ⟨h1, h2⟩
  · rw [if_pos h1, if_neg (fun e => h2 ((toList_nil_iff _).1 e))]
  · rw [if_neg h1, beq_eq_false_iff_ne.mpr h2]
def addOne (kind n : Int) (text : ByteArray) : S70 := if kind = 2 then ⟨2, 0, text⟩ else ⟨kind, n, noText⟩
/-- the last step, a new operation -/
theorem add_j2_new (x2 : Int) (x3 : ByteArray) (x1 x9 : Int) (d : List S70) (hl : d.length < 4398046511104) : Ev (fun k => galleyref13_add.j2 k x1 x2 x3 x9 d false) (d ++ [addOne x1 x2 x3]) := by
  refine Ev.step (f := fun _ => some (d ++ [addOne x1 x2 x3])) (fun k => ?_) (Ev.now _)
  rw [galleyref13_add.j2, if_neg (by decide)]
  unfold addOne
  by_cases h : x1 = 2
  · rw [if_pos h, if_pos hl, if_pos h]
  · rw [if_neg h, if_pos hl, if_neg h]
theorem add_j2_same (x2 : Int) (x3 : ByteArray) (x1 : Int) (init : List S70) (o : S70) (h0 : o.f2.size + x3.size ≤ 9223372036854775807) : Ev (fun k => galleyref13_add.j2 k x1 x2 x3 (init.length : Int) (init ++ [o]) true) (init ++ [⟨o.f0, wrap64 (o.f1 + x2), o.f2 ++ x3⟩]) := by
  refine Ev.step (f := fun _ => some (init ++ [⟨o.f0, wrap64 (o.f1 + x2), o.f2 ++ x3⟩])) (fun k => ?_) (Ev.now _)
  rw [galleyref13_add.j2, if_pos rfl, if_pos (by omega), if_pos (by rw [List.length_append, List.length_singleton]; omega), rd_last, Int.toNat_natCast]
  have hs : ∀ x : S70, (init ++ [o]).set init.length x = init ++ [x] := fun x => by
    rw [List.set_append_right _ _ (Nat.le_refl _), Nat.sub_self]
    rfl
  rw [hs, Option.bind_some, rd_last]
  rw [if_pos h0]
  rw [List.set_append_right _ _ (Nat.le_refl _), Nat.sub_self]
  rfl
theorem add_j1_go {x0 : List S70} {x1 x2 x9 : Int} {x3 : ByteArray} (hl : x0.length < 4398046511104) (hx : x9 < 0 ∨ (0 ≤ x9 ∧ x9 < (x0.length : Int))) (k : Nat) : galleyref13_add.j1 (k + 1) x0 x1 x2 x3 x9 false = galleyref13_add.j2 k x1 x2 x3 x9 x0 (decide (0 ≤ x9) && ((rd_T70 x0 x9).f0 == x1)) := by
  rw [galleyref13_add.j1, if_neg (by decide), Option.bind_some, List.nil_append, if_pos (by simpa using hl), Option.bind_some]
  rcases hx with hx | ⟨h0, h1⟩
  · rw [if_neg (by omega), decide_eq_false (by omega), Bool.false_and]
  · rw [if_pos h0, if_pos h0, if_pos h1, decide_eq_true h0, Bool.true_and]
/-- to an empty list -/
theorem add_nil {kind n : Int} {text : ByteArray} (h : addGo kind n text) : Ev (fun k => galleyref13_add.f k [] kind n text) [addOne kind n text] := by
  refine Ev.step (fun k => add_go h k) ?_
  have hw : wrap64 (((([] : List S70).length : Int)) - 1) = -1 := by rw [List.length_nil]; unfold wrap64; omega
  refine Ev.step (f := fun k => galleyref13_add.j1 k [] kind n text (-1) false) (fun k => ?_) ?_
  · rw [galleyref13_add.j0, if_neg (by decide), hw]
    split
    · rw [if_neg (by decide)]
    · rfl
  · refine Ev.step (fun k => add_j1_go (by simp) (.inl (by decide)) k) ?_
    have := add_j2_new n text kind (-1) [] (by simp)
    exact this
/-- behind an operation of another kind -/
theorem add_other {init : List S70} {o : S70} {kind n : Int} {text : ByteArray} (h : addGo kind n text) (hl : init.length < 4000000000000) (h1 : o.f0 ≠ kind) (h2 : ¬ (kind = 2 ∧ o.f0 = 3)) : Ev (fun k => galleyref13_add.f k (init ++ [o]) kind n text) (init ++ [o] ++ [addOne kind n text]) := by
  refine Ev.step (fun k => add_go h k) ?_
  have hw := len_last init o (by omega)
  have hll : (init ++ [o]).length = init.length + 1 := by simp
  refine Ev.step (f := fun k => galleyref13_add.j1 k (init ++ [o]) kind n text (init.length : Int) false) (fun k => ?_) ?_
  · rw [galleyref13_add.j0, if_neg (by decide), hw]
    by_cases hk : kind = 2
    · rw [if_pos hk, if_pos (by omega), if_pos (by omega), if_pos (by omega), rd_last, beq_eq_false_iff_ne.mpr (fun e => h2 ⟨hk, e⟩)]
    · rw [if_neg hk]
  · refine Ev.step (fun k => add_j1_go (by omega) (.inr ⟨by omega, by omega⟩) k) ?_
    rw [rd_last, beq_eq_false_iff_ne.mpr h1, Bool.and_false]
    exact add_j2_new n text kind _ _ (by omega)
/-- behind one of its kind -/
theorem add_same {init : List S70} {o : S70} {kind n : Int} {text : ByteArray} (h : addGo kind n text) (hl : init.length < 4000000000000) (h1 : o.f0 = kind) (h0 : o.f2.size + text.size ≤ 9223372036854775807) : Ev (fun k => galleyref13_add.f k (init ++ [o]) kind n text) (init ++ [⟨kind, wrap64 (o.f1 + n), o.f2 ++ text⟩]) := by
  refine Ev.step (fun k => add_go h k) ?_
  have hw := len_last init o (by omega)
  have hll : (init ++ [o]).length = init.length + 1 := by simp
  refine Ev.step (f := fun k => galleyref13_add.j1 k (init ++ [o]) kind n text (init.length : Int) false) (fun k => ?_) ?_
  · rw [galleyref13_add.j0, if_neg (by decide), hw]
    by_cases hk : kind = 2
    · rw [if_pos hk, if_pos (by omega), if_pos (by omega), if_pos (by omega), rd_last, beq_eq_false_iff_ne.mpr (by omega)]
    · rw [if_neg hk]
  · refine Ev.step (fun k => add_j1_go (by omega) (.inr ⟨by omega, by omega⟩) k) ?_
    rw [rd_last, beq_iff_eq.mpr h1, decide_eq_true (by omega)]
    have := add_j2_same n text kind init o h0
    rw [h1] at this
    exact this
/-- a text behind what is dropped -/
theorem add_under {init r : List S70} {o : S70} {n : Int} {text : ByteArray} (h : addGo 2 n text) (hl : init.length < 4000000000000) (h1 : o.f0 = 3) (hr : Ev (fun k => galleyref13_add.f k init 2 0 text) r) (hrl : r.length < 4398046511104) : Ev (fun k => galleyref13_add.f k (init ++ [o]) 2 n text) (r ++ [⟨3, o.f1, noText⟩]) := by
  refine Ev.step (fun k => add_go h k) ?_
  have hw := len_last init o (by omega)
  have hll : (init ++ [o]).length = init.length + 1 := by simp
  refine Ev.step (f := fun k => galleyref13_add.j1 k (init ++ [o]) 2 n text (init.length : Int) true) (fun k => ?_) ?_
  · rw [galleyref13_add.j0, if_neg (by decide), hw]
    rw [if_pos rfl, if_pos (by omega), if_pos (by omega), if_pos (by omega), rd_last, beq_iff_eq.mpr h1]
  · refine Ev.step (f := fun k => (galleyref13_add.f k init 2 0 text).bind fun t => (if t.length < 4398046511104 then (some (t ++ [(⟨3, o.f1, (⟨#[]⟩ : ByteArray)⟩ : S70)])) else (none))) (fun k => ?_) ?_
    · rw [galleyref13_add.j1, if_pos rfl, if_pos (by omega), if_pos (by omega), Option.bind_some, if_pos (by omega), Option.bind_some, List.nil_append, rd_last, Int.toNat_natCast, List.take_left']
      · rw [if_pos (by simp; omega)]
      · rfl
    · refine Ev.bind hr ?_
      rw [if_pos hrl]
      exact Ev.now _

/-- what a builder has written ends in a Keep, or is nothing -/
def KEnd (l : List S70) : Prop := l = [] ∨ ∃ init m, l = init ++ [(⟨1, m, noText⟩ : S70)]
/-- a builder's three states -/
inductive BW : Bs → Prop
  | zero : BW ⟨[], 0, noText, 0⟩
  | kept (init : List S70) (m : Int) (hm : 0 ≤ m) : BW ⟨init ++ [(⟨1, m, noText⟩ : S70)], 1, noText, 0⟩
  | chg (out : List S70) (put : ByteArray) (drop : Int) (ho : KEnd out) (hd : 0 ≤ drop) (h : 0 < put.size ∨ 0 < drop) : BW ⟨out, 2, put, drop⟩
theorem size_nil_append (s : ByteArray) : noText ++ s = s := by
  apply ByteArray.ext
  simp [noText]
theorem size_append_nil (s : ByteArray) : s ++ noText = s := by
  apply ByteArray.ext
  simp [noText]
theorem done_zero : Bs.done ⟨[], 0, noText, 0⟩ = [] := by
  unfold Bs.done Bs.flush
  simp only [noText_size]
  rfl
theorem done_kept (l : List S70) : Bs.done ⟨l, 1, noText, 0⟩ = l := by
  unfold Bs.done Bs.flush
  simp only [noText_size]
  simp
/-- add behind what ends in a Keep, or nothing -/
theorem add_kend {l : List S70} {kind n : Int} {text : ByteArray} (h : addGo kind n text) (hl : l.length < 4000000000000) (hk : KEnd l) (h1 : kind ≠ 1) : Ev (fun k => galleyref13_add.f k l kind n text) (l ++ [addOne kind n text]) := by
  rcases hk with rfl | ⟨init, m, rfl⟩
  · exact add_nil h
  · rw [List.length_append, List.length_singleton] at hl
    exact add_other h (by omega) (fun e => h1 e.symm) (fun e => by have := e.2; simp at this)
theorem done_chg (out : List S70) (put : ByteArray) (drop : Int) : Bs.done ⟨out, 2, put, drop⟩ = (if 0 < put.size then out ++ [(⟨2, 0, put⟩ : S70)] else out) ++ (if 0 < drop then [(⟨3, drop, noText⟩ : S70)] else []) := rfl
theorem done_len (b : Bs) : b.done.length ≤ b.out.length + 2 := by
  unfold Bs.done Bs.flush
  simp only [List.length_append]
  split <;> split <;> simp <;> omega
theorem add_keep {b : Bs} {n : Int} (hw : BW b) (hn : 0 ≤ n) (hb : BI b 3000000000) (hn2 : n ≤ 3000000000) : BW (b.onKeep n) ∧ Ev (fun k => galleyref13_add.f k b.done 1 n noText) (b.onKeep n).done := by
  by_cases h0 : n = 0
  · have : b.onKeep n = b := by simp [Bs.onKeep, h0]
    rw [this]
    exact ⟨hw, add_skip _ _ _ _ (.inr ⟨by decide, h0⟩)⟩
  · have hgo : addGo 1 n noText := .inr ⟨by decide, h0⟩
    have hone : addOne 1 n noText = (⟨1, n, noText⟩ : S70) := rfl
    have hlen := hb.len
    cases hw with
    | zero =>
      have he : Bs.onKeep ⟨[], 0, noText, 0⟩ n = ⟨[] ++ [(⟨1, n, noText⟩ : S70)], 1, noText, 0⟩ := by simp [Bs.onKeep, h0]
      rw [he, done_zero, done_kept]
      exact ⟨BW.kept [] n hn, by have := add_nil hgo; exact this⟩
    | kept init m hm =>
      have hl1 := (hb.lastN rfl).2.2
      have hlast : rd_T70 (init ++ [(⟨1, m, noText⟩ : S70)]) (((init ++ [(⟨1, m, noText⟩ : S70)]).length - 1 : Nat) : Int) = ⟨1, m, noText⟩ := by
        rw [List.length_append, List.length_singleton, Nat.add_sub_cancel]
        exact rd_last _ _
      rw [hlast] at hl1
      have hm3 : m ≤ 3000000000 := hl1
      have hg : growLast (init ++ [(⟨1, m, noText⟩ : S70)]) n = init ++ [(⟨1, m + n, noText⟩ : S70)] := by
        unfold growLast
        rw [List.length_append, List.length_singleton, Nat.add_sub_cancel]
        have hx : (init ++ [(⟨1, m, noText⟩ : S70)]).getD init.length z70 = ⟨1, m, noText⟩ := by
          have := rd_last init (⟨1, m, noText⟩ : S70)
          unfold rd_T70 at this
          rwa [Int.toNat_natCast] at this
        rw [hx, List.set_append_right _ _ (Nat.le_refl _), Nat.sub_self]
        rfl
      have he : Bs.onKeep ⟨init ++ [(⟨1, m, noText⟩ : S70)], 1, noText, 0⟩ n = ⟨init ++ [(⟨1, m + n, noText⟩ : S70)], 1, noText, 0⟩ := by
        simp only [Bs.onKeep, if_neg h0, if_true, hg]
      rw [he, done_kept, done_kept]
      refine ⟨BW.kept init (m + n) (by omega), ?_⟩
      simp only [List.length_append, List.length_singleton] at hlen
      have := add_same (init := init) (o := (⟨1, m, noText⟩ : S70)) hgo (by omega) rfl (by simp only [noText_size]; decide)
      rw [show wrap64 (m + n) = m + n by unfold wrap64; omega] at this
      rw [size_append_nil] at this
      exact this
    | chg out put drop ho hd h =>
      have he : Bs.onKeep ⟨out, 2, put, drop⟩ n = ⟨Bs.done ⟨out, 2, put, drop⟩ ++ [(⟨1, n, noText⟩ : S70)], 1, noText, 0⟩ := by
        simp only [Bs.onKeep, if_neg h0, Bs.done]
        simp
      rw [he, done_kept]
      refine ⟨BW.kept _ n hn, ?_⟩
      have hlen' : (out.length : Int) ≤ 3000000000 := hlen
      rw [done_chg]
      by_cases hdp : 0 < drop
      · rw [if_pos hdp]
        have hll : (if 0 < put.size then out ++ [(⟨2, 0, put⟩ : S70)] else out).length ≤ out.length + 1 := by split <;> simp
        exact add_other hgo (by omega) (show (3 : Int) ≠ 1 by decide) (fun e => absurd e.1 (by decide))
      · have hp : 0 < put.size := by omega
        rw [if_neg hdp, if_pos hp, List.append_nil]
        exact add_other hgo (by omega) (show (2 : Int) ≠ 1 by decide) (fun e => absurd e.1 (by decide))
theorem add_drop {b : Bs} {n : Int} (hw : BW b) (hn : 0 ≤ n) (hb : BI b 3000000000) (hn2 : n ≤ 3000000000) : BW (b.onDrop n) ∧ Ev (fun k => galleyref13_add.f k b.done 3 n noText) (b.onDrop n).done := by
  by_cases h0 : n = 0
  · have : b.onDrop n = b := by simp [Bs.onDrop, h0]
    rw [this]
    exact ⟨hw, add_skip _ _ _ _ (.inr ⟨by decide, h0⟩)⟩
  · have hgo : addGo 3 n noText := .inr ⟨by decide, h0⟩
    have hone : addOne 3 n noText = (⟨3, n, noText⟩ : S70) := rfl
    have hlen := hb.len
    have hpos : 0 < n := by omega
    cases hw with
    | zero =>
      have he : Bs.onDrop ⟨[], 0, noText, 0⟩ n = ⟨[], 2, noText, 0 + n⟩ := by simp [Bs.onDrop, hpos]
      rw [he, done_zero, done_chg, if_neg (by rw [noText_size]; omega), if_pos (by omega), Int.zero_add]
      exact ⟨BW.chg [] noText n (.inl rfl) hn (.inr hpos), add_nil hgo⟩
    | kept init m hm =>
      have he : Bs.onDrop ⟨init ++ [(⟨1, m, noText⟩ : S70)], 1, noText, 0⟩ n = ⟨init ++ [(⟨1, m, noText⟩ : S70)], 2, noText, 0 + n⟩ := by simp [Bs.onDrop, hpos]
      rw [he, done_kept, done_chg, if_neg (by rw [noText_size]; omega), if_pos (by omega), Int.zero_add]
      have hl2 : ((init ++ [(⟨1, m, noText⟩ : S70)]).length : Int) ≤ 3000000000 := hlen
      exact ⟨BW.chg _ noText n (.inr ⟨init, m, rfl⟩) hn (.inr hpos), add_kend hgo (by omega) (.inr ⟨init, m, rfl⟩) (by decide)⟩
    | chg out put drop ho hd h =>
      have he : Bs.onDrop ⟨out, 2, put, drop⟩ n = ⟨out, 2, put, drop + n⟩ := by simp [Bs.onDrop, hpos]
      have hlen' : (out.length : Int) ≤ 3000000000 := hlen
      have hdl : drop ≤ 3000000000 := hb.drop_le
      rw [he, done_chg, done_chg, if_pos (show 0 < drop + n by omega)]
      refine ⟨BW.chg out put (drop + n) ho (by omega) (.inr (by omega)), ?_⟩
      have hll : (if 0 < put.size then out ++ [(⟨2, 0, put⟩ : S70)] else out).length ≤ out.length + 1 := by split <;> simp
      by_cases hdp : 0 < drop
      · rw [if_pos hdp]
        have := add_same (init := if 0 < put.size then out ++ [(⟨2, 0, put⟩ : S70)] else out) (o := (⟨3, drop, noText⟩ : S70)) hgo (by omega) rfl (by simp only [noText_size]; decide)
        rw [show wrap64 (drop + n) = drop + n by unfold wrap64; omega] at this
        rw [size_append_nil] at this
        exact this
      · have hp : 0 < put.size := by omega
        have hz : drop = 0 := by omega
        rw [if_neg hdp, if_pos hp, List.append_nil, hz, Int.zero_add]
        exact add_other (init := out) (o := (⟨2, 0, put⟩ : S70)) hgo (by omega) (show (2 : Int) ≠ 3 by decide) (fun e => absurd e.1 (by decide))
theorem add_put {b : Bs} {s : ByteArray} (hw : BW b) (hb : BI b 3000000000) (hs : s.size ≤ 3000000000) : BW (b.onPut s) ∧ Ev (fun k => galleyref13_add.f k b.done 2 0 s) (b.onPut s).done := by
  by_cases h0 : s.size = 0
  · have : b.onPut s = b := by simp [Bs.onPut, h0]
    rw [this]
    exact ⟨hw, add_skip _ _ _ _ (.inl ⟨rfl, h0⟩)⟩
  · have hgo : addGo 2 0 s := .inl ⟨rfl, h0⟩
    have hone : addOne 2 0 s = (⟨2, 0, s⟩ : S70) := rfl
    have hlen := hb.len
    have hpos : 0 < s.size := by omega
    cases hw with
    | zero =>
      have he : Bs.onPut ⟨[], 0, noText, 0⟩ s = ⟨[], 2, noText ++ s, 0⟩ := by simp only [Bs.onPut, if_neg h0]
      rw [he, size_nil_append, done_zero, done_chg, if_pos hpos, if_neg (by omega), List.append_nil]
      exact ⟨BW.chg [] s 0 (.inl rfl) (Int.le_refl 0) (.inl hpos), add_nil hgo⟩
    | kept init m hm =>
      have he : Bs.onPut ⟨init ++ [(⟨1, m, noText⟩ : S70)], 1, noText, 0⟩ s = ⟨init ++ [(⟨1, m, noText⟩ : S70)], 2, noText ++ s, 0⟩ := by simp only [Bs.onPut, if_neg h0]
      rw [he, size_nil_append, done_kept, done_chg, if_pos hpos, if_neg (by omega), List.append_nil]
      have hl2 : ((init ++ [(⟨1, m, noText⟩ : S70)]).length : Int) ≤ 3000000000 := hlen
      exact ⟨BW.chg _ s 0 (.inr ⟨init, m, rfl⟩) (Int.le_refl 0) (.inl hpos), add_kend hgo (by omega) (.inr ⟨init, m, rfl⟩) (by decide)⟩
    | chg out put drop ho hd h =>
      have he : Bs.onPut ⟨out, 2, put, drop⟩ s = ⟨out, 2, put ++ s, drop⟩ := by simp only [Bs.onPut, if_neg h0]
      have hlen' : (out.length : Int) ≤ 3000000000 := hlen
      have hps : (put.size : Int) ≤ 3000000000 := hb.put_le
      have hsz : 0 < (put ++ s).size := by rw [ByteArray.size_append]; omega
      rw [he, done_chg, done_chg, if_pos hsz]
      refine ⟨BW.chg out (put ++ s) drop ho hd (.inl hsz), ?_⟩
      have hbase : Ev (fun k => galleyref13_add.f k (if 0 < put.size then out ++ [(⟨2, 0, put⟩ : S70)] else out) 2 0 s) (out ++ [(⟨2, 0, put ++ s⟩ : S70)]) := by
        by_cases hp : 0 < put.size
        · rw [if_pos hp]
          have := add_same (init := out) (o := (⟨2, 0, put⟩ : S70)) hgo (by omega) rfl (by show put.size + s.size ≤ _; omega)
          have h2 : Ev (fun k => galleyref13_add.f k (out ++ [(⟨2, 0, put⟩ : S70)]) 2 0 s) (out ++ [(⟨2, wrap64 (0 + 0), put ++ s⟩ : S70)]) := this
          rw [show wrap64 (0 + 0) = 0 by unfold wrap64; omega] at h2
          exact h2
        · rw [if_neg hp]
          have hz : put = noText := noText_eq (by omega)
          rw [hz, size_nil_append]
          exact add_kend hgo (by omega) ho (by decide)
      by_cases hdp : 0 < drop
      · rw [if_pos hdp]
        have hll : (if 0 < put.size then out ++ [(⟨2, 0, put⟩ : S70)] else out).length ≤ out.length + 1 := by split <;> simp
        exact add_under (o := (⟨3, drop, noText⟩ : S70)) hgo (by omega) rfl hbase (by rw [List.length_append, List.length_singleton]; omega)
      · rw [if_neg hdp, List.append_nil, List.append_nil]
        exact hbase

theorem toList_inj {s t : ByteArray} : s.toList = t.toList ↔ s = t := by
  rw [ByteArray.toList_eq, ByteArray.toList_eq]
  constructor
  · intro h
    exact ByteArray.ext (Array.toList_inj.1 h)
  · intro h; rw [h]
theorem eq70 (a b : S70) : (!(a.f0 == b.f0) || (!(a.f1 == b.f1) || (!(a.f2.toList == b.f2.toList)))) = false ↔ a = b := by
  simp only [Bool.or_eq_false_iff, Bool.not_eq_false', beq_iff_eq, toList_inj]
  constructor
  · rintro ⟨h1, h2, h3⟩
    cases a; cases b
    simp only at h1 h2 h3
    rw [h1, h2, h3]
  · intro h; rw [h]; exact ⟨rfl, rfl, rfl⟩
theorem same_from : ∀ (rest rest' pre pre' : List S70), pre.length = pre'.length → rest.length = rest'.length → (pre ++ rest).length ≤ 9223372036854775807 → ∃ r : Bool, (r = true ↔ rest = rest') ∧ Ev (fun k => galleyref13_Same.l0 k (pre ++ rest) (pre' ++ rest') (pre.length : Int)) r
  | [], [], pre, pre', hp, hr, hl => ⟨true, by simp, by
    refine Ev.step (f := fun _ => some true) (fun k => ?_) (Ev.now _)
    rw [galleyref13_Same.l0, if_neg (by simp)]⟩
  | [], b :: rest', pre, pre', hp, hr, hl => by simp at hr
  | a :: rest, [], pre, pre', hp, hr, hl => by simp at hr
  | a :: rest, b :: rest', pre, pre', hp, hr, hl => by
    have hrd := rd_at pre a rest
    have hrd' := rd_at pre' b rest'
    have hlt : (pre.length : Int) < ((pre ++ a :: rest).length : Int) := by simp; omega
    have hlt' : (pre.length : Int) < ((pre' ++ b :: rest').length : Int) := by simp; omega
    have hw := wrap_succ (i := pre.length) (n := (pre ++ a :: rest).length) (by simp) hl
    have hstep : ∀ k, galleyref13_Same.l0 (k + 1) (pre ++ a :: rest) (pre' ++ b :: rest') (pre.length : Int) = if (!(a.f0 == b.f0) || (!(a.f1 == b.f1) || (!(a.f2.toList == b.f2.toList)))) = true then some false else galleyref13_Same.l0 k (pre ++ a :: rest) (pre' ++ b :: rest') ((pre.length + 1 : Nat) : Int) := fun k => by
      rw [galleyref13_Same.l0, if_pos hlt, if_pos (by omega), if_pos hlt', hrd, hp, hrd', ← hp, hw]
    by_cases hab : a = b
    · obtain ⟨r, h1, h2⟩ := same_from rest rest' (pre ++ [a]) (pre' ++ [b]) (by simp [hp]) (by simpa using hr) (by simpa using hl)
      refine ⟨r, by rw [h1, hab]; simp, ?_⟩
      have he := (eq70 a b).2 hab
      refine Ev.step (f := fun k => galleyref13_Same.l0 k (pre ++ a :: rest) (pre' ++ b :: rest') ((pre.length + 1 : Nat) : Int)) (fun k => ?_) ?_
      · rw [hstep, he, if_neg (by decide)]
      · simpa using h2
    · refine ⟨false, by simp [hab], ?_⟩
      have he : (!(a.f0 == b.f0) || (!(a.f1 == b.f1) || (!(a.f2.toList == b.f2.toList)))) = true := by
        cases h : (!(a.f0 == b.f0) || (!(a.f1 == b.f1) || (!(a.f2.toList == b.f2.toList)))) with
        | true => rfl
        | false => exact absurd ((eq70 a b).1 h) hab
      refine Ev.step (f := fun _ => some false) (fun k => ?_) (Ev.now _)
      rw [hstep, he, if_pos rfl]
theorem same_ev (a b : List S70) (hl : a.length ≤ 9223372036854775807) : ∃ r : Bool, (r = true ↔ a = b) ∧ Ev (fun k => galleylaw13_same.f k a b) r := by
  by_cases he : a.length = b.length
  · obtain ⟨r, h1, h2⟩ := same_from a b [] [] rfl he (by simpa using hl)
    refine ⟨r, h1, ?_⟩
    refine Ev.bind (g := fun k => galleyref13_Same.f k a b) ?_ (Ev.now _)
    refine Ev.congr (fun k => ?_) h2
    rw [galleyref13_Same.f, if_pos (by omega)]
    rfl
  · refine ⟨false, by simp only [Bool.false_eq_true, false_iff]; intro e; exact he (by rw [e]), ?_⟩
    refine Ev.bind (g := fun k => galleyref13_Same.f k a b) ?_ (Ev.now _)
    refine Ev.congr (f := fun _ => some false) (fun k => ?_) (Ev.now _)
    rw [galleyref13_Same.f, if_neg (by omega)]
/-- the same of itself -/
theorem same_self (a : List S70) (hl : a.length ≤ 9223372036854775807) : Ev (fun k => galleylaw13_same.f k a a) true := by
  obtain ⟨r, h1, h2⟩ := same_ev a a hl
  rw [h1.2 rfl] at h2
  exact h2

theorem refLens_from (rest : List S70) : ∀ (pre : List S70) (x4 x5 : Int), (pre ++ rest).length ≤ 9223372036854775807 → 0 ≤ x4 → 0 ≤ x5 → x4 + fromOf rest ≤ 268435456 → x5 + toOf rest ≤ 268435456 → (∀ o ∈ rest, kindOk o = true) →
    Ev (fun k => galleyref13_Lens.l0 k (pre ++ rest) x4 x5 (pre.length : Int)) (x4 + fromOf rest, x5 + toOf rest) := by
  induction rest with
  | nil =>
    intro pre x4 x5 hl h4 h5 h6 h7 hp
    refine Ev.step (f := fun _ => some (x4 + fromOf [], x5 + toOf [])) (fun k => ?_) (Ev.now _)
    rw [galleyref13_Lens.l0, if_neg (by simp)]
    simp [fromOf, toOf]
  | cons o rest ih =>
    intro pre x4 x5 hl h4 h5 h6 h7 hp
    have hrd := rd_at pre o rest
    have hlt : (pre.length : Int) < ((pre ++ o :: rest).length : Int) := by simp; omega
    have hko := hp o List.mem_cons_self
    have hpo := kindOk_posN hko
    have hpr : ∀ x ∈ rest, kindOk x = true := fun x hx => hp x (List.mem_cons_of_mem _ hx)
    have hf := fromOf_nonneg (d := rest) (fun x hx => kindOk_posN (hpr x hx))
    have ht := toOf_nonneg (d := rest) (fun x hx => kindOk_posN (hpr x hx))
    have hw := wrap_succ (i := pre.length) (n := (pre ++ o :: rest).length) (by simp) hl
    have hih := fun y2 y3 => ih (pre ++ [o]) y2 y3 (by simpa using hl)
    simp only [List.append_assoc, List.singleton_append] at hih
    have hpl : ((pre ++ [o]).length : Int) = ((pre.length + 1 : Nat) : Int) := by simp
    rw [hpl] at hih
    rw [fromOf_cons] at h6
    rw [toOf_cons] at h7
    rw [fromOf_cons, toOf_cons]
    have hstep : ∀ k, galleyref13_Lens.l0 (k + 1) (pre ++ o :: rest) x4 x5 (pre.length : Int) = if o.f0 = 1 then galleyref13_Lens.l0 k (pre ++ o :: rest) (wrap64 (x4 + o.f1)) (wrap64 (x5 + o.f1)) ((pre.length + 1 : Nat) : Int) else if o.f0 = 3 then galleyref13_Lens.l0 k (pre ++ o :: rest) (wrap64 (x4 + o.f1)) x5 ((pre.length + 1 : Nat) : Int) else galleyref13_Lens.l0 k (pre ++ o :: rest) x4 (wrap64 (x5 + (o.f2.size : Int))) ((pre.length + 1 : Nat) : Int) := fun k => by
      rw [galleyref13_Lens.l0, if_pos hlt, if_pos (by omega), hrd, hw]
    by_cases c2 : o.f0 = 2
    · rw [if_pos c2] at h6 h7
      rw [if_pos c2, if_pos c2]
      refine Ev.step (fun k => by rw [hstep, if_neg (by omega), if_neg (by omega), wrap_in (by omega) (by omega)]) ?_
      rw [Int.zero_add, ← Int.add_assoc]
      exact hih x4 (x5 + (o.f2.size : Int)) h4 (by omega) (by omega) (by omega) hpr
    · have hn := hpo c2
      rw [if_neg c2] at h6 h7
      rw [if_neg c2, if_neg c2]
      by_cases c3 : o.f0 = 3
      · rw [if_pos c3] at h7
        rw [if_pos c3]
        refine Ev.step (fun k => by rw [hstep, if_neg (by omega), if_pos c3, wrap_in (by omega) (by omega)]) ?_
        rw [Int.zero_add, ← Int.add_assoc]
        exact hih (x4 + o.f1) x5 (by omega) h5 (by omega) (by omega) hpr
      · have c1 : o.f0 = 1 := by
          simp only [kindOk, Bool.and_eq_true, decide_eq_true_eq] at hko
          omega
        rw [if_neg c3] at h7
        rw [if_neg c3]
        refine Ev.step (fun k => by rw [hstep, if_pos c1, wrap_in (by omega) (by omega), wrap_in (by omega) (by omega)]) ?_
        rw [← Int.add_assoc, ← Int.add_assoc]
        exact hih (x4 + o.f1) (x5 + o.f1) (by omega) (by omega) (by omega) (by omega) hpr
theorem refLens_ev {d : List S70} (hl : d.length ≤ 9223372036854775807) (h : canB d = true) : Ev (fun k => galleyref13_Lens.f k d) (fromOf d, toOf d) := by
  have hc := canB_lens h
  have := refLens_from d [] 0 0 (by simpa using hl) (by omega) (by omega) (by omega) (by omega) (fun o ho => opOk_kindOk (chainOk_opOk hc.1 o ho))
  simpa [galleyref13_Lens.f] using this

/-- one operation -/
theorem add_step {b : Bs} {o : S70} {n : Int} {s : ByteArray} (hw : BW b) (hb : BI b 3000000000) (hk : kindOk o = true) (hn : n = if o.f0 = 2 then 0 else o.f1) (hs : s = if o.f0 = 2 then o.f2 else noText) (hn2 : n ≤ 3000000000) (hs2 : s.size ≤ 3000000000) : BW (b.step o) ∧ Ev (fun k => galleyref13_add.f k b.done o.f0 n s) (b.step o).done := by
  have hpo := kindOk_posN hk
  unfold Bs.step
  by_cases c2 : o.f0 = 2
  · rw [if_pos c2] at hn hs
    rw [if_pos c2, hn, hs, c2]
    rw [hs] at hs2
    exact add_put hw hb hs2
  · have h0 := hpo c2
    rw [if_neg c2] at hn hs
    rw [if_neg c2]
    rw [hn] at hn2
    by_cases c1 : o.f0 = 1
    · rw [if_pos c1, hn, hs, c1]
      exact add_keep hw h0 hb hn2
    · have c3 : o.f0 = 3 := by
        simp only [kindOk, Bool.and_eq_true, decide_eq_true_eq] at hk
        omega
      rw [if_neg c1, hn, hs, c3]
      exact add_drop hw h0 hb hn2

theorem own_f {d : List S70} (h : d.length < 4398046511104) : galleylaw13_own.f d = some d := by
  unfold galleylaw13_own.f galleyref13_Copy.f
  rw [Option.bind_some, if_pos (by simpa using h), Option.bind_some, List.nil_append]
end Go.Proofs.Ytidihnnkcmeaeaa.A
namespace Go.Proofs.Ytidihnnkcmeaeaa.A
open Go.RowKit Go.Proofs.YtidihnnkcmeaeaaW.PrintWords Go.Proofs.YtidihnnkcmeaeaaW.PrintLast Go.Proofs.YtidihnnkcmeaeaaW.PrintMore
set_option linter.unusedVariables false
set_option linter.unusedSimpArgs false
def lastOf (pre : List S70) : Option S70 := pre.getLast?
def valR (p : Option S70) (x3 x4 : Int) (rest : List S70) : Bool := chainP p rest && (decide (x3 + fromOf rest ≤ 268435456) && decide (x4 + toOf rest ≤ 268435456))
theorem valR_bad {p : Option S70} {x3 x4 : Int} {o : S70} {rest : List S70} (h : opOk o = true → pvOk p o = true → chainP (some o) rest = true → 268435456 < x3 + fromOf (o :: rest) ∨ 268435456 < x4 + toOf (o :: rest)) : valR p x3 x4 (o :: rest) = false := by
  unfold valR
  cases h1 : chainP p (o :: rest) with
  | false => rfl
  | true =>
    simp only [chainP, Bool.and_eq_true] at h1
    rcases h h1.1.1 h1.1.2 h1.2 with h2 | h2
    · rw [decide_eq_false (by omega)]; rfl
    · rw [decide_eq_false (show ¬ (x4 + toOf (o :: rest) ≤ 268435456) by omega), Bool.and_false]; rfl

theorem refValid_from (rest : List S70) : ∀ (pre : List S70) (x3 x4 : Int), (pre ++ rest).length ≤ 9223372036854775807 → 0 ≤ x3 → x3 ≤ 268435456 → 0 ≤ x4 → x4 ≤ 268435456 → (∀ o ∈ rest, o.f2.size ≤ 140737488355328) →
    Ev (fun k => galleyref13_Valid.l0 k (pre ++ rest) x3 x4 (pre.length : Int)) (valR pre.getLast? x3 x4 rest) := by
  induction rest with
  | nil =>
    intro pre x3 x4 hl h3 h3' h4 h4' hs
    refine Ev.step (f := fun _ => some true) (fun k => ?_) ?_
    · rw [galleyref13_Valid.l0, if_neg (by simp)]
    · have : valR pre.getLast? x3 x4 [] = true := by
        unfold valR
        rw [decide_eq_true (by simp only [fromOf]; omega), decide_eq_true (by simp only [toOf]; omega)]
        cases pre.getLast? <;> rfl
      rw [this]
      exact Ev.now _
  | cons o rest ih =>
    intro pre x3 x4 hl h3 h3' h4 h4' hs
    have hrd := rd_at pre o rest
    have hlt : (pre.length : Int) < ((pre ++ o :: rest).length : Int) := by simp; omega
    have hso := hs o List.mem_cons_self
    have hw := wrap_succ (i := pre.length) (n := (pre ++ o :: rest).length) (by simp) hl
    have hih := fun y2 y3 => ih (pre ++ [o]) y2 y3 (by simpa using hl)
    simp only [List.append_assoc, List.singleton_append, List.getLast?_append, List.getLast?_singleton, Option.some_or] at hih
    have hpl : ((pre ++ [o]).length : Int) = ((pre.length + 1 : Nat) : Int) := by simp
    rw [hpl] at hih
    have hrest : chainP (some o) rest = true → 0 ≤ fromOf rest ∧ 0 ≤ toOf rest := fun h => ⟨fromOf_nonneg (chainP_posN h), toOf_nonneg (chainP_posN h)⟩
    refine Ev.step (f := fun k => galleyref13_Valid.j1 k (pre ++ o :: rest) x3 x4 (pre.length : Int) o.f0 o.f0 (o.f0 == 1 || o.f0 == 3)) (fun k => ?_) ?_
    · rw [galleyref13_Valid.l0, if_pos hlt, if_pos (by omega), hrd]
      by_cases c1 : o.f0 = 1
      · rw [if_pos c1, beq_iff_eq.mpr c1, Bool.true_or]
      · rw [if_neg c1, beq_eq_false_iff_ne.mpr c1, Bool.false_or]
    -- what follows the sums
    have hj3 : opOk o = true → ∀ y3 y4 : Int, 0 ≤ y3 → 0 ≤ y4 → x3 + fromOf (o :: rest) = y3 + fromOf rest → x4 + toOf (o :: rest) = y4 + toOf rest → Ev (fun k => galleyref13_Valid.j3 k (pre ++ o :: rest) y3 y4 (pre.length : Int) o.f0) (valR pre.getLast? x3 x4 (o :: rest)) := by
      intro hok y3 y4 hy3 hy4 e3 e4
      refine Ev.step (f := fun k => galleyref13_Valid.j4 k (pre ++ o :: rest) y3 y4 (pre.length : Int) o.f0 (decide (y3 > 268435456) || decide (y4 > 268435456))) (fun k => ?_) ?_
      · rw [galleyref13_Valid.j3]
        by_cases hb : y3 > 268435456
        · rw [if_pos hb, decide_eq_true hb, Bool.true_or]
        · rw [if_neg hb, decide_eq_false hb, Bool.false_or]
      by_cases hb : y3 > 268435456 ∨ y4 > 268435456
      · rw [show (decide (y3 > 268435456) || decide (y4 > 268435456)) = true from by simp only [Bool.or_eq_true, decide_eq_true_eq]; exact hb]
        rw [valR_bad (fun _ _ h => by have := hrest h; omega)]
        refine Ev.step (f := fun _ => some false) (fun k => ?_) (Ev.now _)
        rw [galleyref13_Valid.j4, if_pos rfl]
      · rw [show (decide (y3 > 268435456) || decide (y4 > 268435456)) = false from by simp only [Bool.or_eq_false_iff, decide_eq_false_iff_not]; omega]
        have hV : valR pre.getLast? x3 x4 (o :: rest) = (pvOk pre.getLast? o && valR (some o) y3 y4 rest) := by
          unfold valR
          rw [e3, e4]
          simp only [chainP, hok, Bool.true_and, Bool.and_assoc]
        rw [hV]
        have hI := hih y3 y4 hy3 (by omega) hy4 (by omega) (fun x hx => hs x (List.mem_cons_of_mem _ hx))
        rcases List.eq_nil_or_concat pre with rfl | ⟨init, q, hcc⟩
        · refine Ev.step (f := fun k => galleyref13_Valid.l0 k ([] ++ o :: rest) y3 y4 ((([] : List S70).length + 1 : Nat) : Int)) (fun k => ?_) ?_
          · rw [galleyref13_Valid.j4, if_neg (by decide), if_neg (by simp), hw]
          · simpa [pvOk] using hI
        · rw [List.concat_eq_append] at hcc
          subst hcc
          have hq : rd_T70 (init ++ [q] ++ o :: rest) ((init.length : Nat) : Int) = q := by
            have := rd_at init q (o :: rest)
            simpa using this
          have hwp : wrap64 (((init ++ [q]).length : Int) - 1) = (init.length : Int) := by
            rw [List.length_append, List.length_singleton]
            rw [List.length_append, List.length_append, List.length_singleton] at hl
            unfold wrap64
            omega
          have hpos : ((init ++ [q]).length : Int) > 0 := by rw [List.length_append, List.length_singleton]; omega
          have hlq : (init.length : Int) < ((init ++ [q] ++ o :: rest).length : Int) := by simp; omega
          have hgl : (init ++ [q]).getLast? = some q := by simp
          rw [hgl]
          have hj : ∀ k, galleyref13_Valid.j4 (k + 1) (init ++ [q] ++ o :: rest) y3 y4 ((init ++ [q]).length : Int) o.f0 false = if q.f0 = o.f0 then some false else if o.f0 = 2 then (if q.f0 = 3 then some false else galleyref13_Valid.l0 k (init ++ [q] ++ o :: rest) y3 y4 (((init ++ [q]).length + 1 : Nat) : Int)) else galleyref13_Valid.l0 k (init ++ [q] ++ o :: rest) y3 y4 (((init ++ [q]).length + 1 : Nat) : Int) := fun k => by
            rw [galleyref13_Valid.j4, if_neg (by decide), if_pos hpos, hwp, if_pos (Int.natCast_nonneg _), if_pos hlq, if_pos (Int.natCast_nonneg _), if_pos hlt, hq, hrd, hw]
          clear hq hwp hpos hlq hgl hw hlt hrd hl hih
          by_cases d1 : q.f0 = o.f0
          · have hpv : pvOk (some q) o = false := by
              show (q.f0 != o.f0 && !(q.f0 == 3 && o.f0 == 2)) = false
              rw [bne_eq_false_iff_eq.mpr d1, Bool.false_and]
            rw [hpv, Bool.false_and]
            exact Ev.step (f := fun _ => some false) (fun k => by rw [hj, if_pos d1]) (Ev.now _)
          · by_cases d2 : o.f0 = 2 ∧ q.f0 = 3
            · have hpv : pvOk (some q) o = false := by
                show (q.f0 != o.f0 && !(q.f0 == 3 && o.f0 == 2)) = false
                rw [beq_iff_eq.mpr d2.1, beq_iff_eq.mpr d2.2, Bool.and_self, Bool.not_true, Bool.and_false]
              rw [hpv, Bool.false_and]
              exact Ev.step (f := fun _ => some false) (fun k => by rw [hj, if_neg d1, if_pos d2.1, if_pos d2.2]) (Ev.now _)
            · have hpv : pvOk (some q) o = true := by
                show (q.f0 != o.f0 && !(q.f0 == 3 && o.f0 == 2)) = true
                rw [bne_iff_ne.mpr d1, Bool.true_and]
                cases h3 : (q.f0 == 3 && o.f0 == 2) with
                | false => rfl
                | true =>
                  rw [Bool.and_eq_true, beq_iff_eq, beq_iff_eq] at h3
                  exact absurd ⟨h3.2, h3.1⟩ d2
              rw [hpv, Bool.true_and]
              refine Ev.step (f := fun k => galleyref13_Valid.l0 k (init ++ [q] ++ o :: rest) y3 y4 (((init ++ [q]).length + 1 : Nat) : Int)) (fun k => ?_) hI
              rw [hj, if_neg d1]
              by_cases d3 : o.f0 = 2
              · rw [if_pos d3, if_neg (fun e => d2 ⟨d3, e⟩)]
              · rw [if_neg d3]
    by_cases c13 : o.f0 = 1 ∨ o.f0 = 3
    · rw [show (o.f0 == 1 || o.f0 == 3) = true from by simpa using c13]
      by_cases hn : o.f1 < 1 ∨ o.f1 > 268435456 ∨ o.f2.size ≠ 0
      · rw [valR_bad (fun h _ hr => by
          have hr := hrest hr
          rcases opOk_cases h with ⟨k1, k2, k3⟩ | ⟨k1, k2, k3⟩
          · rw [k3, noText_size] at hn
            rw [fromOf_cons, if_neg (by omega)]
            omega
          · omega)]
        refine Ev.step (f := fun k => galleyref13_Valid.j2 k (pre ++ o :: rest) x3 x4 (pre.length : Int) o.f0 true) (fun k => ?_) (Ev.step (f := fun _ => some false) (fun k => ?_) (Ev.now _))
        · rw [galleyref13_Valid.j1, if_pos rfl, if_pos (by omega), if_pos hlt, hrd]
          by_cases e1 : o.f1 < 1
          · rw [if_pos e1]
          · by_cases e2 : o.f1 > 268435456
            · rw [if_neg e1, if_pos e2]
            · rw [if_neg e1, if_neg e2, toList_size']
              have : o.f2.size ≠ 0 := by omega
              rw [beq_eq_false_iff_ne.mpr this]
              rfl
        · rw [galleyref13_Valid.j2, if_pos rfl]
      · have hok : opOk o = true := by
          simp only [opOk, Bool.or_eq_true, Bool.and_eq_true, beq_iff_eq, decide_eq_true_eq]
          exact .inl ⟨⟨c13, by omega⟩, by omega⟩
        refine Ev.step (f := fun k => galleyref13_Valid.j2 k (pre ++ o :: rest) x3 x4 (pre.length : Int) o.f0 false) (fun k => ?_) ?_
        · rw [galleyref13_Valid.j1, if_pos rfl, if_pos (by omega), if_pos hlt, hrd, if_neg (by omega), if_neg (by omega), toList_size']
          rw [beq_iff_eq.mpr (show o.f2.size = 0 by omega)]
          rfl
        · by_cases c1 : o.f0 = 1
          · refine Ev.step (f := fun k => galleyref13_Valid.j3 k (pre ++ o :: rest) (x3 + o.f1) (x4 + o.f1) (pre.length : Int) o.f0) (fun k => ?_) ?_
            · rw [galleyref13_Valid.j2, if_neg (by decide), if_pos (by omega), if_pos hlt, hrd, if_pos c1, wrap_in (by omega) (by omega), wrap_in (by omega) (by omega)]
            · refine hj3 hok _ _ (by omega) (by omega) ?_ ?_
              · rw [fromOf_cons, if_neg (by omega)]; omega
              · rw [toOf_cons, if_neg (by omega), if_neg (by omega)]; omega
          · refine Ev.step (f := fun k => galleyref13_Valid.j3 k (pre ++ o :: rest) (x3 + o.f1) x4 (pre.length : Int) o.f0) (fun k => ?_) ?_
            · rw [galleyref13_Valid.j2, if_neg (by decide), if_pos (by omega), if_pos hlt, hrd, if_neg c1, wrap_in (by omega) (by omega)]
            · refine hj3 hok _ _ (by omega) (by omega) ?_ ?_
              · rw [fromOf_cons, if_neg (by omega)]; omega
              · rw [toOf_cons, if_neg (by omega), if_pos (by omega)]; omega
    · rw [show (o.f0 == 1 || o.f0 == 3) = false from by simpa using c13]
      have hj1 : ∀ k, galleyref13_Valid.j1 (k + 1) (pre ++ o :: rest) x3 x4 (pre.length : Int) o.f0 o.f0 false = if o.f0 = 2 then (if o.f1 = 0 then (if o.f2.toList = [] then some false else galleyref13_Valid.j3 k (pre ++ o :: rest) x3 (wrap64 (x4 + (o.f2.size : Int))) (pre.length : Int) o.f0) else some false) else some false := fun k => by
        rw [galleyref13_Valid.j1, if_neg (by decide)]
        by_cases d : o.f0 = 2
        · rw [if_pos d, if_pos d, if_pos (by omega), if_pos hlt, hrd]
        · rw [if_neg d, if_neg d]
      by_cases hg : o.f0 = 2 ∧ o.f1 = 0 ∧ o.f2.size ≠ 0
      · refine Ev.step (f := fun k => galleyref13_Valid.j3 k (pre ++ o :: rest) x3 (x4 + (o.f2.size : Int)) (pre.length : Int) o.f0) (fun k => ?_) ?_
        · rw [hj1, if_pos hg.1, if_pos hg.2.1, if_neg (fun e => hg.2.2 ((toList_nil_iff _).1 e)), wrap_in (by omega) (by omega)]
        · refine hj3 ?_ _ _ (by omega) (by omega) ?_ ?_
          · simp only [opOk, Bool.or_eq_true, Bool.and_eq_true, beq_iff_eq, decide_eq_true_eq, bne_iff_ne]
            exact .inr ⟨⟨hg.1, hg.2.1⟩, hg.2.2⟩
          · rw [fromOf_cons, if_pos hg.1]; omega
          · rw [toOf_cons, if_pos hg.1]; omega
      · rw [valR_bad (fun h _ _ => by
          rcases opOk_cases h with ⟨k1, k2, k3⟩ | ⟨k1, k2, k3⟩
          · exact absurd k1 c13
          · exact absurd ⟨k1, k2, by omega⟩ hg)]
        refine Ev.step (f := fun _ => some false) (fun k => ?_) (Ev.now _)
        rw [hj1]
        by_cases d1 : o.f0 = 2
        · rw [if_pos d1]
          by_cases d2 : o.f1 = 0
          · rw [if_pos d2, if_pos ((toList_nil_iff _).2 (by omega))]
          · rw [if_neg d2]
        · rw [if_neg d1]
theorem refValid_ev (d : List S70) (hl : d.length ≤ 9223372036854775807) (hs : ∀ o ∈ d, o.f2.size ≤ 140737488355328) : Ev (fun k => galleyref13_Valid.f k d) (canB d) := by
  have := refValid_from d [] 0 0 (by simpa using hl) (by omega) (by omega) (by omega) (by omega) hs
  have h2 : valR ([] : List S70).getLast? 0 0 d = canB d := by
    unfold valR canB
    rw [List.getLast?_nil, chainP_none, Int.zero_add, Int.zero_add, Bool.and_assoc]
  rw [h2] at this
  exact this
end Go.Proofs.Ytidihnnkcmeaeaa.A
namespace Go.Proofs.Ytidihnnkcmeaeaa.A
open Go.RowKit Go.Proofs.YtidihnnkcmeaeaaW.PrintWords Go.Proofs.YtidihnnkcmeaeaaW.PrintLast Go.Proofs.YtidihnnkcmeaeaaW.PrintMore
set_option linter.unusedVariables false
set_option linter.unusedSimpArgs false

theorem rd_zero (o : S70) (a : List S70) : rd_T70 (o :: a) 0 = o := rd_at [] o a
theorem thr_pop {keep : Bool} {n : Int} {o : S70} {a : List S70} {b : Bs} (h : opOk o = true) (h2 : o.f0 ≠ 3) (hn : 0 < n) (hle : opw o ≤ n) :
    (thr keep n (o :: a)).1.foldl Bs.step b = (thr keep (n - opw o) a).1.foldl Bs.step (pcB keep b o) ∧ (thr keep n (o :: a)).2 = (thr keep (n - opw o) a).2 := by
  have := thr_step (keep := keep) (ops := a) (b := b) h hn
  have hw := (tkO_weight h (show 1 ≤ n by omega)).1
  rw [if_pos hle] at hw
  rw [if_neg h2, hw] at this
  simp only [tkR, tkO, if_pos hle] at this
  exact this
theorem thr_cut {keep : Bool} {n : Int} {o : S70} {a : List S70} {b : Bs} (h : opOk o = true) (h2 : o.f0 ≠ 3) (hn : 0 < n) (hle : ¬ opw o ≤ n) :
    (thr keep n (o :: a)).1.foldl Bs.step b = pcB keep b (tkO o n) ∧ (thr keep n (o :: a)).2 = tkR o n a := by
  have := thr_step (keep := keep) (ops := a) (b := b) h hn
  have hw := (tkO_weight h (show 1 ≤ n by omega)).1
  rw [if_neg hle] at hw
  rw [if_neg h2, hw, Int.sub_self, thr_zero _ _ _ (Int.le_refl 0)] at this
  exact this
theorem tkO_sz {o : S70} {n : Int} (h : opOk o = true) (hn : 1 ≤ n) : opw (tkO o n) = if opw o ≤ n then opw o else n := by
  have h1 := (tkO_weight h hn).1
  rcases opOk_cases (tkO_opOk h hn) with ⟨k1, k2, k3⟩ | ⟨k1, k2, k3⟩
  · rw [k3, noText_size] at h1
    rw [opw, if_neg (by omega), ← h1]
    omega
  · rw [k2] at h1
    rw [opw, if_pos k1, ← h1]
    omega
theorem pc_BI {keep : Bool} {b : Bs} {m : Int} {o : S70} (hb : BI b m) (ho : opOk o = true) : BI (pcB keep b o) (m + opw o) := by
  have hpw := opw_pos ho
  unfold pcB
  rcases opOk_cases ho with ⟨k1, k2, k3⟩ | ⟨k1, k2, k3⟩
  · have hopw : opw o = o.f1 := by unfold opw; rw [if_neg (by omega)]
    rw [hopw]
    by_cases c3 : o.f0 = 3
    · rw [if_pos c3]; exact hb.dropN (by omega)
    · rw [if_neg c3, if_neg (by omega)]
      cases keep
      · exact hb.dropN (by omega)
      · exact hb.keep (by omega)
  · have hopw : opw o = (o.f2.size : Int) := by unfold opw; rw [if_pos k1]
    rw [if_neg (by omega), if_pos k1]
    cases keep
    · exact hb.mono (by omega)
    · rw [hopw]; exact hb.putS _
theorem toOf_le_opws : ∀ {l : List S70}, (∀ x ∈ l, opOk x = true) → toOf l ≤ opws l
  | [], _ => Int.le_refl 0
  | x :: l, hx => by
    have h1 := toOf_le_opws (l := l) (fun y hy => hx y (List.mem_cons_of_mem _ hy))
    have h2 := kindOk_posN (opOk_kindOk (hx x List.mem_cons_self))
    rw [toOf_cons]
    simp only [opws, opw]
    split
    · omega
    · rename_i h3
      have := h2 h3
      split <;> omega
theorem refThr (d : List S70) (hl : d.length ≤ 9223372036854775807) (x7 : Nat) (hx : x7 < d.length) (keep : Bool) (hk : (rd_T70 d (x7 : Int)).f0 = if keep then 1 else 3) (r : List S70) : ∀ (rest : List S70) (n : Int) (b : Bs) (m : Int), (∀ o ∈ rest, opOk o = true) → 0 ≤ n → n ≤ toOf rest → BW b → 0 ≤ m → BI b m → m + opws rest ≤ 3000000000 →
    (BW ((thr keep n rest).1.foldl Bs.step b) → Ev (fun k => galleyref13_Compose.l0 k d ((thr keep n rest).1.foldl Bs.step b).done (thr keep n rest).2 ((x7 + 1 : Nat) : Int)) r) → Ev (fun k => galleyref13_Compose.l1 k d b.done rest (x7 : Int) n) r := by
  have hw := wrap_succ (i := x7) (n := d.length) hx hl
  have hlt : (x7 : Int) < (d.length : Int) := by omega
  have hzero : ∀ (rest : List S70) (b : Bs), Ev (fun k => galleyref13_Compose.l0 k d b.done rest ((x7 + 1 : Nat) : Int)) r → Ev (fun k => galleyref13_Compose.l1 k d b.done rest (x7 : Int) 0) r := by
    intro rest b hc
    exact Ev.step (fun k => by rw [galleyref13_Compose.l1, if_neg (by omega), hw]) hc
  have hnone : ∀ (rest : List S70) (b : Bs), (BW ((thr keep 0 rest).1.foldl Bs.step b) → Ev (fun k => galleyref13_Compose.l0 k d ((thr keep 0 rest).1.foldl Bs.step b).done (thr keep 0 rest).2 ((x7 + 1 : Nat) : Int)) r) → BW b → Ev (fun k => galleyref13_Compose.l1 k d b.done rest (x7 : Int) 0) r := by
    intro rest b hc hbw
    rw [thr_zero _ _ _ (Int.le_refl 0)] at hc
    exact hzero rest b (hc hbw)
  intro rest
  induction rest with
  | nil =>
    intro n b m hok h0 hn hbw hm0 hb hm hc
    have : n = 0 := by simp only [toOf] at hn; omega
    subst this
    exact hnone [] b hc hbw
  | cons o a ih =>
    intro n b m hok h0 hn hbw hm0 hb hm hc
    by_cases hn0 : n = 0
    · subst hn0
      exact hnone _ b hc hbw
    · have ho := hok o List.mem_cons_self
      have hok' : ∀ x ∈ a, opOk x = true := fun x hx => hok x (List.mem_cons_of_mem _ hx)
      have hpw := opw_pos ho
      have hn1 : 1 ≤ n := by omega
      have hon := opws_nonneg (d := a) (fun x hx => kindOk_posN (opOk_kindOk (hok' x hx)))
      have hto := toOf_le_opws hok'
      simp only [opws] at hm
      rw [toOf_cons] at hn
      have hb3 : BI b 3000000000 := hb.mono (by omega)
      have hlen : (0 : Int) < ((o :: a).length : Int) := by rw [List.length_cons]; omega
      have hlen1 : (1 : Int) ≤ ((o :: a).length : Int) := by rw [List.length_cons]; omega
      have hdrop : ∀ x : S70, (x :: a).drop (1 : Int).toNat = a := fun x => rfl
      have hset : ∀ x : S70, (o :: a).set (0 : Int).toNat x = x :: a := fun x => rfl
      by_cases c3 : o.f0 = 3
      · rcases opOk_cases ho with ⟨k1, k2, k3⟩ | ⟨k1, k2, k3⟩
        · have hopw : opw o = o.f1 := by unfold opw; rw [if_neg (by omega)]
          rw [if_neg (by omega), if_pos c3] at hn
          obtain ⟨g1, g2⟩ := add_drop hbw (n := o.f1) (by omega) hb3 (by omega)
          refine Ev.step (fun k => by rw [galleyref13_Compose.l1, if_pos (show n > 0 by omega), if_pos hlen, rd_zero, if_pos c3]) ?_
          refine Ev.bind g2 ?_
          refine Ev.congr (fun k => by rw [if_pos hlen1, hdrop]) ?_
          refine ih n (b.onDrop o.f1) (m + o.f1) hok' h0 (by omega) g1 (by omega) (hb.dropN (by omega)) (by omega) ?_
          have ht : (thr keep n (o :: a)) = ((⟨3, o.f1, noText⟩ : S70) :: (thr keep n a).1, (thr keep n a).2) := by rw [thr, if_neg (by omega), if_pos c3]
          rw [ht] at hc
          simp only [List.foldl_cons, step_drop] at hc
          exact hc
        · omega
      · obtain ⟨sz, hsz⟩ : ∃ sz, sz = if opw o ≤ n then opw o else n := ⟨_, rfl⟩
        have hto1 : (if o.f0 = 2 then (o.f2.size : Int) else if o.f0 = 3 then 0 else o.f1) = opw o := by
          unfold opw
          by_cases c2 : o.f0 = 2
          · rw [if_pos c2, if_pos c2]
          · rw [if_neg c2, if_neg c2, if_neg c3]
        rw [hto1] at hn
        have hwrap : wrap64 (o.f1 + (o.f2.size : Int)) = opw o := by
          rcases opOk_cases ho with ⟨k1, k2, k3⟩ | ⟨k1, k2, k3⟩
          · have hopw : opw o = o.f1 := by unfold opw; rw [if_neg (by omega)]
            rw [k3, noText_size, hopw]
            unfold wrap64
            omega
          · have hopw : opw o = (o.f2.size : Int) := by unfold opw; rw [if_pos k1]
            rw [k2, hopw]
            unfold wrap64
            omega
        refine Ev.step (f := fun k => galleyref13_Compose.j2 k d b.done (o :: a) (x7 : Int) n sz o.f0 o.f1 o.f2) (fun k => ?_) ?_
        · rw [galleyref13_Compose.l1, if_pos (show n > 0 by omega), if_pos hlen, rd_zero, if_neg c3, hwrap, hsz]
          by_cases hle : opw o ≤ n
          · rw [if_neg (by omega), if_pos hle]
          · rw [if_pos (by omega), if_neg hle]
        have hszn : 1 ≤ sz ∧ sz ≤ n ∧ sz ≤ opw o := by rw [hsz]; split <;> omega
        have hwn : wrap64 (n - sz) = n - sz := by unfold wrap64; omega
        have htO := tkO_opOk ho hn1
        have htw := tkO_sz ho hn1
        rw [← hsz] at htw
        have hBI := pc_BI (keep := keep) hb htO
        rw [htw] at hBI
        have hnt : noText.toList = ([] : List UInt8) := (toList_nil_iff _).2 noText_size
        -- behind the piece
        have htail : ∀ x' : S70, (opw o ≤ n → x'.f1 = 0 ∧ x'.f2.size = 0) → (¬ opw o ≤ n → x' :: a = tkR o n a ∧ ¬ (x'.f1 = 0 ∧ x'.f2.size = 0)) → BW (pcB keep b (tkO o n)) →
            Ev (fun k => if 0 < ((o :: a).length : Int) then ((some (x' :: a)).bind fun y => if (rd_T70 y 0).f1 = 0 then (if (rd_T70 y 0).f2.toList = ([] : List UInt8) then (if 1 ≤ ((o :: a).length : Int) then (galleyref13_Compose.l1 k d (pcB keep b (tkO o n)).done (y.drop (1 : Int).toNat) (x7 : Int) (wrap64 (n - sz))) else none) else (galleyref13_Compose.l1 k d (pcB keep b (tkO o n)).done y (x7 : Int) (wrap64 (n - sz)))) else (galleyref13_Compose.l1 k d (pcB keep b (tkO o n)).done y (x7 : Int) (wrap64 (n - sz)))) else none) r := by
          intro x' h1 h2 hbw'
          rw [hwn]
          by_cases hle : opw o ≤ n
          · obtain ⟨q1, q2⟩ := h1 hle
            rw [if_pos hle] at hsz
            refine Ev.congr (fun k => by rw [if_pos hlen, Option.bind_some, rd_zero, if_pos q1, if_pos ((toList_nil_iff _).2 q2), if_pos hlen1, hdrop]) ?_
            have ht0 : tkO o n = o := by unfold tkO; rw [if_pos hle]
            obtain ⟨p1, p2⟩ := thr_pop (keep := keep) (a := a) (b := b) ho c3 (show 0 < n by omega) hle
            rw [p1, p2, ← hsz] at hc
            rw [ht0] at hbw' hBI ⊢
            exact ih (n - sz) _ (m + sz) hok' (by omega) (by omega) hbw' (by omega) hBI (by omega) hc
          · obtain ⟨q1, q2⟩ := h2 hle
            rw [if_neg hle] at hsz
            obtain ⟨p1, p2⟩ := thr_cut (keep := keep) (a := a) (b := b) ho c3 (show 0 < n by omega) hle
            rw [p1, p2] at hc
            have hfin : Ev (fun k => galleyref13_Compose.l1 k d (pcB keep b (tkO o n)).done (x' :: a) (x7 : Int) (n - sz)) r := by
              rw [show n - sz = 0 by omega, q1]
              exact hzero _ _ (hc hbw')
            refine Ev.congr (fun k => ?_) hfin
            rw [if_pos hlen, Option.bind_some, rd_zero]
            by_cases z1 : x'.f1 = 0
            · rw [if_pos z1, if_neg (fun h => q2 ⟨z1, (toList_nil_iff _).1 h⟩)]
            · rw [if_neg z1]
        rcases opOk_cases ho with ⟨k1, k2, k3⟩ | ⟨k1, k2, k3⟩
        · have c1 : o.f0 = 1 := by omega
          have hopw : opw o = o.f1 := by unfold opw; rw [if_neg (by omega)]
          have hwf : wrap64 (o.f1 - sz) = o.f1 - sz := by unfold wrap64; omega
          have hpc : pcB keep b (tkO o n) = if keep then b.onKeep sz else b.onDrop sz := by
            have h0 := tkO_f0 o n
            have h1 : (tkO o n).f1 = sz := by rw [← htw, opw, if_neg (by omega)]
            unfold pcB
            rw [if_neg (by omega), if_neg (by omega), h1]
          have hadd : BW (pcB keep b (tkO o n)) ∧ Ev (fun k => galleyref13_add.f k b.done (if keep then 1 else 3) sz noText) (pcB keep b (tkO o n)).done := by
            rw [hpc]
            cases keep
            · exact add_drop hbw (by omega) hb3 (by omega)
            · exact add_keep hbw (by omega) hb3 (by omega)
          refine Ev.step (fun k => by rw [galleyref13_Compose.j2, if_pos c1, if_pos (by omega), if_pos hlt, hk, rd_zero, hwf, hset]) ?_
          refine Ev.bind hadd.2 ?_
          refine htail ⟨o.f0, o.f1 - sz, o.f2⟩ (fun hle => ?_) (fun hle => ?_) hadd.1
          · rw [if_pos hle] at hsz
            rw [k3]
            exact ⟨by show o.f1 - sz = 0; omega, noText_size⟩
          · rw [if_neg hle] at hsz
            refine ⟨?_, fun hz => ?_⟩
            · unfold tkR
              rw [if_neg hle, if_neg (by omega), hsz]
            · have : o.f1 - sz = 0 := hz.1
              omega
        · have hopw : opw o = (o.f2.size : Int) := by unfold opw; rw [if_pos k1]
          have hto2 : (tkO o n).f2 = o.f2.extract 0 sz.toNat := by
            unfold tkO
            by_cases hle : opw o ≤ n
            · rw [if_pos hle] at hsz
              rw [if_pos hle, hsz, hopw, Int.toNat_natCast]
              simp
            · rw [if_neg hle] at hsz
              rw [if_neg hle, if_pos k1, hsz]
          have hx' : (opw o ≤ n → (o.f2.extract sz.toNat o.f2.size).size = 0) ∧ (¬ opw o ≤ n → ¬ (o.f2.extract sz.toNat o.f2.size).size = 0) := by
            constructor
            · intro hle
              rw [if_pos hle] at hsz
              simp only [ByteArray.size_extract]
              omega
            · intro hle
              rw [if_neg hle] at hsz
              simp only [ByteArray.size_extract]
              omega
          have hT : (opw o ≤ n → (⟨o.f0, o.f1, o.f2.extract sz.toNat o.f2.size⟩ : S70).f1 = 0 ∧ (⟨o.f0, o.f1, o.f2.extract sz.toNat o.f2.size⟩ : S70).f2.size = 0) ∧ (¬ opw o ≤ n → (⟨o.f0, o.f1, o.f2.extract sz.toNat o.f2.size⟩ : S70) :: a = tkR o n a ∧ ¬ ((⟨o.f0, o.f1, o.f2.extract sz.toNat o.f2.size⟩ : S70).f1 = 0 ∧ (⟨o.f0, o.f1, o.f2.extract sz.toNat o.f2.size⟩ : S70).f2.size = 0)) := by
            refine ⟨fun hle => ⟨k2, hx'.1 hle⟩, fun hle => ⟨?_, fun hz => hx'.2 hle hz.2⟩⟩
            rw [if_neg hle] at hsz
            unfold tkR
            rw [if_neg hle, if_pos k1, hsz]
          cases keep
          · have hpc : pcB false b (tkO o n) = b := by
              have h0 := tkO_f0 o n
              unfold pcB
              rw [if_neg (by omega), if_pos (by omega)]
              simp
            have hk' : (rd_T70 d (x7 : Int)).f0 = 3 := hk
            refine Ev.step (fun k => by rw [galleyref13_Compose.j2, if_neg (by omega), if_pos (by omega), if_pos hlt, if_neg (by omega), if_pos (by omega), if_pos (by omega), rd_zero, hset]) ?_
            have := htail ⟨o.f0, o.f1, o.f2.extract sz.toNat o.f2.size⟩ hT.1 hT.2 (by rw [hpc]; exact hbw)
            rw [hpc] at this
            exact this
          · have hpc : pcB true b (tkO o n) = b.onPut (o.f2.extract 0 sz.toNat) := by
              have h0 := tkO_f0 o n
              unfold pcB
              rw [if_neg (by omega), if_pos (by omega), hto2]
              simp
            have hadd := add_put (s := o.f2.extract 0 sz.toNat) hbw hb3 (by simp only [ByteArray.size_extract]; omega)
            rw [← hpc] at hadd
            have hk' : (rd_T70 d (x7 : Int)).f0 = 1 := hk
            refine Ev.step (fun k => by rw [galleyref13_Compose.j2, if_neg (by omega), if_pos (by omega), if_pos hlt, if_pos hk', if_pos (by omega), if_pos (by omega), rd_zero, hset]) ?_
            refine Ev.bind hadd.2 ?_
            exact htail ⟨o.f0, o.f1, o.f2.extract sz.toNat o.f2.size⟩ hT.1 hT.2 hadd.1

/-- what is left: only what is dropped -/
theorem left_drops {a : List S70} (hok : ∀ o ∈ a, opOk o = true) (h : toOf a = 0) : leftOps a = a := by
  induction a with
  | nil => rfl
  | cons o a ih =>
    have ho := hok o List.mem_cons_self
    have hok' : ∀ x ∈ a, opOk x = true := fun x hx => hok x (List.mem_cons_of_mem _ hx)
    have ht := toOf_nonneg (d := a) (fun x hx => kindOk_posN (opOk_kindOk (hok' x hx)))
    rw [toOf_cons] at h
    have hi := ih hok'
    rcases opOk_cases ho with ⟨k1, k2, k3⟩ | ⟨k1, k2, k3⟩
    · rw [if_neg (by omega)] at h
      have c3 : o.f0 = 3 := by
        by_cases c3 : o.f0 = 3
        · exact c3
        · rw [if_neg c3] at h; omega
      rw [if_pos c3] at h
      have hi2 := hi (by omega)
      unfold leftOps at hi2 ⊢
      rw [List.map_cons, hi2]
      cases o
      simp only at c3 k3
      rw [c3, k3]
    · rw [if_pos k1] at h
      omega
theorem refLeft (rest : List S70) : ∀ (pre : List S70) (b : Bs) (m : Int), (pre ++ rest).length ≤ 9223372036854775807 → BW b → 0 ≤ m → BI b m → m + opws rest ≤ 3000000000 → (∀ o ∈ rest, opOk o = true) →
    Ev (fun k => galleyref13_Compose.l2 k b.done (pre ++ rest) (pre.length : Int)) (rest.foldl Bs.step b).done := by
  induction rest with
  | nil =>
    intro pre b m hl hbw hm0 hb hm hok
    refine Ev.step (f := fun _ => some b.done) (fun k => ?_) (Ev.now _)
    rw [galleyref13_Compose.l2, if_neg (by simp)]
  | cons o rest ih =>
    intro pre b m hl hbw hm0 hb hm hok
    have hrd := rd_at pre o rest
    have hlt : (pre.length : Int) < ((pre ++ o :: rest).length : Int) := by simp; omega
    have ho := hok o List.mem_cons_self
    have hok' : ∀ x ∈ rest, opOk x = true := fun x hx => hok x (List.mem_cons_of_mem _ hx)
    have hpo := kindOk_posN (opOk_kindOk ho)
    have hon := opws_nonneg (d := rest) (fun x hx => kindOk_posN (opOk_kindOk (hok' x hx)))
    have hw := wrap_succ (i := pre.length) (n := (pre ++ o :: rest).length) (by simp) hl
    have hih := fun b m => ih (pre ++ [o]) b m (by simpa using hl)
    simp only [List.append_assoc, List.singleton_append] at hih
    have hpl : ((pre ++ [o]).length : Int) = ((pre.length + 1 : Nat) : Int) := by simp
    rw [hpl] at hih
    simp only [opws] at hm
    have hpw := opw_pos ho
    have hns : o.f1 = (if o.f0 = 2 then 0 else o.f1) ∧ o.f2 = (if o.f0 = 2 then o.f2 else noText) := by
      rcases opOk_cases ho with ⟨k1, k2, k3⟩ | ⟨k1, k2, k3⟩
      · rw [if_neg (by omega), if_neg (by omega)]
        exact ⟨rfl, k3⟩
      · rw [if_pos k1, if_pos k1]
        exact ⟨k2, rfl⟩
    have hsm : o.f1 ≤ 3000000000 ∧ o.f2.size ≤ 3000000000 := by
      rcases opOk_cases ho with ⟨k1, k2, k3⟩ | ⟨k1, k2, k3⟩
      · rw [opw, if_neg (by omega)] at hm
        rw [k3, noText_size]
        omega
      · rw [opw, if_pos k1] at hm
        omega
    obtain ⟨g1, g2⟩ := add_step hbw (hb.mono (by omega)) (opOk_kindOk ho) hns.1 hns.2 hsm.1 hsm.2
    rw [List.foldl_cons]
    refine Ev.step (fun k => by rw [galleyref13_Compose.l2, if_pos hlt, if_pos (by omega), hrd, hw]) ?_
    refine Ev.bind g2 ?_
    exact hih _ (m + opw o) g1 (by omega) (hb.step hpo) (by omega) hok'
/-- over all of the second delta -/
theorem refCompose_from (rest : List S70) : ∀ (pre : List S70) (b : Bs) (a : List S70) (m : Int), (pre ++ rest).length ≤ 9223372036854775807 → a.length ≤ 9223372036854775807 → BW b → 0 ≤ m → BI b m → m + opws a + opws rest ≤ 3000000000 → (∀ o ∈ rest, opOk o = true) → (∀ o ∈ a, opOk o = true) → (∀ o ∈ a, opw o ≤ 268435456) → fromOf rest = toOf a →
    Ev (fun k => galleyref13_Compose.l0 k (pre ++ rest) b.done a (pre.length : Int)) ((compOps a rest).foldl Bs.step b).done := by
  induction rest with
  | nil =>
    intro pre b a m hl hla hbw hm0 hb hm hok hoka hsm hf
    have hlf := left_drops hoka hf.symm
    refine Ev.step (fun k => by rw [galleyref13_Compose.l0, if_neg (by simp)]) ?_
    have := refLeft a [] b m (by simpa using hla) hbw hm0 hb (by simp only [opws] at hm; omega) hoka
    rw [compOps]
    unfold leftOps at hlf
    rw [hlf]
    simpa using this
  | cons o rest ih =>
    intro pre b a m hl hla hbw hm0 hb hm hok hoka hsm hf
    have hrd := rd_at pre o rest
    have hlt : (pre.length : Int) < ((pre ++ o :: rest).length : Int) := by simp; omega
    have hge : (0 : Int) ≤ (pre.length : Int) := Int.natCast_nonneg _
    have ho := hok o List.mem_cons_self
    have hok' : ∀ x ∈ rest, opOk x = true := fun x hx => hok x (List.mem_cons_of_mem _ hx)
    have hpo := kindOk_posN (opOk_kindOk ho)
    have hpw := opw_pos ho
    have hon := opws_nonneg (d := rest) (fun x hx => kindOk_posN (opOk_kindOk (hok' x hx)))
    have hoa := opws_nonneg (d := a) (fun x hx => kindOk_posN (opOk_kindOk (hoka x hx)))
    have hfn := fromOf_nonneg (d := rest) (fun x hx => kindOk_posN (opOk_kindOk (hok' x hx)))
    have hw := wrap_succ (i := pre.length) (n := (pre ++ o :: rest).length) (by simp) hl
    have hih := fun b a m => ih (pre ++ [o]) b a m (by simpa using hl)
    simp only [List.append_assoc, List.singleton_append] at hih
    have hpl : ((pre ++ [o]).length : Int) = ((pre.length + 1 : Nat) : Int) := by simp
    rw [hpl] at hih
    simp only [opws] at hm
    rw [fromOf_cons] at hf
    rw [compOps]
    by_cases c2 : o.f0 = 2
    · rw [if_pos c2] at hf
      rw [if_pos c2, List.foldl_cons, step_put]
      rw [opw, if_pos c2] at hm
      obtain ⟨g1, g2⟩ := add_put (s := o.f2) hbw (hb.mono (by omega)) (by omega)
      refine Ev.step (fun k => by rw [galleyref13_Compose.l0, if_pos hlt, if_pos hge, hrd, hw, if_pos c2]) ?_
      refine Ev.bind g2 ?_
      exact hih _ a (m + (o.f2.size : Int)) hla g1 (by omega) (hb.putS _) (by omega) hok' hoka hsm (by omega)
    · rw [if_neg c2] at hf
      have hn := hpo c2
      rw [opw, if_neg c2] at hm
      rw [if_neg c2, List.foldl_append]
      refine Ev.step (fun k => by rw [galleyref13_Compose.l0, if_pos hlt, if_pos hge, hrd, if_neg c2]) ?_
      have hkind : (rd_T70 (pre ++ o :: rest) (pre.length : Int)).f0 = if (o.f0 == 1) = true then 1 else 3 := by
        rw [hrd]
        rcases opOk_cases ho with ⟨k1, k2, k3⟩ | ⟨k1, k2, k3⟩
        · rcases k1 with k1 | k1 <;> simp [k1]
        · omega
      obtain ⟨t1, t2, t3, t4, t5⟩ := thr_inv (o.f0 == 1) (m := 268435456) a o.f1 hoka hsm hn (by omega)
      refine refThr (pre ++ o :: rest) hl pre.length (by simp) (o.f0 == 1) hkind _ a o.f1 b m hoka hn (by omega) hbw hm0 hb (by omega) (fun hbw' => ?_)
      have hn2 := opws_nonneg t4
      have hla2 : (thr (o.f0 == 1) o.f1 a).2.length ≤ 9223372036854775807 := by
        have h1 : ∀ {l : List S70}, (∀ x ∈ l, opOk x = true) → (l.length : Int) ≤ opws l := by
          intro l
          induction l with
          | nil => intro _; exact Int.le_refl 0
          | cons x l ih2 =>
            intro hx
            have h1 := ih2 (fun y hy => hx y (List.mem_cons_of_mem _ hy))
            have h2 := opw_pos (hx x List.mem_cons_self)
            simp only [opws, List.length_cons]
            omega
        have := h1 t2
        omega
      exact hih _ _ (m + opws (thr (o.f0 == 1) o.f1 a).1) hla2 hbw' (by omega) (BI.fold t4 hb) (by omega) hok' t2 t3 (by omega)
theorem refCompose_ev {a d : List S70} (hla : a.length < 4398046511104) (hld : d.length ≤ 9223372036854775807) (ha : canB a = true) (hd : canB d = true) (hf : fromOf d = toOf a) : Ev (fun k => galleyref13_Compose.f k a d) (canon (compOps a d)) := by
  have ca := canB_lens ha
  have cd := canB_lens hd
  have oka := chainOk_opOk ca.1
  have okd := chainOk_opOk cd.1
  have hpa : ∀ o ∈ a, posN o := fun o ho => kindOk_posN (opOk_kindOk (oka o ho))
  have hpd : ∀ o ∈ d, posN o := fun o ho => kindOk_posN (opOk_kindOk (okd o ho))
  have h1 := opws_le hpa
  have h2 := opws_le hpd
  have hsm := canB_small ha
  have := refCompose_from d [] Bs.new a 0 (by simpa using hld) (by omega) BW.zero (by omega) BI.new (by omega) okd oka hsm hf
  refine Ev.congr (fun k => ?_) this
  rw [galleyref13_Compose.f, Option.bind_some, if_pos (by simpa using hla), List.nil_append]
  rfl
end Go.Proofs.Ytidihnnkcmeaeaa.A
namespace Go.Proofs.Ytidihnnkcmeaeaa.A
open Go.RowKit Go.Proofs.YtidihnnkcmeaeaaW.PrintWords Go.Proofs.YtidihnnkcmeaeaaW.PrintLast Go.Proofs.YtidihnnkcmeaeaaW.PrintMore
set_option linter.unusedVariables false
set_option linter.unusedSimpArgs false

theorem comp_len {a d : List S70} (ha : canB a = true) (hd : canB d = true) (hf : fromOf d = toOf a) : (canon (compOps a d)).length ≤ 9223372036854775807 := by
  have ca := canB_lens ha
  have cd := canB_lens hd
  have oka := chainOk_opOk ca.1
  have okd := chainOk_opOk cd.1
  have hpa : ∀ o ∈ a, posN o := fun o ho => kindOk_posN (opOk_kindOk (oka o ho))
  have hpd : ∀ o ∈ d, posN o := fun o ho => kindOk_posN (opOk_kindOk (okd o ho))
  have h1 := opws_le hpa
  have h2 := opws_le hpd
  have hsm := canB_small ha
  obtain ⟨q1, q2, q3, m, q4, q5⟩ := cpAt_I oka hsm okd (by omega) d.length (Nat.le_refl _)
  rw [List.take_length] at q5
  have hon := opws_nonneg (d := (cpAt a d d.length).2) (fun x hx => kindOk_posN (opOk_kindOk (q2 x hx)))
  have hp : ∀ o ∈ leftOps (cpAt a d d.length).2, posN o := by
    intro o ho
    obtain ⟨x, hx, rfl⟩ := List.mem_map.1 ho
    intro _
    show 0 ≤ x.f1
    rcases opOk_cases (q2 x hx) with ⟨k1, k2, k3⟩ | ⟨k1, k2, k3⟩ <;> omega
  have hle : ∀ {l : List S70}, (∀ x ∈ l, opOk x = true) → opws (leftOps l) ≤ opws l := by
    intro l
    induction l with
    | nil => intro _; exact Int.le_refl 0
    | cons x l ih =>
      intro hx
      have e1 := ih (fun y hy => hx y (List.mem_cons_of_mem _ hy))
      have e2 : opw (⟨3, x.f1, noText⟩ : S70) = x.f1 := rfl
      have e3 : x.f1 ≤ opw x := by
        unfold opw
        rcases opOk_cases (hx x List.mem_cons_self) with ⟨k1, k2, k3⟩ | ⟨k1, k2, k3⟩
        · rw [if_neg (by omega)]; omega
        · rw [if_pos k1]; omega
      unfold leftOps at e1 ⊢
      rw [List.map_cons]
      simp only [opws]
      omega
  have h5 := (BI.fold hp q4).len
  have h6 := hle q2
  have h7 := cp_fold d (Bs.new, a)
  have h8 : (cpAt a d d.length) = d.foldl cpStep (Bs.new, a) := by unfold cpAt; rw [List.take_length]
  rw [h8] at h5 h6 q5 hon
  rw [h7] at h5
  have h9 := done_len ((compOps a d).foldl Bs.step Bs.new)
  unfold canon
  have h10 : (compOps (Bs.new, a).2 d).foldl Bs.step (Bs.new, a).1 = (compOps a d).foldl Bs.step Bs.new := rfl
  rw [h10] at h5
  omega
theorem deltaCompose_law (a d : List S70) (hla : a.length < 4398046511104) (hld : d.length < 4398046511104) (hsa : ∀ o ∈ a, o.f2.size ≤ 140737488355328) (hsd : ∀ o ∈ d, o.f2.size ≤ 140737488355328) : Ev (fun k => galleylaw13_DeltaCompose.f k a d) true := by
  have hla' : a.length ≤ 9223372036854775807 := by omega
  have hld' : d.length ≤ 9223372036854775807 := by omega
  have howna := own_f hla
  have hownd := own_f hld
  unfold galleylaw13_DeltaCompose.f
  refine Ev.bind (a := true) (Ev.now _) ?_
  rw [show (fun n => if true = true then _ else some false) = _ from by funext n; rw [if_pos rfl]]
  refine Ev.bind (a := a) (by rw [howna]; exact Ev.now _) ?_
  refine Ev.bind (a := d) (by rw [hownd]; exact Ev.now _) ?_
  obtain ⟨r, hr⟩ : ∃ r, delta_Compose.f a d = some r := ⟨_, rfl⟩
  refine Ev.bind (a := r) (by rw [hr]; exact Ev.now _) ?_
  refine Ev.bind (refValid_ev a hla' hsa) ?_
  unfold delta_Compose.f at hr
  have hj1 : ∀ (x : Int) , r.2 = x → x ≠ 0 → r.1 = [] → Ev (fun k => galleylaw13_DeltaCompose.j1 k a d r.1 r.2 x) true := by
    intro x h1 h2 h3
    refine Ev.step (fun k => by rw [galleylaw13_DeltaCompose.j1, if_pos h1, if_neg h2, h3]) ?_
    exact Ev.now _
  cases hca : canB a with
  | true =>
    simp only [if_true]
    refine Ev.bind (refValid_ev d hld' hsd) ?_
    cases hcd : canB d with
    | true =>
      rw [hca, hcd, Bool.true_and, if_pos rfl] at hr
      refine Ev.step (fun k => by rw [galleylaw13_DeltaCompose.j0, if_neg (by decide)]) ?_
      refine Ev.bind (refLens_ev hla' hca) ?_
      refine Ev.bind (refLens_ev hld' hcd) ?_
      by_cases hf : fromOf d = toOf a
      · rw [if_pos hf] at hr
        simp only [Option.some.injEq] at hr
        subst hr
        simp only [hf, if_true]
        refine Ev.step (fun k => by rw [galleylaw13_DeltaCompose.j1, if_pos rfl, if_pos rfl]) ?_
        refine Ev.bind (refCompose_ev hla hld' hca hcd hf) ?_
        exact Ev.bind (same_self _ (comp_len hca hcd hf)) (Ev.now _)
      · rw [if_neg hf] at hr
        simp only [Option.some.injEq] at hr
        subst hr
        simp only [hf, if_false]
        exact hj1 131 rfl (by decide) rfl
    | false =>
      rw [hca, hcd, Bool.true_and, if_neg (by decide)] at hr
      simp only [Option.some.injEq] at hr
      subst hr
      refine Ev.step (fun k => by rw [galleylaw13_DeltaCompose.j0, if_pos (by decide)]) ?_
      exact hj1 130 rfl (by decide) rfl
  | false =>
    rw [hca, Bool.false_and, if_neg (by decide)] at hr
    simp only [Option.some.injEq] at hr
    subst hr
    simp only [Bool.false_eq_true, if_false]
    refine Ev.step (fun k => by rw [galleylaw13_DeltaCompose.j0, if_pos rfl]) ?_
    exact hj1 130 rfl (by decide) rfl
end Go.Proofs.Ytidihnnkcmeaeaa.A
