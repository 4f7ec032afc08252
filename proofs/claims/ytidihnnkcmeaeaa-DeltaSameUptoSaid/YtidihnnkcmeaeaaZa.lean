/- galleyref13's add, Same, Lens in plain words: the builder is add, operation by operation. Plain lists. No condition but sizes. -/
import Derived.Test.YtidihnnkcmeaeaaV0
import Derived.Test.YtidihnnkcmeaeaaA12
import Derived.Test.YtidihnnkcmeaeaaA11
import Derived.Test.YtidihnnkcmeaeaaEAwake
namespace Go.Proofs.Ytidihnnkcmeaeaa.A
open Go.RowKit Go.Proofs.YtidihnnkcmeaeaaW.PrintWords Go.Proofs.YtidihnnkcmeaeaaW.PrintLast Go.Proofs.YtidihnnkcmeaeaaW.PrintMore
set_option linter.unusedVariables false
set_option linter.unusedSimpArgs false

theorem toList_nil_iff (s : ByteArray) : s.toList = ([] : List UInt8) ↔ s.size = 0 := by
  rw [ByteArray.toList_eq, Array.toList_eq_nil_iff]
  exact ⟨fun h => by show s.data.size = 0; rw [h]; rfl, fun h => Array.eq_empty_of_size_eq_zero h⟩
theorem rd_last (init : List S70) (o : S70) : rd_T70 (init ++ [o]) (init.length : Int) = o := rd_at init o []
theorem len_last (init : List S70) (o : S70) (h : init.length < 9000000000000) : wrap64 (((init ++ [o]).length : Int) - 1) = (init.length : Int) := by
  rw [List.length_append, List.length_singleton]
  unfold wrap64
  omega

/-- nothing is added -/
theorem add_skip (d : List S70) (kind n : Int) (text : ByteArray) (h : (kind = 2 ∧ text.size = 0) ∨ (kind ≠ 2 ∧ n = 0)) : Ev (fun k => galleyref13_add.f k d kind n text) d := by
  refine Ev.step (f := fun k => galleyref13_add.j0 k d kind n text true) (fun k => ?_) (Ev.step (f := fun _ => some d) (fun k => ?_) (Ev.now _))
  · rw [galleyref13_add.f]
    rcases h with ⟨h1, h2⟩ | ⟨h1, h2⟩
    · rw [if_pos h1, if_pos ((toList_nil_iff _).2 h2)]
    · rw [if_neg h1, h2]
      rfl
  · rw [galleyref13_add.j0, if_pos rfl]
def addGo (kind n : Int) (text : ByteArray) : Prop := (kind = 2 ∧ text.size ≠ 0) ∨ (kind ≠ 2 ∧ n ≠ 0)
theorem add_go {d : List S70} {kind n : Int} {text : ByteArray} (h : addGo kind n text) (k : Nat) : galleyref13_add.f (k + 1) d kind n text = galleyref13_add.j0 k d kind n text false := by
  rw [galleyref13_add.f]
  rcases h with ⟨h1, h2⟩ | ⟨h1, h2⟩
  · rw [if_pos h1, if_neg (fun e => h2 ((toList_nil_iff _).1 e))]
  · rw [if_neg h1, beq_eq_false_iff_ne.mpr h2]
def addOne (kind n : Int) (text : ByteArray) : S70 := if kind = 2 then ⟨2, 0, text⟩ else ⟨kind, n, noText⟩
/-- the last step, a new operation -/
theorem add_j2_new (x2 : Int) (x3 : ByteArray) (x1 x9 : Int) (d : List S70) (hl : d.length < 4398046511104) : Ev (fun k => galleyref13_add.j2 k x1 x2 x3 x9 d false) (d ++ [addOne x1 x2 x3]) := by
  refine Ev.step (f := fun _ => some (d ++ [addOne x1 x2 x3])) (fun k => ?_) (Ev.now _)
  rw [galleyref13_add.j2, if_neg (by decide)]
  unfold addOne
  by_cases h : x1 = 2
  · rw [if_pos h, if_pos hl, if_pos h]
  · rw [if_neg h, if_pos hl, if_neg h]
theorem add_j2_same (x2 : Int) (x3 : ByteArray) (x1 : Int) (init : List S70) (o : S70) (h0 : o.f2.size + x3.size ≤ 9223372036854775807) : Ev (fun k => galleyref13_add.j2 k x1 x2 x3 (init.length : Int) (init ++ [o]) true) (init ++ [⟨o.f0, wrap64 (o.f1 + x2), o.f2 ++ x3⟩]) := by
  refine Ev.step (f := fun _ => some (init ++ [⟨o.f0, wrap64 (o.f1 + x2), o.f2 ++ x3⟩])) (fun k => ?_) (Ev.now _)
  rw [galleyref13_add.j2, if_pos rfl, if_pos (by omega), if_pos (by rw [List.length_append, List.length_singleton]; omega), rd_last, Int.toNat_natCast]
  have hs : ∀ x : S70, (init ++ [o]).set init.length x = init ++ [x] := fun x => by
    rw [List.set_append_right _ _ (Nat.le_refl _), Nat.sub_self]
    rfl
  rw [hs, Option.bind_some, rd_last]
  rw [if_pos h0]
  rw [List.set_append_right _ _ (Nat.le_refl _), Nat.sub_self]
  rfl
theorem add_j1_go {x0 : List S70} {x1 x2 x9 : Int} {x3 : ByteArray} (hl : x0.length < 4398046511104) (hx : x9 < 0 ∨ (0 ≤ x9 ∧ x9 < (x0.length : Int))) (k : Nat) : galleyref13_add.j1 (k + 1) x0 x1 x2 x3 x9 false = galleyref13_add.j2 k x1 x2 x3 x9 x0 (decide (0 ≤ x9) && ((rd_T70 x0 x9).f0 == x1)) := by
  rw [galleyref13_add.j1, if_neg (by decide), Option.bind_some, List.nil_append, if_pos (by simpa using hl), Option.bind_some]
  rcases hx with hx | ⟨h0, h1⟩
  · rw [if_neg (by omega), decide_eq_false (by omega), Bool.false_and]
  · rw [if_pos h0, if_pos h0, if_pos h1, decide_eq_true h0, Bool.true_and]
/-- to an empty list -/
theorem add_nil {kind n : Int} {text : ByteArray} (h : addGo kind n text) : Ev (fun k => galleyref13_add.f k [] kind n text) [addOne kind n text] := by
  refine Ev.step (fun k => add_go h k) ?_
  have hw : wrap64 (((([] : List S70).length : Int)) - 1) = -1 := by rw [List.length_nil]; unfold wrap64; omega
  refine Ev.step (f := fun k => galleyref13_add.j1 k [] kind n text (-1) false) (fun k => ?_) ?_
  · rw [galleyref13_add.j0, if_neg (by decide), hw]
    split
    · rw [if_neg (by decide)]
    · rfl
  · refine Ev.step (fun k => add_j1_go (by simp) (.inl (by decide)) k) ?_
    have := add_j2_new n text kind (-1) [] (by simp)
    exact this
/-- behind an operation of another kind -/
theorem add_other {init : List S70} {o : S70} {kind n : Int} {text : ByteArray} (h : addGo kind n text) (hl : init.length < 4000000000000) (h1 : o.f0 ≠ kind) (h2 : ¬ (kind = 2 ∧ o.f0 = 3)) : Ev (fun k => galleyref13_add.f k (init ++ [o]) kind n text) (init ++ [o] ++ [addOne kind n text]) := by
  refine Ev.step (fun k => add_go h k) ?_
  have hw := len_last init o (by omega)
  have hll : (init ++ [o]).length = init.length + 1 := by simp
  refine Ev.step (f := fun k => galleyref13_add.j1 k (init ++ [o]) kind n text (init.length : Int) false) (fun k => ?_) ?_
  · rw [galleyref13_add.j0, if_neg (by decide), hw]
    by_cases hk : kind = 2
    · rw [if_pos hk, if_pos (by omega), if_pos (by omega), if_pos (by omega), rd_last, beq_eq_false_iff_ne.mpr (fun e => h2 ⟨hk, e⟩)]
    · rw [if_neg hk]
  · refine Ev.step (fun k => add_j1_go (by omega) (.inr ⟨by omega, by omega⟩) k) ?_
    rw [rd_last, beq_eq_false_iff_ne.mpr h1, Bool.and_false]
    exact add_j2_new n text kind _ _ (by omega)
/-- behind one of its kind -/
theorem add_same {init : List S70} {o : S70} {kind n : Int} {text : ByteArray} (h : addGo kind n text) (hl : init.length < 4000000000000) (h1 : o.f0 = kind) (h0 : o.f2.size + text.size ≤ 9223372036854775807) : Ev (fun k => galleyref13_add.f k (init ++ [o]) kind n text) (init ++ [⟨kind, wrap64 (o.f1 + n), o.f2 ++ text⟩]) := by
  refine Ev.step (fun k => add_go h k) ?_
  have hw := len_last init o (by omega)
  have hll : (init ++ [o]).length = init.length + 1 := by simp
  refine Ev.step (f := fun k => galleyref13_add.j1 k (init ++ [o]) kind n text (init.length : Int) false) (fun k => ?_) ?_
  · rw [galleyref13_add.j0, if_neg (by decide), hw]
    by_cases hk : kind = 2
    · rw [if_pos hk, if_pos (by omega), if_pos (by omega), if_pos (by omega), rd_last, beq_eq_false_iff_ne.mpr (by omega)]
    · rw [if_neg hk]
  · refine Ev.step (fun k => add_j1_go (by omega) (.inr ⟨by omega, by omega⟩) k) ?_
    rw [rd_last, beq_iff_eq.mpr h1, decide_eq_true (by omega)]
    have := add_j2_same n text kind init o h0
    rw [h1] at this
    exact this
/-- a text behind what is dropped -/
theorem add_under {init r : List S70} {o : S70} {n : Int} {text : ByteArray} (h : addGo 2 n text) (hl : init.length < 4000000000000) (h1 : o.f0 = 3) (hr : Ev (fun k => galleyref13_add.f k init 2 0 text) r) (hrl : r.length < 4398046511104) : Ev (fun k => galleyref13_add.f k (init ++ [o]) 2 n text) (r ++ [⟨3, o.f1, noText⟩]) := by
  refine Ev.step (fun k => add_go h k) ?_
  have hw := len_last init o (by omega)
  have hll : (init ++ [o]).length = init.length + 1 := by simp
  refine Ev.step (f := fun k => galleyref13_add.j1 k (init ++ [o]) 2 n text (init.length : Int) true) (fun k => ?_) ?_
  · rw [galleyref13_add.j0, if_neg (by decide), hw]
    rw [if_pos rfl, if_pos (by omega), if_pos (by omega), if_pos (by omega), rd_last, beq_iff_eq.mpr h1]
  · refine Ev.step (f := fun k => (galleyref13_add.f k init 2 0 text).bind fun t => (if t.length < 4398046511104 then (some (t ++ [(⟨3, o.f1, (⟨#[]⟩ : ByteArray)⟩ : S70)])) else (none))) (fun k => ?_) ?_
    · rw [galleyref13_add.j1, if_pos rfl, if_pos (by omega), if_pos (by omega), Option.bind_some, if_pos (by omega), Option.bind_some, List.nil_append, rd_last, Int.toNat_natCast, List.take_left']
      · rw [if_pos (by simp; omega)]
      · rfl
    · refine Ev.bind hr ?_
      rw [if_pos hrl]
      exact Ev.now _

/-- add behind what ends in a Keep, or nothing -/
theorem add_kend {l : List S70} {kind n : Int} {text : ByteArray} (h : addGo kind n text) (hl : l.length < 4000000000000) (hk : KEnd l) (h1 : kind ≠ 1) : Ev (fun k => galleyref13_add.f k l kind n text) (l ++ [addOne kind n text]) := by
  rcases hk with rfl | ⟨init, m, rfl⟩
  · exact add_nil h
  · rw [List.length_append, List.length_singleton] at hl
    exact add_other h (by omega) (fun e => h1 e.symm) (fun e => by have := e.2; simp at this)
theorem add_keep {b : Bs} {n : Int} (hw : BW b) (hn : 0 ≤ n) (hb : BI b 3000000000) (hn2 : n ≤ 3000000000) : BW (b.onKeep n) ∧ Ev (fun k => galleyref13_add.f k b.done 1 n noText) (b.onKeep n).done := by
  by_cases h0 : n = 0
  · have : b.onKeep n = b := by simp [Bs.onKeep, h0]
    rw [this]
    exact ⟨hw, add_skip _ _ _ _ (.inr ⟨by decide, h0⟩)⟩
  · have hgo : addGo 1 n noText := .inr ⟨by decide, h0⟩
    have hone : addOne 1 n noText = (⟨1, n, noText⟩ : S70) := rfl
    have hlen := hb.len
    cases hw with
    | zero =>
      have he : Bs.onKeep ⟨[], 0, noText, 0⟩ n = ⟨[] ++ [(⟨1, n, noText⟩ : S70)], 1, noText, 0⟩ := by simp [Bs.onKeep, h0]
      rw [he, done_zero, done_kept]
      exact ⟨BW.kept [] n hn, by have := add_nil hgo; exact this⟩
    | kept init m hm =>
      have hl1 := (hb.lastN rfl).2.2
      have hlast : rd_T70 (init ++ [(⟨1, m, noText⟩ : S70)]) (((init ++ [(⟨1, m, noText⟩ : S70)]).length - 1 : Nat) : Int) = ⟨1, m, noText⟩ := by
        rw [List.length_append, List.length_singleton, Nat.add_sub_cancel]
        exact rd_last _ _
      rw [hlast] at hl1
      have hm3 : m ≤ 3000000000 := hl1
      have hg : growLast (init ++ [(⟨1, m, noText⟩ : S70)]) n = init ++ [(⟨1, m + n, noText⟩ : S70)] := by
        unfold growLast
        rw [List.length_append, List.length_singleton, Nat.add_sub_cancel]
        have hx : (init ++ [(⟨1, m, noText⟩ : S70)]).getD init.length z70 = ⟨1, m, noText⟩ := by
          have := rd_last init (⟨1, m, noText⟩ : S70)
          unfold rd_T70 at this
          rwa [Int.toNat_natCast] at this
        rw [hx, List.set_append_right _ _ (Nat.le_refl _), Nat.sub_self]
        rfl
      have he : Bs.onKeep ⟨init ++ [(⟨1, m, noText⟩ : S70)], 1, noText, 0⟩ n = ⟨init ++ [(⟨1, m + n, noText⟩ : S70)], 1, noText, 0⟩ := by
        simp only [Bs.onKeep, if_neg h0, if_true, hg]
      rw [he, done_kept, done_kept]
      refine ⟨BW.kept init (m + n) (by omega), ?_⟩
      simp only [List.length_append, List.length_singleton] at hlen
      have := add_same (init := init) (o := (⟨1, m, noText⟩ : S70)) hgo (by omega) rfl (by simp only [noText_size]; decide)
      rw [show wrap64 (m + n) = m + n by unfold wrap64; omega] at this
      rw [size_append_nil] at this
      exact this
    | chg out put drop ho hd h =>
      have he : Bs.onKeep ⟨out, 2, put, drop⟩ n = ⟨Bs.done ⟨out, 2, put, drop⟩ ++ [(⟨1, n, noText⟩ : S70)], 1, noText, 0⟩ := by
        simp only [Bs.onKeep, if_neg h0, Bs.done]
        simp
      rw [he, done_kept]
      refine ⟨BW.kept _ n hn, ?_⟩
      have hlen' : (out.length : Int) ≤ 3000000000 := hlen
      rw [done_chg]
      by_cases hdp : 0 < drop
      · rw [if_pos hdp]
        have hll : (if 0 < put.size then out ++ [(⟨2, 0, put⟩ : S70)] else out).length ≤ out.length + 1 := by split <;> simp
        exact add_other hgo (by omega) (show (3 : Int) ≠ 1 by decide) (fun e => absurd e.1 (by decide))
      · have hp : 0 < put.size := by omega
        rw [if_neg hdp, if_pos hp, List.append_nil]
        exact add_other hgo (by omega) (show (2 : Int) ≠ 1 by decide) (fun e => absurd e.1 (by decide))
theorem add_drop {b : Bs} {n : Int} (hw : BW b) (hn : 0 ≤ n) (hb : BI b 3000000000) (hn2 : n ≤ 3000000000) : BW (b.onDrop n) ∧ Ev (fun k => galleyref13_add.f k b.done 3 n noText) (b.onDrop n).done := by
  by_cases h0 : n = 0
  · have : b.onDrop n = b := by simp [Bs.onDrop, h0]
    rw [this]
    exact ⟨hw, add_skip _ _ _ _ (.inr ⟨by decide, h0⟩)⟩
  · have hgo : addGo 3 n noText := .inr ⟨by decide, h0⟩
    have hone : addOne 3 n noText = (⟨3, n, noText⟩ : S70) := rfl
    have hlen := hb.len
    have hpos : 0 < n := by omega
    cases hw with
    | zero =>
      have he : Bs.onDrop ⟨[], 0, noText, 0⟩ n = ⟨[], 2, noText, 0 + n⟩ := by simp [Bs.onDrop, hpos]
      rw [he, done_zero, done_chg, if_neg (by rw [noText_size]; omega), if_pos (by omega), Int.zero_add]
      exact ⟨BW.chg [] noText n (.inl rfl) hn (.inr hpos), add_nil hgo⟩
    | kept init m hm =>
      have he : Bs.onDrop ⟨init ++ [(⟨1, m, noText⟩ : S70)], 1, noText, 0⟩ n = ⟨init ++ [(⟨1, m, noText⟩ : S70)], 2, noText, 0 + n⟩ := by simp [Bs.onDrop, hpos]
      rw [he, done_kept, done_chg, if_neg (by rw [noText_size]; omega), if_pos (by omega), Int.zero_add]
      have hl2 : ((init ++ [(⟨1, m, noText⟩ : S70)]).length : Int) ≤ 3000000000 := hlen
      exact ⟨BW.chg _ noText n (.inr ⟨init, m, rfl⟩) hn (.inr hpos), add_kend hgo (by omega) (.inr ⟨init, m, rfl⟩) (by decide)⟩
    | chg out put drop ho hd h =>
      have he : Bs.onDrop ⟨out, 2, put, drop⟩ n = ⟨out, 2, put, drop + n⟩ := by simp [Bs.onDrop, hpos]
      have hlen' : (out.length : Int) ≤ 3000000000 := hlen
      have hdl : drop ≤ 3000000000 := hb.drop_le
      rw [he, done_chg, done_chg, if_pos (show 0 < drop + n by omega)]
      refine ⟨BW.chg out put (drop + n) ho (by omega) (.inr (by omega)), ?_⟩
      have hll : (if 0 < put.size then out ++ [(⟨2, 0, put⟩ : S70)] else out).length ≤ out.length + 1 := by split <;> simp
      by_cases hdp : 0 < drop
      · rw [if_pos hdp]
        have := add_same (init := if 0 < put.size then out ++ [(⟨2, 0, put⟩ : S70)] else out) (o := (⟨3, drop, noText⟩ : S70)) hgo (by omega) rfl (by simp only [noText_size]; decide)
        rw [show wrap64 (drop + n) = drop + n by unfold wrap64; omega] at this
        rw [size_append_nil] at this
        exact this
      · have hp : 0 < put.size := by omega
        have hz : drop = 0 := by omega
        rw [if_neg hdp, if_pos hp, List.append_nil, hz, Int.zero_add]
        exact add_other (init := out) (o := (⟨2, 0, put⟩ : S70)) hgo (by omega) (show (2 : Int) ≠ 3 by decide) (fun e => absurd e.1 (by decide))
theorem add_put {b : Bs} {s : ByteArray} (hw : BW b) (hb : BI b 3000000000) (hs : s.size ≤ 3000000000) : BW (b.onPut s) ∧ Ev (fun k => galleyref13_add.f k b.done 2 0 s) (b.onPut s).done := by
  by_cases h0 : s.size = 0
  · have : b.onPut s = b := by simp [Bs.onPut, h0]
    rw [this]
    exact ⟨hw, add_skip _ _ _ _ (.inl ⟨rfl, h0⟩)⟩
  · have hgo : addGo 2 0 s := .inl ⟨rfl, h0⟩
    have hone : addOne 2 0 s = (⟨2, 0, s⟩ : S70) := rfl
    have hlen := hb.len
    have hpos : 0 < s.size := by omega
    cases hw with
    | zero =>
      have he : Bs.onPut ⟨[], 0, noText, 0⟩ s = ⟨[], 2, noText ++ s, 0⟩ := by simp only [Bs.onPut, if_neg h0]
      rw [he, size_nil_append, done_zero, done_chg, if_pos hpos, if_neg (by omega), List.append_nil]
      exact ⟨BW.chg [] s 0 (.inl rfl) (Int.le_refl 0) (.inl hpos), add_nil hgo⟩
    | kept init m hm =>
      have he : Bs.onPut ⟨init ++ [(⟨1, m, noText⟩ : S70)], 1, noText, 0⟩ s = ⟨init ++ [(⟨1, m, noText⟩ : S70)], 2, noText ++ s, 0⟩ := by simp only [Bs.onPut, if_neg h0]
      rw [he, size_nil_append, done_kept, done_chg, if_pos hpos, if_neg (by omega), List.append_nil]
      have hl2 : ((init ++ [(⟨1, m, noText⟩ : S70)]).length : Int) ≤ 3000000000 := hlen
      exact ⟨BW.chg _ s 0 (.inr ⟨init, m, rfl⟩) (Int.le_refl 0) (.inl hpos), add_kend hgo (by omega) (.inr ⟨init, m, rfl⟩) (by decide)⟩
    | chg out put drop ho hd h =>
      have he : Bs.onPut ⟨out, 2, put, drop⟩ s = ⟨out, 2, put ++ s, drop⟩ := by simp only [Bs.onPut, if_neg h0]
      have hlen' : (out.length : Int) ≤ 3000000000 := hlen
      have hps : (put.size : Int) ≤ 3000000000 := hb.put_le
      have hsz : 0 < (put ++ s).size := by rw [ByteArray.size_append]; omega
      rw [he, done_chg, done_chg, if_pos hsz]
      refine ⟨BW.chg out (put ++ s) drop ho hd (.inl hsz), ?_⟩
      have hbase : Ev (fun k => galleyref13_add.f k (if 0 < put.size then out ++ [(⟨2, 0, put⟩ : S70)] else out) 2 0 s) (out ++ [(⟨2, 0, put ++ s⟩ : S70)]) := by
        by_cases hp : 0 < put.size
        · rw [if_pos hp]
          have := add_same (init := out) (o := (⟨2, 0, put⟩ : S70)) hgo (by omega) rfl (by show put.size + s.size ≤ _; omega)
          have h2 : Ev (fun k => galleyref13_add.f k (out ++ [(⟨2, 0, put⟩ : S70)]) 2 0 s) (out ++ [(⟨2, wrap64 (0 + 0), put ++ s⟩ : S70)]) := this
          rw [show wrap64 (0 + 0) = 0 by unfold wrap64; omega] at h2
          exact h2
        · rw [if_neg hp]
          have hz : put = noText := noText_eq (by omega)
          rw [hz, size_nil_append]
          exact add_kend hgo (by omega) ho (by decide)
      by_cases hdp : 0 < drop
      · rw [if_pos hdp]
        have hll : (if 0 < put.size then out ++ [(⟨2, 0, put⟩ : S70)] else out).length ≤ out.length + 1 := by split <;> simp
        exact add_under (o := (⟨3, drop, noText⟩ : S70)) hgo (by omega) rfl hbase (by rw [List.length_append, List.length_singleton]; omega)
      · rw [if_neg hdp, List.append_nil, List.append_nil]
        exact hbase

theorem toList_inj {s t : ByteArray} : s.toList = t.toList ↔ s = t := by
  rw [ByteArray.toList_eq, ByteArray.toList_eq]
  constructor
  · intro h
    exact ByteArray.ext (Array.toList_inj.1 h)
  · intro h; rw [h]
theorem eq70 (a b : S70) : (!(a.f0 == b.f0) || (!(a.f1 == b.f1) || (!(a.f2.toList == b.f2.toList)))) = false ↔ a = b := by
  simp only [Bool.or_eq_false_iff, Bool.not_eq_false', beq_iff_eq, toList_inj]
  constructor
  · rintro ⟨h1, h2, h3⟩
    cases a; cases b
    simp only at h1 h2 h3
    rw [h1, h2, h3]
  · intro h; rw [h]; exact ⟨rfl, rfl, rfl⟩
theorem same_from : ∀ (rest rest' pre pre' : List S70), pre.length = pre'.length → rest.length = rest'.length → (pre ++ rest).length ≤ 9223372036854775807 → ∃ r : Bool, (r = true ↔ rest = rest') ∧ Ev (fun k => galleyref13_Same.l0 k (pre ++ rest) (pre' ++ rest') (pre.length : Int)) r
  | [], [], pre, pre', hp, hr, hl => ⟨true, by simp, by
    refine Ev.step (f := fun _ => some true) (fun k => ?_) (Ev.now _)
    rw [galleyref13_Same.l0, if_neg (by simp)]⟩
  | [], b :: rest', pre, pre', hp, hr, hl => by simp at hr
  | a :: rest, [], pre, pre', hp, hr, hl => by simp at hr
  | a :: rest, b :: rest', pre, pre', hp, hr, hl => by
    have hrd := rd_at pre a rest
    have hrd' := rd_at pre' b rest'
    have hlt : (pre.length : Int) < ((pre ++ a :: rest).length : Int) := by simp; omega
    have hlt' : (pre.length : Int) < ((pre' ++ b :: rest').length : Int) := by simp; omega
    have hw := wrap_succ (i := pre.length) (n := (pre ++ a :: rest).length) (by simp) hl
    have hstep : ∀ k, galleyref13_Same.l0 (k + 1) (pre ++ a :: rest) (pre' ++ b :: rest') (pre.length : Int) = if (!(a.f0 == b.f0) || (!(a.f1 == b.f1) || (!(a.f2.toList == b.f2.toList)))) = true then some false else galleyref13_Same.l0 k (pre ++ a :: rest) (pre' ++ b :: rest') ((pre.length + 1 : Nat) : Int) := fun k => by
      rw [galleyref13_Same.l0, if_pos hlt, if_pos (by omega), if_pos hlt', hrd, hp, hrd', ← hp, hw]
    by_cases hab : a = b
    · obtain ⟨r, h1, h2⟩ := same_from rest rest' (pre ++ [a]) (pre' ++ [b]) (by simp [hp]) (by simpa using hr) (by simpa using hl)
      refine ⟨r, by rw [h1, hab]; simp, ?_⟩
      have he := (eq70 a b).2 hab
      refine Ev.step (f := fun k => galleyref13_Same.l0 k (pre ++ a :: rest) (pre' ++ b :: rest') ((pre.length + 1 : Nat) : Int)) (fun k => ?_) ?_
      · rw [hstep, he, if_neg (by decide)]
      · simpa using h2
    · refine ⟨false, by simp [hab], ?_⟩
      have he : (!(a.f0 == b.f0) || (!(a.f1 == b.f1) || (!(a.f2.toList == b.f2.toList)))) = true := by
        cases h : (!(a.f0 == b.f0) || (!(a.f1 == b.f1) || (!(a.f2.toList == b.f2.toList)))) with
        | true => rfl
        | false => exact absurd ((eq70 a b).1 h) hab
      refine Ev.step (f := fun _ => some false) (fun k => ?_) (Ev.now _)
      rw [hstep, he, if_pos rfl]
theorem same_ev (a b : List S70) (hl : a.length ≤ 9223372036854775807) : ∃ r : Bool, (r = true ↔ a = b) ∧ Ev (fun k => galleylaw13_same.f k a b) r := by
  by_cases he : a.length = b.length
  · obtain ⟨r, h1, h2⟩ := same_from a b [] [] rfl he (by simpa using hl)
    refine ⟨r, h1, ?_⟩
    refine Ev.bind (g := fun k => galleyref13_Same.f k a b) ?_ (Ev.now _)
    refine Ev.congr (fun k => ?_) h2
    rw [galleyref13_Same.f, if_pos (by omega)]
    rfl
  · refine ⟨false, by simp only [Bool.false_eq_true, false_iff]; intro e; exact he (by rw [e]), ?_⟩
    refine Ev.bind (g := fun k => galleyref13_Same.f k a b) ?_ (Ev.now _)
    refine Ev.congr (f := fun _ => some false) (fun k => ?_) (Ev.now _)
    rw [galleyref13_Same.f, if_neg (by omega)]
/-- the same of itself -/
theorem same_self (a : List S70) (hl : a.length ≤ 9223372036854775807) : Ev (fun k => galleylaw13_same.f k a a) true := by
  obtain ⟨r, h1, h2⟩ := same_ev a a hl
  rw [h1.2 rfl] at h2
  exact h2

theorem refLens_from (rest : List S70) : ∀ (pre : List S70) (x4 x5 : Int), (pre ++ rest).length ≤ 9223372036854775807 → 0 ≤ x4 → 0 ≤ x5 → x4 + fromOf rest ≤ 268435456 → x5 + toOf rest ≤ 268435456 → (∀ o ∈ rest, kindOk o = true) →
    Ev (fun k => galleyref13_Lens.l0 k (pre ++ rest) x4 x5 (pre.length : Int)) (x4 + fromOf rest, x5 + toOf rest) := by
  induction rest with
  | nil =>
    intro pre x4 x5 hl h4 h5 h6 h7 hp
    refine Ev.step (f := fun _ => some (x4 + fromOf [], x5 + toOf [])) (fun k => ?_) (Ev.now _)
    rw [galleyref13_Lens.l0, if_neg (by simp)]
    simp [fromOf, toOf]
  | cons o rest ih =>
    intro pre x4 x5 hl h4 h5 h6 h7 hp
    have hrd := rd_at pre o rest
    have hlt : (pre.length : Int) < ((pre ++ o :: rest).length : Int) := by simp; omega
    have hko := hp o List.mem_cons_self
    have hpo := kindOk_posN hko
    have hpr : ∀ x ∈ rest, kindOk x = true := fun x hx => hp x (List.mem_cons_of_mem _ hx)
    have hf := fromOf_nonneg (d := rest) (fun x hx => kindOk_posN (hpr x hx))
    have ht := toOf_nonneg (d := rest) (fun x hx => kindOk_posN (hpr x hx))
    have hw := wrap_succ (i := pre.length) (n := (pre ++ o :: rest).length) (by simp) hl
    have hih := fun y2 y3 => ih (pre ++ [o]) y2 y3 (by simpa using hl)
    simp only [List.append_assoc, List.singleton_append] at hih
    have hpl : ((pre ++ [o]).length : Int) = ((pre.length + 1 : Nat) : Int) := by simp
    rw [hpl] at hih
    rw [fromOf_cons] at h6
    rw [toOf_cons] at h7
    rw [fromOf_cons, toOf_cons]
    have hstep : ∀ k, galleyref13_Lens.l0 (k + 1) (pre ++ o :: rest) x4 x5 (pre.length : Int) = if o.f0 = 1 then galleyref13_Lens.l0 k (pre ++ o :: rest) (wrap64 (x4 + o.f1)) (wrap64 (x5 + o.f1)) ((pre.length + 1 : Nat) : Int) else if o.f0 = 3 then galleyref13_Lens.l0 k (pre ++ o :: rest) (wrap64 (x4 + o.f1)) x5 ((pre.length + 1 : Nat) : Int) else galleyref13_Lens.l0 k (pre ++ o :: rest) x4 (wrap64 (x5 + (o.f2.size : Int))) ((pre.length + 1 : Nat) : Int) := fun k => by
      rw [galleyref13_Lens.l0, if_pos hlt, if_pos (by omega), hrd, hw]
    by_cases c2 : o.f0 = 2
    · rw [if_pos c2] at h6 h7
      rw [if_pos c2, if_pos c2]
      refine Ev.step (fun k => by rw [hstep, if_neg (by omega), if_neg (by omega), wrap_in (by omega) (by omega)]) ?_
      rw [Int.zero_add, ← Int.add_assoc]
      exact hih x4 (x5 + (o.f2.size : Int)) h4 (by omega) (by omega) (by omega) hpr
    · have hn := hpo c2
      rw [if_neg c2] at h6 h7
      rw [if_neg c2, if_neg c2]
      by_cases c3 : o.f0 = 3
      · rw [if_pos c3] at h7
        rw [if_pos c3]
        refine Ev.step (fun k => by rw [hstep, if_neg (by omega), if_pos c3, wrap_in (by omega) (by omega)]) ?_
        rw [Int.zero_add, ← Int.add_assoc]
        exact hih (x4 + o.f1) x5 (by omega) h5 (by omega) (by omega) hpr
      · have c1 : o.f0 = 1 := by
          simp only [kindOk, Bool.and_eq_true, decide_eq_true_eq] at hko
          omega
        rw [if_neg c3] at h7
        rw [if_neg c3]
        refine Ev.step (fun k => by rw [hstep, if_pos c1, wrap_in (by omega) (by omega), wrap_in (by omega) (by omega)]) ?_
        rw [← Int.add_assoc, ← Int.add_assoc]
        exact hih (x4 + o.f1) (x5 + o.f1) (by omega) (by omega) (by omega) (by omega) hpr
theorem refLens_ev {d : List S70} (hl : d.length ≤ 9223372036854775807) (h : canB d = true) : Ev (fun k => galleyref13_Lens.f k d) (fromOf d, toOf d) := by
  have hc := canB_lens h
  have := refLens_from d [] 0 0 (by simpa using hl) (by omega) (by omega) (by omega) (by omega) (fun o ho => opOk_kindOk (chainOk_opOk hc.1 o ho))
  simpa [galleyref13_Lens.f] using this

/-- one operation -/
theorem add_step {b : Bs} {o : S70} {n : Int} {s : ByteArray} (hw : BW b) (hb : BI b 3000000000) (hk : kindOk o = true) (hn : n = if o.f0 = 2 then 0 else o.f1) (hs : s = if o.f0 = 2 then o.f2 else noText) (hn2 : n ≤ 3000000000) (hs2 : s.size ≤ 3000000000) : BW (b.step o) ∧ Ev (fun k => galleyref13_add.f k b.done o.f0 n s) (b.step o).done := by
  have hpo := kindOk_posN hk
  unfold Bs.step
  by_cases c2 : o.f0 = 2
  · rw [if_pos c2] at hn hs
    rw [if_pos c2, hn, hs, c2]
    rw [hs] at hs2
    exact add_put hw hb hs2
  · have h0 := hpo c2
    rw [if_neg c2] at hn hs
    rw [if_neg c2]
    rw [hn] at hn2
    by_cases c1 : o.f0 = 1
    · rw [if_pos c1, hn, hs, c1]
      exact add_keep hw h0 hb hn2
    · have c3 : o.f0 = 3 := by
        simp only [kindOk, Bool.and_eq_true, decide_eq_true_eq] at hk
        omega
      rw [if_neg c1, hn, hs, c3]
      exact add_drop hw h0 hb hn2

theorem own_f {d : List S70} (h : d.length < 4398046511104) : galleylaw13_own.f d = some d := by
  unfold galleylaw13_own.f galleyref13_Copy.f
  rw [Option.bind_some, if_pos (by simpa using h), Option.bind_some, List.nil_append]
end Go.Proofs.Ytidihnnkcmeaeaa.A
