/- ShiftNothing in plain words: it answers true. Plain lists. No condition but sizes. -/
import Derived.Test.YtidihnnkcmeaeaaP3
import Derived.Test.YtidihnnkcmeaeaaO
import Derived.Test.YtidihnnkcmeaeaaA37
namespace Go.Proofs.Ytidihnnkcmeaeaa.A
open Go.RowKit Go.Proofs.YtidihnnkcmeaeaaW.PrintWords Go.Proofs.YtidihnnkcmeaeaaW.PrintLast Go.Proofs.YtidihnnkcmeaeaaW.PrintMore
set_option linter.unusedVariables false
set_option linter.unusedSimpArgs false

theorem toList_inj14 {s t : ByteArray} : s.toList = t.toList ↔ s = t := by
  rw [ByteArray.toList_eq, ByteArray.toList_eq]
  constructor
  · intro h
    exact ByteArray.ext (Array.toList_inj.1 h)
  · intro h; rw [h]
theorem same14_self_from : ∀ (rest pre : List S70), (pre ++ rest).length ≤ 9223372036854775807 → Ev (fun k => galleyref14_Same.l0 k (pre ++ rest) (pre ++ rest) (pre.length : Int)) true
  | [], pre, hl => by
    refine Ev.step (f := fun _ => some true) (fun k => ?_) (Ev.now _)
    rw [galleyref14_Same.l0, if_neg (by simp)]
  | o :: rest, pre, hl => by
    have hlt : (pre.length : Int) < ((pre ++ o :: rest).length : Int) := by simp; omega
    have hw := wrap_succ (i := pre.length) (n := (pre ++ o :: rest).length) (by simp) hl
    have hih := same14_self_from rest (pre ++ [o]) (by simpa using hl)
    simp only [List.append_assoc, List.singleton_append] at hih
    have hpl : ((pre ++ [o]).length : Int) = ((pre.length + 1 : Nat) : Int) := by simp
    rw [hpl] at hih
    refine Ev.step (fun k => by rw [galleyref14_Same.l0, if_pos hlt, if_pos (Int.natCast_nonneg _), if_pos hlt, if_neg (by simp), hw]) ?_
    exact hih
theorem same14_self (d : List S70) (hl : d.length ≤ 9223372036854775807) : Ev (fun k => galleyref14_Same.f k d d) true := by
  refine Ev.congr (fun k => by rw [galleyref14_Same.f, if_pos rfl]) ?_
  have := same14_self_from d [] (by simpa using hl)
  simpa using this
/-- what is left of a Keep of n, x of it gone over -/
def leftK (n x : Int) : List S70 := if x = n then [] else [(⟨1, n, noText⟩ : S70)]
theorem over_left (first : Bool) (n : Int) : ∀ (d : List S70) (k : Nat) (x : Int), (∀ o ∈ d, opOk o = true) → 0 ≤ x → x + fromOf d = n → d.length < k → overOps first k (leftK n x) (if x = n then 0 else x) d 0 = d
  | [], k, x, _, h0, hn, hk => by
    have hx : x = n := by simp only [fromOf] at hn; omega
    cases k with
    | zero => omega
    | succ k => rw [leftK, if_pos hx, overOps]
  | q :: d, k, x, hok, h0, hn, hk => by
    have hq := hok q List.mem_cons_self
    have hok' : ∀ o ∈ d, opOk o = true := fun o ho => hok o (List.mem_cons_of_mem _ ho)
    have hfn := fromOf_nonneg (d := d) (fun o ho => kindOk_posN (opOk_kindOk (hok' o ho)))
    rw [fromOf_cons] at hn
    cases k with
    | zero => omega
    | succ k =>
      simp only [List.length_cons] at hk
      rcases opOk_cases hq with ⟨k1, k2, k3⟩ | ⟨k1, k2, k3⟩
      · rw [if_neg (by omega)] at hn
        have hx : ¬ x = n := by omega
        have hqe : (⟨q.f0, q.f1, noText⟩ : S70) = q := by cases q; simp only at k3 ⊢; rw [k3]
        have hih := over_left first n d k (x + q.f1) hok' (by omega) (by omega) (by omega)
        rw [leftK, if_neg hx, if_neg hx, overOps, if_neg (fun h => by omega), if_neg (by simp)]
        have hm : (if q.f1 - 0 < (⟨1, n, noText⟩ : S70).f1 - x then q.f1 - 0 else (⟨1, n, noText⟩ : S70).f1 - x) = q.f1 := by
          show (if q.f1 - 0 < n - x then q.f1 - 0 else n - x) = q.f1
          split <;> omega
        dsimp only
        have hm2 : (if q.f1 - 0 < n - x then q.f1 - 0 else n - x) = q.f1 := hm
        rw [hm2, if_pos rfl, hqe, Int.zero_add, if_pos rfl, if_pos rfl]
        rw [leftK] at hih
        rw [hih]
        rfl
      · rw [if_pos k1] at hn
        have hih := over_left first n d k x hok' (by omega) (by omega) (by omega)
        by_cases hx : x = n
        · rw [leftK, if_pos hx, overOps, if_pos k1]
          rw [leftK, if_pos hx] at hih
          rw [hih]
        · rw [leftK, if_neg hx, overOps, if_pos ⟨k1, .inr (by simp)⟩]
          rw [leftK, if_neg hx] at hih
          rw [hih]
/-- what a delta becomes whose texts are kept and whose rest is kept or gone -/
def keptOf : List S70 → List S70
  | [] => []
  | o :: d => if o.f0 = 2 then (⟨1, (o.f2.size : Int), noText⟩ : S70) :: keptOf d else if o.f0 = 1 then (⟨1, o.f1, noText⟩ : S70) :: keptOf d else keptOf d
theorem keptOf_keeps : ∀ {d : List S70}, (∀ o ∈ d, opOk o = true) → keeps (keptOf d) ∧ fromOf (keptOf d) = toOf d ∧ toOf (keptOf d) = toOf d
  | [], _ => ⟨fun o ho => by simp [keptOf] at ho, rfl, rfl⟩
  | o :: d, h => by
    obtain ⟨i1, i2, i3⟩ := keptOf_keeps (d := d) (fun x hx => h x (List.mem_cons_of_mem _ hx))
    have ho := opOk_cases (h o List.mem_cons_self)
    rw [keptOf, toOf_cons]
    by_cases c2 : o.f0 = 2
    · rw [if_pos c2, if_pos c2, fromOf_cons, toOf_cons, i2, i3]
      refine ⟨fun x hx => ?_, by simp, by simp⟩
      rcases List.mem_cons.1 hx with rfl | hx
      · exact ⟨rfl, by rcases ho with ⟨k1, k2, k3⟩ | ⟨k1, k2, k3⟩ <;> (show (1 : Int) ≤ (o.f2.size : Int); omega), rfl⟩
      · exact i1 x hx
    · rw [if_neg c2, if_neg c2]
      by_cases c1 : o.f0 = 1
      · rw [if_pos c1, if_neg (by omega), fromOf_cons, toOf_cons, i2, i3]
        refine ⟨fun x hx => ?_, by simp, by simp⟩
        rcases List.mem_cons.1 hx with rfl | hx
        · exact ⟨rfl, by rcases ho with ⟨k1, k2, k3⟩ | ⟨k1, k2, k3⟩ <;> (show (1 : Int) ≤ o.f1; omega), rfl⟩
        · exact i1 x hx
      · have c3 : o.f0 = 3 := by rcases ho with ⟨k1, k2, k3⟩ | ⟨k1, k2, k3⟩ <;> omega
        rw [if_neg c1, if_pos c3, Int.zero_add]
        exact ⟨i1, i2, i3⟩
theorem over_kept (first : Bool) (n : Int) : ∀ (d : List S70) (k : Nat) (y : Int), (∀ o ∈ d, opOk o = true) → 0 ≤ y → y + fromOf d = n → d.length < k → overOps first k d 0 (leftK n y) (if y = n then 0 else y) = keptOf d
  | [], k, y, _, h0, hn, hk => by
    have hx : y = n := by simp only [fromOf] at hn; omega
    cases k with
    | zero => omega
    | succ k => rw [leftK, if_pos hx, overOps, keptOf]
  | p :: d, k, y, hok, h0, hn, hk => by
    have hp := hok p List.mem_cons_self
    have hok' : ∀ o ∈ d, opOk o = true := fun o ho => hok o (List.mem_cons_of_mem _ ho)
    have hfn := fromOf_nonneg (d := d) (fun o ho => kindOk_posN (opOk_kindOk (hok' o ho)))
    rw [fromOf_cons] at hn
    cases k with
    | zero => omega
    | succ k =>
      simp only [List.length_cons] at hk
      rw [keptOf]
      rcases opOk_cases hp with ⟨k1, k2, k3⟩ | ⟨k1, k2, k3⟩
      · rw [if_neg (by omega)] at hn
        have hy : ¬ y = n := by omega
        have hih := over_kept first n d k (y + p.f1) hok' (by omega) (by omega) (by omega)
        rw [leftK, if_neg hy, if_neg hy, overOps, if_neg (fun h => absurd h.1 (show ¬ (1 : Int) = 2 by decide)), if_neg (by omega), if_neg (show ¬ p.f0 = 2 by omega)]
        dsimp only
        have hm : (if n - y < p.f1 - 0 then n - y else p.f1 - 0) = p.f1 := by split <;> omega
        rw [hm, Int.zero_add, if_pos rfl, if_pos rfl]
        rw [leftK] at hih
        rw [hih]
        by_cases c1 : p.f0 = 1
        · rw [if_pos c1, if_pos c1]; rfl
        · rw [if_neg c1, if_neg c1]; rfl
      · rw [if_pos k1] at hn
        have hih := over_kept first n d k y hok' (by omega) (by omega) (by omega)
        rw [if_pos k1]
        by_cases hy : y = n
        · rw [leftK, if_pos hy, overOps, if_pos k1]
          rw [leftK, if_pos hy] at hih
          rw [hih]
        · rw [leftK, if_neg hy, overOps, if_neg (fun h => absurd h.1 (show ¬ (1 : Int) = 2 by decide)), if_pos k1]
          rw [leftK, if_neg hy] at hih
          rw [hih]
theorem same14_f (n : Int) : galleylaw14_same.f n = some (keepN n) := by
  unfold galleylaw14_same.f keepN
  by_cases h : n = 0
  · rw [if_pos h, if_pos h]
  · rw [if_neg h, if_neg h]
    rfl
theorem keepN_left (n : Int) : keepN n = leftK n 0 ∧ (if (0 : Int) = n then (0 : Int) else 0) = 0 := by
  unfold keepN leftK
  by_cases h : n = 0
  · rw [if_pos h, if_pos h.symm]; simp
  · rw [if_neg h, if_neg (fun e => h e.symm)]; simp
theorem keepN_len (n : Int) : (keepN n).length ≤ 1 := by
  unfold keepN
  split <;> simp
theorem canon_ok {d : List S70} (h1 : ∀ o ∈ d, kindOk o = true) (h2 : fromOf d ≤ 268435456) (h3 : toOf d ≤ 268435456) : delta_Canon.f d = some (canon d, 0) := by
  unfold delta_Canon.f
  rw [if_pos (List.all_eq_true.mpr h1), if_pos ⟨h2, h3⟩]
theorem over_nothing1 {d : List S70} (hc : canB d = true) (first : Bool) : shift_Over.f (keepN (fromOf d)) d first = some (d, 0) := by
  have hcl := canB_lens hc
  have hok := chainOk_opOk hcl.1
  have hfn := fromOf_nonneg (d := d) (fun o ho => kindOk_posN (opOk_kindOk (hok o ho)))
  obtain ⟨k1, k2, k3⟩ := keepN_can hfn hcl.2.1
  unfold shift_Over.f
  rw [k1, hc, Bool.and_self, if_pos rfl, if_pos k2]
  obtain ⟨e1, e2⟩ := keepN_left (fromOf d)
  have := over_left first (fromOf d) d ((keepN (fromOf d)).length + d.length + 1) 0 hok (by omega) (by omega) (by omega)
  rw [e2, ← e1] at this
  rw [this, canon_ok (fun o ho => opOk_kindOk (hok o ho)) hcl.2.1 hcl.2.2, canon_id hcl.1]
theorem over_nothing2 {d : List S70} (hc : canB d = true) (first : Bool) : shift_Over.f d (keepN (fromOf d)) first = some (keepN (toOf d), 0) := by
  have hcl := canB_lens hc
  have hok := chainOk_opOk hcl.1
  have hfn := fromOf_nonneg (d := d) (fun o ho => kindOk_posN (opOk_kindOk (hok o ho)))
  obtain ⟨k1, k2, k3⟩ := keepN_can hfn hcl.2.1
  unfold shift_Over.f
  rw [k1, hc, Bool.and_self, if_pos rfl, if_pos k2.symm]
  obtain ⟨e1, e2⟩ := keepN_left (fromOf d)
  have := over_kept first (fromOf d) d (d.length + (keepN (fromOf d)).length + 1) 0 hok (by omega) (by omega) (by omega)
  rw [e2, ← e1] at this
  obtain ⟨q1, q2, q3⟩ := keptOf_keeps hok
  rw [this, canon_ok (fun o ho => by
    obtain ⟨j1, j2, j3⟩ := q1 o ho
    simp only [kindOk, Bool.and_eq_true, Bool.or_eq_true, decide_eq_true_eq, beq_iff_eq]
    omega) (by omega) (by omega), canon_keeps q1, q2]
theorem shiftNothing_law (d : List S70) (first : Bool) (hl : d.length < 4398046511104) : Ev (fun k => galleylaw14_ShiftNothing.f k d first) true := by
  have hl' : d.length ≤ 9223372036854775807 := by omega
  unfold galleylaw14_ShiftNothing.f
  refine Ev.bind (a := true) (Ev.now _) ?_
  simp only [if_true]
  cases hc : canB d with
  | false =>
    refine Ev.bind (lens_bad hl' hc) ?_
    have : shift_Over.f d d first = some (([] : List S70), 130) := by
      unfold shift_Over.f
      rw [hc, Bool.false_and, if_neg (by decide)]
    refine Ev.congr (fun k => by rw [if_neg (by decide), this, Option.bind_some]) ?_
    exact Ev.now _
  | true =>
    refine Ev.bind (lens_all hl' hc) ?_
    simp only [if_true]
    refine Ev.bind (a := keepN (fromOf d)) (by rw [same14_f]; exact Ev.now _) ?_
    refine Ev.bind (a := (d, 0)) (by rw [over_nothing1 hc]; exact Ev.now _) ?_
    refine Ev.bind (a := keepN (fromOf d)) (by rw [same14_f]; exact Ev.now _) ?_
    refine Ev.bind (a := (keepN (toOf d), 0)) (by rw [over_nothing2 hc]; exact Ev.now _) ?_
    simp only [if_true]
    refine Ev.bind (same14_self d hl') ?_
    simp only [if_true]
    refine Ev.bind (a := keepN (toOf d)) (by rw [same14_f]; exact Ev.now _) ?_
    exact Ev.bind (same14_self _ (by have := keepN_len (toOf d); omega)) (Ev.now _)
end Go.Proofs.Ytidihnnkcmeaeaa.A
