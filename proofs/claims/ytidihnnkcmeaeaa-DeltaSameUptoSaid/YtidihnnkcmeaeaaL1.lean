/- What galleylaw13's short and fit answer: fit gives a canonical delta of so many bytes. Plain lists. No condition but sizes. -/
import Derived.Test.YtidihnnkcmeaeaaQ1
import Derived.Test.YtidihnnkcmeaeaaZc
import Derived.Test.YtidihnnkcmeaeaaA27
import Derived.Test.YtidihnnkcmeaeaaA28
namespace Go.Proofs.Ytidihnnkcmeaeaa.A
open Go.RowKit Go.Proofs.YtidihnnkcmeaeaaW.PrintWords Go.Proofs.YtidihnnkcmeaeaaW.PrintLast Go.Proofs.YtidihnnkcmeaeaaW.PrintMore
set_option linter.unusedVariables false
set_option linter.unusedSimpArgs false

theorem rd6_in (pre : List (List S70)) (o : List S70) (rest : List (List S70)) : rd_L6 (pre ++ o :: rest) (pre.length : Int) = o := by
 unfold rd_L6
 rw [Int.toNat_natCast, List.getD_eq_getElem?_getD, List.getElem?_append_right (Nat.le_refl _)]
 simp
/-- a list that may be worked through -/
def smallOp (o : S70) : Prop := 1 ≤ o.f0 ∧ o.f0 ≤ 3 ∧ o.f2.size ≤ 5000
def shortD (d : List S70) : Prop := d.length ≤ 200 ∧ ∀ o ∈ d, smallOp o
theorem short_l1 (x1 : List (List S70)) (x13 x14 : Int) (R : Bool) (rest : List S70) : ∀ (pre : List S70) (x6 : Int), (pre ++ rest).length ≤ 200 → (∀ o ∈ rest, o.f2.size ≤ 140737488355328) → 0 ≤ x6 → x6 ≤ 140737488355328 * (pre.length : Int) →
  Ev (fun k => galleylaw13_short.l0 k x1 x13 (wrap64 (x14 + 1))) R →
  ∃ b, Ev (fun k => galleylaw13_short.l1 k x1 x6 x13 x14 (pre ++ rest) ((pre ++ rest).length : Int) (pre.length : Int)) b ∧ (b = true → R = true ∧ x6 ≤ 5000 ∧ ∀ o ∈ rest, smallOp o) := by
 induction rest with
 | nil =>
  intro pre x6 hl hs h0 h1 hR
  by_cases hx : x6 > 5000
  · exact ⟨false, Ev.step (f := fun _ => some false) (fun k => by rw [galleylaw13_short.l1, if_neg (by simp), if_pos hx]) (Ev.now _), fun h => by cases h⟩
  · exact ⟨R, Ev.step (fun k => by rw [galleylaw13_short.l1, if_neg (by simp), if_neg hx]) hR, fun h => ⟨h, by omega, by simp⟩⟩
 | cons o rest ih =>
  intro pre x6 hl hs h0 h1 hR
  have hrd := rd_at pre o rest
  have hge : (0 : Int) ≤ (pre.length : Int) := Int.natCast_nonneg _
  have hlt : (pre.length : Int) < ((pre ++ o :: rest).length : Int) := by simp; omega
  have hw := wrap_succ (i := pre.length) (n := (pre ++ o :: rest).length) (by simp) (by omega)
  have hih := fun x => ih (pre ++ [o]) x (by simpa using hl) (fun y hy => hs y (List.mem_cons_of_mem _ hy))
  simp only [List.append_assoc, List.singleton_append] at hih
  have hpl : ((pre ++ [o]).length : Int) = ((pre.length + 1 : Nat) : Int) := by simp
  rw [hpl] at hih
  have hso := hs o List.mem_cons_self
  have hpn : pre.length ≤ 200 := by simp at hl; omega
  have hj : ∀ k, galleylaw13_short.l1 (k + 1) x1 x6 x13 x14 (pre ++ o :: rest) ((pre ++ o :: rest).length : Int) (pre.length : Int) = if o.f0 < 1 then some false else if o.f0 > 3 then some false else galleylaw13_short.l1 k x1 (x6 + (o.f2.size : Int)) x13 x14 (pre ++ o :: rest) ((pre ++ o :: rest).length : Int) ((pre.length + 1 : Nat) : Int) := fun k => by
   rw [galleylaw13_short.l1, if_pos hlt, if_pos hge, if_pos hlt, hrd, hw, wrap_in (x := x6 + (o.f2.size : Int)) (by omega) (by omega)]
  by_cases c1 : o.f0 < 1
  · exact ⟨false, Ev.step (f := fun _ => some false) (fun k => by rw [hj, if_pos c1]) (Ev.now _), fun h => by cases h⟩
  · by_cases c3 : o.f0 > 3
    · exact ⟨false, Ev.step (f := fun _ => some false) (fun k => by rw [hj, if_neg c1, if_pos c3]) (Ev.now _), fun h => by cases h⟩
    · obtain ⟨b, hb, hbb⟩ := hih (x6 + (o.f2.size : Int)) (by omega) (by omega) hR
      refine ⟨b, Ev.step (fun k => by rw [hj, if_neg c1, if_neg c3]) hb, fun h => ?_⟩
      obtain ⟨p1, p2, p3⟩ := hbb h
      refine ⟨p1, by omega, fun y hy => ?_⟩
      rcases List.mem_cons.mp hy with rfl | hy
      · exact ⟨by omega, by omega, by omega⟩
      · exact p3 y hy
theorem short_l0 (rest : List (List S70)) : ∀ (pre : List (List S70)), (pre ++ rest).length ≤ 9223372036854775807 → (∀ d ∈ rest, ∀ o ∈ d, o.f2.size ≤ 140737488355328) →
  ∃ b, Ev (fun k => galleylaw13_short.l0 k (pre ++ rest) ((pre ++ rest).length : Int) (pre.length : Int)) b ∧ (b = true → ∀ d ∈ rest, shortD d) := by
 induction rest with
 | nil =>
  intro pre hl hs
  exact ⟨true, Ev.step (f := fun _ => some true) (fun k => by rw [galleylaw13_short.l0, if_neg (by simp)]) (Ev.now _), fun _ => by simp⟩
 | cons d rest ih =>
  intro pre hl hs
  have hrd := rd6_in pre d rest
  have hge : (0 : Int) ≤ (pre.length : Int) := Int.natCast_nonneg _
  have hlt : (pre.length : Int) < ((pre ++ d :: rest).length : Int) := by simp; omega
  have hw := wrap_succ (i := pre.length) (n := (pre ++ d :: rest).length) (by simp) hl
  obtain ⟨R, hR, hRR⟩ := ih (pre ++ [d]) (by simpa using hl) (fun y hy => hs y (List.mem_cons_of_mem _ hy))
  simp only [List.append_assoc, List.singleton_append] at hR
  have hpl : ((pre ++ [d]).length : Int) = ((pre.length + 1 : Nat) : Int) := by simp
  rw [hpl, ← hw] at hR
  by_cases c : (d.length : Int) > 200
  · refine ⟨false, Ev.step (f := fun _ => some false) (fun k => ?_) (Ev.now _), fun h => by cases h⟩
    rw [galleylaw13_short.l0, if_pos hlt, if_pos hge, if_pos hlt, hrd, if_pos c]
  · obtain ⟨b, hb, hbb⟩ := short_l1 (pre ++ d :: rest) ((pre ++ d :: rest).length : Int) (pre.length : Int) R d [] 0 (by simp; omega) (hs d List.mem_cons_self) (by omega) (by simp) hR
    refine ⟨b, Ev.step (fun k => by rw [galleylaw13_short.l0, if_pos hlt, if_pos hge, if_pos hlt, hrd, if_neg c]) ?_, fun h => ?_⟩
    · simpa using hb
    · obtain ⟨p1, p2, p3⟩ := hbb h
      intro y hy
      rcases List.mem_cons.mp hy with rfl | hy
      · exact ⟨by omega, p3⟩
      · exact hRR p1 y hy
theorem short_ev (xs : List Int) (ds : List (List S70)) (hl : ds.length ≤ 9223372036854775807) (hs : ∀ d ∈ ds, ∀ o ∈ d, o.f2.size ≤ 140737488355328) :
  ∃ b, Ev (fun k => galleylaw13_short.f k xs ds) b ∧ (b = true → xs.length ≤ 5000 ∧ ∀ d ∈ ds, shortD d) := by
 by_cases c : (xs.length : Int) > 5000
 · exact ⟨false, Ev.congr (fun k => by rw [galleylaw13_short.f, if_pos c]) (Ev.now _), fun h => by cases h⟩
 · obtain ⟨b, hb, hbb⟩ := short_l0 ds [] (by simpa using hl) hs
   refine ⟨b, Ev.congr (fun k => by rw [galleylaw13_short.f, if_neg c]) (by simpa using hb), fun h => ⟨by omega, hbb h⟩⟩

/-- a canonical delta of n bytes -/
def isFit (n : Int) (c : List S70) : Prop := canB c = true ∧ fromOf c = n
theorem isFit_canon {d : List S70} {n : Int} (hk : ∀ o ∈ d, kindOk o = true) (hf : fromOf d = n) (hn : n ≤ 268435456) (ht : toOf d ≤ 268435456) : isFit n (canon d) := by
 obtain ⟨h1, h2⟩ := canon_sem hk
 refine ⟨?_, by rw [h2.from_, hf]⟩
 rw [canB, h1, h2.from_, h2.tto, hf, decide_eq_true hn, decide_eq_true ht]
 rfl
theorem refCanon_is {d : List S70} (hl : d.length ≤ 9223372036854775807) (hk : ∀ o ∈ d, kindOk o = true) (hs : ∀ o ∈ d, o.f2.size ≤ 5000) :
  Ev (fun k => galleyref13_Canon.f k d) (if fromOf d ≤ 268435456 ∧ toOf d ≤ 268435456 then (canon d, 0) else ([], 5)) := by
 obtain ⟨r, hr, he⟩ := refCanon_ev d hl (fun o ho => by have := hs o ho; omega)
 unfold delta_Canon.f at hr
 rw [if_pos (List.all_eq_true.mpr hk)] at hr
 injection hr with hr
 rw [hr]
 exact he
theorem toOf_small : ∀ (d : List S70), (∀ o ∈ d, kindOk o = true ∧ o.f2.size ≤ 5000) → toOf d ≤ fromOf d + 5000 * (d.length : Int)
 | [], _ => by simp [toOf, fromOf]
 | o :: d, h => by
  have ih := toOf_small d (fun y hy => h y (List.mem_cons_of_mem _ hy))
  obtain ⟨h1, h2⟩ := h o List.mem_cons_self
  have hp := kindOk_posN h1
  rw [toOf_cons, fromOf_cons, List.length_cons]
  have : ((d.length + 1 : Nat) : Int) = (d.length : Int) + 1 := by omega
  by_cases c2 : o.f0 = 2
  · rw [if_pos c2, if_pos c2]; omega
  · have := hp c2
    rw [if_neg c2, if_neg c2]; split <;> omega
theorem fit_end (x0 : List S70) (out : List S70) (n y : Int) (hl : out.length ≤ 200) (hn0 : 0 ≤ n) (hn : fromOf out + n ≤ 100000000) (hk : ∀ o ∈ out, kindOk o = true ∧ o.f2.size ≤ 5000) (hy : y = (x0.length : Int)) :
  ∃ c, Ev (fun k => galleylaw13_fit.l0 k x0 n out y) c ∧ isFit (fromOf out + n) c ∧ toOf c ≤ fromOf out + n + 1005000 := by
 have hk2 : ∀ o ∈ out ++ [(⟨1, n, noText⟩ : S70)], kindOk o = true ∧ o.f2.size ≤ 5000 := by
  intro o ho
  rcases List.mem_append.mp ho with ho | ho
  · exact hk o ho
  · rw [List.mem_singleton] at ho
    rw [ho]
    refine ⟨?_, by show (0 : Nat) ≤ 5000; omega⟩
    simp [kindOk, hn0]
 have hf : fromOf (out ++ [(⟨1, n, noText⟩ : S70)]) = fromOf out + n := by rw [fromOf_append, fromOf_one, if_neg (show ¬ (1 : Int) = 2 by decide)]
 have ht := toOf_small _ hk2
 rw [hf, List.length_append, List.length_singleton] at ht
 have ht2 : toOf (out ++ [(⟨1, n, noText⟩ : S70)]) ≤ fromOf out + n + 1005000 := by omega
 have hc := refCanon_is (d := out ++ [(⟨1, n, noText⟩ : S70)]) (by simp; omega) (fun o ho => (hk2 o ho).1) (fun o ho => (hk2 o ho).2)
 rw [if_pos ⟨by omega, by omega⟩] at hc
 refine ⟨canon (out ++ [(⟨1, n, noText⟩ : S70)]), ?_, isFit_canon (fun o ho => (hk2 o ho).1) hf (by omega) (by omega), by rw [(canon_sem (fun o ho => (hk2 o ho).1)).2.tto]; omega⟩
 refine Ev.step (fun k => by rw [galleylaw13_fit.l0, if_neg (by omega), if_pos (by omega)]) ?_
 refine Ev.bind hc ?_
 exact Ev.congr (fun k => by rw [if_pos rfl]) (Ev.now _)
theorem fit_loop (rest : List S70) : ∀ (pre out : List S70) (n : Int), (pre ++ rest).length ≤ 200 → out.length ≤ pre.length → 0 ≤ n → fromOf out + n ≤ 100000000 → (∀ o ∈ out, kindOk o = true ∧ o.f2.size ≤ 5000) → (∀ o ∈ rest, smallOp o) →
  ∃ c, Ev (fun k => galleylaw13_fit.l0 k (pre ++ rest) n out (pre.length : Int)) c ∧ isFit (fromOf out + n) c ∧ toOf c ≤ fromOf out + n + 1005000 := by
 induction rest with
 | nil =>
  intro pre out n hl ho hn0 hn hk hr
  exact fit_end (pre ++ []) out n _ (by simp at hl; omega) hn0 hn hk (by simp)
 | cons o rest ih =>
  intro pre out n hl ho hn0 hn hk hr
  have hrd := rd_at pre o rest
  have hge : (0 : Int) ≤ (pre.length : Int) := Int.natCast_nonneg _
  have hlt : (pre.length : Int) < ((pre ++ o :: rest).length : Int) := by simp; omega
  have hw := wrap_succ (i := pre.length) (n := (pre ++ o :: rest).length) (by simp) (by omega)
  have hih := fun out n ho => ih (pre ++ [o]) out n (by simpa using hl) ho
  simp only [List.append_assoc, List.singleton_append] at hih
  have hpl : ((pre ++ [o]).length : Int) = ((pre.length + 1 : Nat) : Int) := by simp
  have hpn : (pre ++ [o]).length = pre.length + 1 := by simp
  rw [hpl, hpn] at hih
  obtain ⟨s1, s2, s3⟩ := hr o List.mem_cons_self
  have hrr : ∀ y ∈ rest, smallOp y := fun y hy => hr y (List.mem_cons_of_mem _ hy)
  have hpn : pre.length ≤ 200 := by simp at hl; omega
  have hol : out.length < 4398046511104 := by omega
  have hadd : ∀ q : S70, kindOk q = true → q.f2.size ≤ 5000 → ∀ z ∈ out ++ [q], kindOk z = true ∧ z.f2.size ≤ 5000 := by
   intro q h1 h2 z hz
   rcases List.mem_append.mp hz with hz | hz
   · exact hk z hz
   · rw [List.mem_singleton] at hz; rw [hz]; exact ⟨h1, h2⟩
  have hfa : ∀ q : S70, fromOf (out ++ [q]) = fromOf out + (if q.f0 = 2 then 0 else q.f1) := fun q => by rw [fromOf_append, fromOf_one]
  have hf0 := fromOf_nonneg (d := out) (fun y hy => kindOk_posN (hk y hy).1)
  have hko : ∀ m : Int, 0 ≤ m → kindOk (⟨o.f0, m, o.f2⟩ : S70) = true := fun m hm => by
   simp only [kindOk, Bool.and_eq_true, Bool.or_eq_true, decide_eq_true_eq, beq_iff_eq]
   exact ⟨⟨s1, s2⟩, .inr hm⟩
  have hj : ∀ k, galleylaw13_fit.l0 (k + 1) (pre ++ o :: rest) n out (pre.length : Int) = if o.f0 = 2 then galleylaw13_fit.l0 k (pre ++ o :: rest) n (out ++ [(⟨o.f0, o.f1, o.f2⟩ : S70)]) ((pre.length + 1 : Nat) : Int) else if o.f1 > n then (if n > 0 then galleylaw13_fit.l0 k (pre ++ o :: rest) (wrap64 (n - n)) (out ++ [(⟨o.f0, n, o.f2⟩ : S70)]) ((pre.length + 1 : Nat) : Int) else galleylaw13_fit.l0 k (pre ++ o :: rest) n out ((pre.length + 1 : Nat) : Int)) else if o.f1 > 0 then galleylaw13_fit.l0 k (pre ++ o :: rest) (wrap64 (n - o.f1)) (out ++ [(⟨o.f0, o.f1, o.f2⟩ : S70)]) ((pre.length + 1 : Nat) : Int) else galleylaw13_fit.l0 k (pre ++ o :: rest) n out ((pre.length + 1 : Nat) : Int) := fun k => by
   rw [galleylaw13_fit.l0, if_pos hlt, if_pos hge, hrd, hw]
   simp only [if_pos hol]
  by_cases c2 : o.f0 = 2
  · obtain ⟨c, e1, e2, e3⟩ := hih (out ++ [(⟨o.f0, o.f1, o.f2⟩ : S70)]) n (by simp; omega) hn0 (by rw [hfa, if_pos c2]; omega) (hadd _ (by simp [kindOk, c2]) s3) hrr
    rw [hfa, if_pos c2, Int.add_zero] at e2 e3
    exact ⟨c, Ev.step (fun k => by rw [hj, if_pos c2]) e1, e2, e3⟩
  · by_cases cn : o.f1 > n
    · by_cases c0 : n > 0
      · obtain ⟨c, e1, e2, e3⟩ := hih (out ++ [(⟨o.f0, n, o.f2⟩ : S70)]) (wrap64 (n - n)) (by simp; omega) (by rw [wrap_in (by omega) (by omega)]; omega) (by rw [hfa, if_neg c2, wrap_in (by omega) (by omega)]; show _ + n + _ ≤ _; omega) (hadd _ (hko n hn0) s3) hrr
        rw [hfa, if_neg c2, wrap_in (x := n - n) (by omega) (by omega), Int.sub_self, Int.add_zero] at e2 e3
        exact ⟨c, Ev.step (fun k => by rw [hj, if_neg c2, if_pos cn, if_pos c0]) (by rw [wrap_in (x := n - n) (by omega) (by omega), Int.sub_self] at e1 ⊢; exact e1), e2, e3⟩
      · obtain ⟨c, e1, e2, e3⟩ := hih out n (by omega) hn0 hn hk hrr
        exact ⟨c, Ev.step (fun k => by rw [hj, if_neg c2, if_pos cn, if_neg c0]) e1, e2, e3⟩
    · by_cases c0 : o.f1 > 0
      · have hwn : wrap64 (n - o.f1) = n - o.f1 := wrap_in (by omega) (by omega)
        obtain ⟨c, e1, e2, e3⟩ := hih (out ++ [(⟨o.f0, o.f1, o.f2⟩ : S70)]) (n - o.f1) (by simp; omega) (by omega) (by rw [hfa, if_neg c2]; show _ + o.f1 + _ ≤ _; omega) (hadd _ (hko o.f1 (by omega)) s3) hrr
        rw [hfa, if_neg c2, show fromOf out + o.f1 + (n - o.f1) = fromOf out + n by omega] at e2 e3
        exact ⟨c, Ev.step (fun k => by rw [hj, if_neg c2, if_neg cn, if_pos c0, hwn]) e1, e2, e3⟩
      · obtain ⟨c, e1, e2, e3⟩ := hih out n (by omega) hn0 hn hk hrr
        exact ⟨c, Ev.step (fun k => by rw [hj, if_neg c2, if_neg cn, if_neg c0]) e1, e2, e3⟩
theorem fit_ev {d : List S70} {n : Int} (hd : shortD d) (h0 : 0 ≤ n) (h1 : n ≤ 100000000) : ∃ c, Ev (fun k => galleylaw13_fit.f k d n) c ∧ isFit n c ∧ toOf c ≤ n + 1005000 := by
 obtain ⟨c, e1, e2, e3⟩ := fit_loop d [] [] n (by simpa using hd.1) (by simp) h0 (by simpa [fromOf] using h1) (by simp) hd.2
 simp only [fromOf, Int.zero_add] at e2 e3
 exact ⟨c, Ev.congr (fun k => by rw [galleylaw13_fit.f]) (by simpa using e1), e2, e3⟩
end Go.Proofs.Ytidihnnkcmeaeaa.A
