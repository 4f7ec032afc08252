/- ShiftPlaces in plain words: it answers true where what comes in is of small bulk. Plain lists. -/
import Derived.Test.YtidihnnkcmeaeaaP4
import Derived.Test.YtidihnnkcmeaeaaP2
import Derived.Test.YtidihnnkcmeaeaaA36
namespace Go.Proofs.Ytidihnnkcmeaeaa.A
open Go.RowKit Go.Proofs.YtidihnnkcmeaeaaW.PrintWords Go.Proofs.YtidihnnkcmeaeaaW.PrintLast Go.Proofs.YtidihnnkcmeaeaaW.PrintMore
set_option linter.unusedVariables false
set_option linter.unusedSimpArgs false

theorem plc_ahead {n g p : Int} {cs : List S91} {b : Bool} {lo w : Int} (h : ris n b lo cs) (hp : p < lo) : plc g p w cs = p + w := by
  cases cs with
  | nil => rfl
  | cons c cs =>
    obtain ⟨h1, h2, h3, h4, h5⟩ := h
    rw [plc, if_pos (by omega)]
section
variable {d : List S70} {p g : Int}
/-- the next operation is one more of the run -/
theorem run_more {pre : List S70} {o : S70} {rest : List S70} (he : d = pre ++ o :: rest) (hl : d.length ≤ 9223372036854775807) (h1 : o.f0 ≠ 1) {old now put gone : Int} {r : Int × Int} (hb : 0 ≤ put ∧ put ≤ 1000000000 ∧ 0 ≤ gone ∧ gone ≤ 1000000000) (hb2 : (o.f2.size : Int) ≤ 1000000000 ∧ 0 ≤ o.f1 ∧ o.f1 ≤ 1000000000)
    (h : Ev (fun k => galleyref14_Place.l1 k d p g old now ((pre.length + 1 : Nat) : Int) (put + (o.f2.size : Int)) (if o.f0 = 3 then gone + o.f1 else gone)) r) :
    Ev (fun k => galleyref14_Place.l1 k d p g old now (pre.length : Int) put gone) r := by
  have hrd : rd_T70 d (pre.length : Int) = o := by rw [he]; exact rd_at pre o rest
  have hlt : (pre.length : Int) < (d.length : Int) := by rw [he]; simp; omega
  have hw := wrap_succ (i := pre.length) (n := d.length) (by omega) hl
  have hge : (0 : Int) ≤ (pre.length : Int) := Int.natCast_nonneg _
  refine Ev.step (fun k => by rw [galleyref14_Place.l1, if_pos hlt, if_pos hge, hrd, show (o.f0 != 1) = true from bne_iff_ne.mpr h1]) ?_
  by_cases c3 : o.f0 = 3
  · rw [if_pos c3] at h
    exact Ev.step (fun k => by rw [galleyref14_Place.j3, if_pos rfl, if_pos hge, if_pos hlt, hrd, if_pos c3, hw, wrap_in (by omega) (by omega), wrap_in (by omega) (by omega)]) h
  · rw [if_neg c3] at h
    exact Ev.step (fun k => by rw [galleyref14_Place.j3, if_pos rfl, if_pos hge, if_pos hlt, hrd, if_neg c3, hw, wrap_in (by omega) (by omega)]) h
/-- the run is over -/
theorem run_end {pre rest : List S70} (he : d = pre ++ rest) (hh : ∀ o t, rest = o :: t → o.f0 = 1) {old now put gone : Int} {r : Int × Int} (hp : old ≤ p) (hb : -1000000000 ≤ old ∧ old ≤ 1000000000 ∧ -1000000000 ≤ now ∧ now ≤ 1000000000 ∧ 0 ≤ put ∧ put ≤ 1000000000 ∧ 0 ≤ gone ∧ gone ≤ 1000000000)
    (h : Ev (fun k => if p ≤ old + gone then (if g = 1 then some (now, 0) else some (now + put, 0)) else galleyref14_Place.l0 k d p g (old + gone) (now + put) (pre.length : Int)) r) :
    Ev (fun k => galleyref14_Place.l1 k d p g old now (pre.length : Int) put gone) r := by
  have hge : (0 : Int) ≤ (pre.length : Int) := Int.natCast_nonneg _
  have h3 : Ev (fun k => galleyref14_Place.j3 k d p g old now (pre.length : Int) put gone false) r := by
    refine Ev.step (f := fun k => galleyref14_Place.j4 k d p g old now (pre.length : Int) put gone (decide (p ≤ old + gone))) (fun k => by rw [galleyref14_Place.j3, if_neg (by decide), if_pos (by omega), wrap_in (by omega) (by omega)]) ?_
    refine Ev.step (fun k => ?_) h
    by_cases c : p ≤ old + gone
    · rw [galleyref14_Place.j4, decide_eq_true c, if_pos rfl, if_pos c, wrap_in (by omega) (by omega)]
    · rw [galleyref14_Place.j4, decide_eq_false c, if_neg (by decide), if_neg c, wrap_in (by omega) (by omega), wrap_in (by omega) (by omega)]
  cases rest with
  | nil =>
    refine Ev.step (fun k => by rw [galleyref14_Place.l1, if_neg (by rw [he]; simp)]) h3
  | cons o t =>
    have h1 := hh o t rfl
    have hrd : rd_T70 d (pre.length : Int) = o := by rw [he]; exact rd_at pre o t
    have hlt : (pre.length : Int) < (d.length : Int) := by rw [he]; simp; omega
    refine Ev.step (fun k => by rw [galleyref14_Place.l1, if_pos hlt, if_pos hge, hrd, show (o.f0 != 1) = false from bne_eq_false_iff_eq.mpr h1]) h3
theorem place14_from (hl : d.length ≤ 9223372036854775807) (hf : fromOf d ≤ 268435456) (ht : toOf d ≤ 268435456) : ∀ (rest pre : List S70) (old now : Int), d = pre ++ rest → chainOk rest = true → 0 ≤ old → 0 ≤ now → old + fromOf rest ≤ 268435456 → now + toOf rest ≤ 268435456 → old ≤ p → p ≤ old + fromOf rest →
    Ev (fun k => galleyref14_Place.l0 k d p g old now (pre.length : Int)) (plc g p (now - old) (chs old rest), 0)
  | [], pre, old, now, he, hc, h0, h1, h2, h3, hp, hp2 => by
    simp only [fromOf] at h2 hp2
    simp only [toOf] at h3
    refine Ev.step (f := fun _ => some (plc g p (now - old) (chs old []), 0)) (fun k => ?_) (Ev.now _)
    rw [galleyref14_Place.l0, if_neg (by rw [he]; simp), wrap_in (x := now + p) (by omega) (by omega), wrap_in (by omega) (by omega), chs, plc]
    congr 2
    omega
  | o :: rest, pre, old, now, he, hc, h0, h1, h2, h3, hp, hp2 => by
    obtain ⟨ho, hh, hc2⟩ := chainOk_cons hc
    have hrd : rd_T70 d (pre.length : Int) = o := by rw [he]; exact rd_at pre o rest
    have hge : (0 : Int) ≤ (pre.length : Int) := Int.natCast_nonneg _
    have hlt : (pre.length : Int) < (d.length : Int) := by rw [he]; simp; omega
    have hw := wrap_succ (i := pre.length) (n := d.length) (by omega) hl
    have hfn := fromOf_nonneg (d := rest) (fun x hx => kindOk_posN (opOk_kindOk (chainOk_opOk hc2 x hx)))
    have htn := toOf_nonneg (d := rest) (fun x hx => kindOk_posN (opOk_kindOk (chainOk_opOk hc2 x hx)))
    have he2 : d = (pre ++ [o]) ++ rest := by rw [he]; simp
    have hpl : ((pre ++ [o]).length : Int) = ((pre.length + 1 : Nat) : Int) := by simp
    have hpn : (pre ++ [o]).length = pre.length + 1 := by simp
    rw [fromOf_cons] at h2 hp2
    rw [toOf_cons] at h3
    have hge2 : (0 : Int) ≤ ((pre.length + 1 : Nat) : Int) := Int.natCast_nonneg _
    rcases opOk_cases ho with ⟨k1, k2, k3⟩ | ⟨k1, k2, k3⟩
    · have c2 : ¬ o.f0 = 2 := by omega
      rw [if_neg c2] at h2 h3 hp2
      rcases k1 with k1 | k1
      · rw [if_neg (by omega)] at h3
        have hchs : chs old (o :: rest) = chs (old + o.f1) rest := by
          cases rest with
          | nil => simp [chs, k1]
          | cons q t => rw [chs, if_pos k1]
        rw [hchs]
        have hj : ∀ k, galleyref14_Place.l0 (k + 1) d p g old now (pre.length : Int) = if p < old + o.f1 then some (now + p - old, 0) else galleyref14_Place.l0 k d p g (old + o.f1) (now + o.f1) ((pre.length + 1 : Nat) : Int) := fun k => by
          rw [galleyref14_Place.l0, if_pos hlt, if_pos hge, hrd, if_pos k1, if_pos (show p ≥ old by omega), hw, wrap_in (x := old + o.f1) (by omega) (by omega), wrap_in (x := now + o.f1) (by omega) (by omega), wrap_in (x := now + p) (by omega) (by omega), wrap_in (x := now + p - old) (by omega) (by omega)]
        by_cases cp : p < old + o.f1
        · have hr := (chs_ris rest (old + o.f1) (old + o.f1 + fromOf rest) hc2 rfl (fun _ _ _ => trivial)).1
          rw [plc_ahead hr cp]
          refine Ev.step (f := fun _ => some (p + (now - old), 0)) (fun k => ?_) (Ev.now _)
          rw [hj, if_pos cp]
          congr 2
          omega
        · refine Ev.step (fun k => by rw [hj, if_neg cp]) ?_
          have := place14_from hl hf ht rest (pre ++ [o]) (old + o.f1) (now + o.f1) he2 hc2 (by omega) (by omega) (by omega) (by omega) (by omega) (by omega)
          rw [hpl] at this
          rw [show now - old = now + o.f1 - (old + o.f1) by omega]
          exact this
      · rw [if_pos k1] at h3
        have hh1 : ∀ a t, rest = a :: t → a.f0 = 1 := by
          intro a t e
          subst e
          have hn := nbOk_ne (show nbOk o a = true from hh)
          obtain ⟨ha, _, _⟩ := chainOk_cons hc2
          rcases opOk_cases ha with ⟨j1, j2, j3⟩ | ⟨j1, j2, j3⟩ <;> omega
        have hchs : chs old (o :: rest) = (⟨old, old + o.f1, noText⟩ : S91) :: chs (old + o.f1) rest := by
          cases rest with
          | nil => simp [chs, k1]
          | cons q t => rw [chs, if_neg (by omega), if_neg c2]
        have hs0 : ((o.f2.size : Nat) : Int) = 0 := by rw [k3]; rfl
        refine Ev.step (fun k => by rw [galleyref14_Place.l0, if_pos hlt, if_pos hge, hrd, if_neg (by omega)]) ?_
        refine run_more he hl (by omega) (by omega) (by omega) ?_
        rw [if_pos k1, hs0, Int.add_zero, Int.zero_add]
        rw [← hpl]
        refine run_end he2 hh1 hp (by omega) ?_
        rw [hchs, plc, if_neg (show ¬ p < old by omega)]
        by_cases cp : p ≤ old + o.f1
        · rw [if_pos cp]
          refine Ev.congr (fun k => by rw [if_pos cp]) ?_
          have hz : ((noText.size : Nat) : Int) = 0 := rfl
          by_cases cg : g = 1
          · simp only [if_pos cg]
            rw [show old + (now - old) = now by omega]
            exact Ev.now _
          · simp only [if_neg cg, hz]
            rw [show old + (now - old) + 0 = now + 0 by omega]
            exact Ev.now _
        · rw [if_neg cp]
          refine Ev.congr (fun k => by rw [if_neg cp]) ?_
          have hz : ((noText.size : Nat) : Int) = 0 := rfl
          have := place14_from hl hf ht rest (pre ++ [o]) (old + o.f1) (now + 0) he2 hc2 (by omega) (by omega) (by omega) (by omega) (by omega) (by omega)
          rw [hz, show now - old + (0 - (old + o.f1 - old)) = now + 0 - (old + o.f1) by omega]
          exact this
    · rw [if_pos k1] at h2 h3 hp2
      refine Ev.step (fun k => by rw [galleyref14_Place.l0, if_pos hlt, if_pos hge, hrd, if_neg (by omega)]) ?_
      refine run_more he hl (by omega) (by omega) (by omega) ?_
      rw [if_neg (by omega), Int.zero_add, ← hpl]
      match rest, hh, hc2, he2, hfn, htn, h2, h3, hp2, hc with
      | [], hh, hc2, he2, hfn, htn, h2, h3, hp2, hc =>
        refine run_end he2 (fun a t e => by simp at e) hp (by omega) ?_
        have hchs : chs old [o] = [(⟨old, old, o.f2⟩ : S91)] := by simp [chs, k1]
        rw [hchs, plc, if_neg (show ¬ p < old by omega)]
        rw [show old + 0 = old by omega]
        by_cases cp : p ≤ old
        · rw [if_pos cp]
          refine Ev.congr (fun k => by rw [if_pos cp]) ?_
          by_cases cg : g = 1
          · simp only [if_pos cg]
            rw [show old + (now - old) = now by omega]
            exact Ev.now _
          · simp only [if_neg cg]
            rw [show old + (now - old) + (o.f2.size : Int) = now + (o.f2.size : Int) by omega]
            exact Ev.now _
        · simp only [fromOf] at hp2
          omega
      | q :: t, hh, hc2, he2, hfn, htn, h2, h3, hp2, hc =>
        obtain ⟨hq, hh3, hc3⟩ := chainOk_cons hc2
        have hn := nbOk_ne (show nbOk o q = true from hh)
        rw [chs, if_neg (by omega), if_pos k1]
        by_cases q3 : q.f0 = 3
        · rw [if_pos q3]
          have hqk : 1 ≤ q.f1 ∧ q.f2 = noText := by rcases opOk_cases hq with ⟨j1, j2, j3⟩ | ⟨j1, j2, j3⟩ <;> first | exact ⟨j2, j3⟩ | omega
          rw [fromOf_cons, if_neg (by omega)] at h2 hp2 hfn
          rw [toOf_cons, if_neg (by omega), if_pos q3] at h3 htn
          have hs0 : ((q.f2.size : Nat) : Int) = 0 := by rw [hqk.2]; rfl
          have hfn3 := fromOf_nonneg (d := t) (fun x hx => kindOk_posN (opOk_kindOk (chainOk_opOk hc3 x hx)))
          have htn3 := toOf_nonneg (d := t) (fun x hx => kindOk_posN (opOk_kindOk (chainOk_opOk hc3 x hx)))
          have hh1 : ∀ a u, t = a :: u → a.f0 = 1 := by
            intro a u e
            subst e
            have hn2 := nbOk_ne (show nbOk q a = true from hh3)
            obtain ⟨ha, _, _⟩ := chainOk_cons hc3
            rcases opOk_cases ha with ⟨j1, j2, j3⟩ | ⟨j1, j2, j3⟩ <;> omega
          have he3 : d = ((pre ++ [o]) ++ [q]) ++ t := by rw [he2]; simp
          have hpl3 : (((pre ++ [o]) ++ [q]).length : Int) = (((pre ++ [o]).length + 1 : Nat) : Int) := by simp; omega
          refine run_more he2 hl (by omega) (by omega) (by omega) ?_
          rw [if_pos q3, hs0, Int.add_zero, Int.zero_add, ← hpl3]
          refine run_end he3 hh1 hp (by omega) ?_
          rw [plc, if_neg (show ¬ p < old by omega)]
          by_cases cp : p ≤ old + q.f1
          · rw [if_pos cp]
            refine Ev.congr (fun k => by rw [if_pos cp]) ?_
            by_cases cg : g = 1
            · simp only [if_pos cg]
              rw [show old + (now - old) = now by omega]
              exact Ev.now _
            · simp only [if_neg cg]
              rw [show old + (now - old) + (o.f2.size : Int) = now + (o.f2.size : Int) by omega]
              exact Ev.now _
          · rw [if_neg cp]
            refine Ev.congr (fun k => by rw [if_neg cp]) ?_
            have := place14_from hl hf ht t ((pre ++ [o]) ++ [q]) (old + q.f1) (now + (o.f2.size : Int)) he3 hc3 (by omega) (by omega) (by omega) (by omega) (by omega) (by omega)
            dsimp only
            rw [show now - old + ((o.f2.size : Int) - (old + q.f1 - old)) = now + (o.f2.size : Int) - (old + q.f1) by omega]
            exact this
        · rw [if_neg q3]
          have hq1 : q.f0 = 1 := by rcases opOk_cases hq with ⟨j1, j2, j3⟩ | ⟨j1, j2, j3⟩ <;> omega
          refine run_end he2 (fun a u e => by injection e with e1 e2; rw [← e1]; exact hq1) hp (by omega) ?_
          rw [plc, if_neg (show ¬ p < old by omega)]
          rw [show old + 0 = old by omega]
          by_cases cp : p ≤ old
          · rw [if_pos cp]
            refine Ev.congr (fun k => by rw [if_pos cp]) ?_
            by_cases cg : g = 1
            · simp only [if_pos cg]
              rw [show old + (now - old) = now by omega]
              exact Ev.now _
            · simp only [if_neg cg]
              rw [show old + (now - old) + (o.f2.size : Int) = now + (o.f2.size : Int) by omega]
              exact Ev.now _
          · rw [if_neg cp]
            refine Ev.congr (fun k => by rw [if_neg cp]) ?_
            have := place14_from hl hf ht (q :: t) (pre ++ [o]) old (now + (o.f2.size : Int)) he2 hc2 (by omega) (by omega) (by omega) (by omega) (by omega) (by omega)
            dsimp only
            rw [show now - old + ((o.f2.size : Int) - (old - old)) = now + (o.f2.size : Int) - old by omega]
            exact this
end
theorem place14_ev (d : List S70) (hl : d.length ≤ 9223372036854775807) (htx : txts d ≤ 1048576) (p g : Int) : Ev (fun k => galleyref14_Place.f k d p g) (placeR d p g) := by
  unfold galleyref14_Place.f placeR
  refine Ev.bind (valid14_ev d hl htx) ?_
  cases hc : canB d with
  | false => exact Ev.now _
  | true =>
    simp only [if_true]
    have hcl := canB_lens hc
    have hok := chainOk_opOk hcl.1
    refine Ev.bind (lens14_ev hl hok (by omega) (by omega)) ?_
    have hbad : Ev (fun k => galleyref14_Place.j0 k d p g true) (0, 2) := Ev.step (fun k => by rw [galleyref14_Place.j0, if_pos rfl]) (Ev.now _)
    by_cases h1 : p < 0
    · rw [if_neg (by omega)]
      exact Ev.congr (fun k => by rw [if_pos h1]) hbad
    · by_cases h2 : p > fromOf d
      · rw [if_neg (by omega)]
        exact Ev.congr (fun k => by rw [if_neg h1, if_pos h2]) hbad
      · have hgood : Ev (fun k => galleyref14_Place.j0 k d p g false) (plc g p 0 (chs 0 d), 0) := by
          refine Ev.step (fun k => by rw [galleyref14_Place.j0, if_neg (by decide)]) ?_
          have := place14_from (p := p) (g := g) hl hcl.2.1 hcl.2.2 d [] 0 0 rfl hcl.1 (by omega) (by omega) (by omega) (by omega) (by omega) (by omega)
          simpa using this
        by_cases h3 : g = 1
        · rw [if_pos ⟨by omega, by omega, .inl h3⟩]
          exact Ev.congr (fun k => by rw [if_neg h1, if_neg h2, if_pos h3]) hgood
        · by_cases h4 : g = 2
          · rw [if_pos ⟨by omega, by omega, .inr h4⟩]
            exact Ev.congr (fun k => by rw [if_neg h1, if_neg h2, if_neg h3, show (g != 2) = false by simp [h4]]) hgood
          · rw [if_neg (fun h => by rcases h.2.2 with h | h <;> omega)]
            exact Ev.congr (fun k => by rw [if_neg h1, if_neg h2, if_neg h3, show (g != 2) = true by simp [h4]]) hbad
theorem copied_f {d : List S70} (h : d.length < 4398046511104) : galleylaw14_copied.f d = some d := by
  unfold galleylaw14_copied.f
  rw [Option.bind_some, if_pos (by simpa using h), List.nil_append]
theorem shiftPlaces_law (d : List S70) (p g : Int) (hl : d.length ≤ 1048576) (ht : txts d ≤ 1048576) : Ev (fun k => galleylaw14_ShiftPlaces.f k d p g) true := by
  have hl' : d.length ≤ 9223372036854775807 := by omega
  unfold galleylaw14_ShiftPlaces.f
  refine Ev.bind (a := true) (Ev.now _) ?_
  simp only [if_true]
  refine Ev.bind (a := d) (by rw [copied_f (by omega)]; exact Ev.now _) ?_
  refine Ev.bind (place_ev d hl' p g) ?_
  refine Ev.bind (place14_ev d hl' ht p g) ?_
  simp only [if_true, beq_self_eq_true]
  exact Ev.now _
end Go.Proofs.Ytidihnnkcmeaeaa.A
