/- delta.Compose in plain lists: pieces of a tape, what becomes of a builder. No condition but canonical operations. -/
import Derived.Test.YtidihnnkcmeaeaaEChanges
import Derived.Test.YtidihnnkcmeaeaaEInvert
namespace Go.Proofs.Ytidihnnkcmeaeaa.A
open Go.RowKit Go.Proofs.YtidihnnkcmeaeaaW.PrintWords Go.Proofs.YtidihnnkcmeaeaaW.PrintLast Go.Proofs.YtidihnnkcmeaeaaW.PrintMore
set_option linter.unusedVariables false
set_option linter.unusedSimpArgs false

theorem noText_eq {s : ByteArray} (h : s.size = 0) : s = noText := by
  apply ByteArray.ext
  exact Array.eq_empty_of_size_eq_zero h
theorem opOk_cases {o : S70} (h : opOk o = true) : (o.f0 = 1 ∨ o.f0 = 3) ∧ 1 ≤ o.f1 ∧ o.f2 = noText ∨ o.f0 = 2 ∧ o.f1 = 0 ∧ 1 ≤ o.f2.size := by
  simp only [opOk, Bool.or_eq_true, Bool.and_eq_true, beq_iff_eq, decide_eq_true_eq, bne_iff_ne] at h
  rcases h with ⟨⟨h1, h2⟩, h3⟩ | ⟨⟨h1, h2⟩, h3⟩
  · exact .inl ⟨h1, h2, noText_eq h3⟩
  · exact .inr ⟨h1, h2, by omega⟩
theorem opOk_num {k n : Int} (hk : k = 1 ∨ k = 3) (hn : 1 ≤ n) : opOk (⟨k, n, noText⟩ : S70) = true := by
  have hz : (noText.size == 0) = true := rfl
  rcases hk with rfl | rfl <;> simp only [opOk, hz] <;> simp [hn]
theorem opOk_put {s : ByteArray} (h : 1 ≤ s.size) : opOk (⟨2, 0, s⟩ : S70) = true := by
  simp [opOk]
  intro h0
  rw [h0] at h
  simp at h
theorem opw_pos {o : S70} (h : opOk o = true) : 1 ≤ opw o := by
  unfold opw
  rcases opOk_cases h with ⟨h1, h2, h3⟩ | ⟨h1, h2, h3⟩
  · rw [if_neg (by omega)]
    exact h2
  · rw [if_pos h1]
    omega

/-- at most n of the first operation -/
def tkO (o : S70) (n : Int) : S70 := if opw o ≤ n then o else if o.f0 = 2 then ⟨o.f0, o.f1, o.f2.extract 0 n.toNat⟩ else ⟨o.f0, n, o.f2⟩
def tkR (o : S70) (n : Int) (ops : List S70) : List S70 := if opw o ≤ n then ops else (if o.f0 = 2 then ⟨o.f0, o.f1, o.f2.extract n.toNat o.f2.size⟩ else ⟨o.f0, o.f1 - n, o.f2⟩) :: ops
theorem tkO_f0 (o : S70) (n : Int) : (tkO o n).f0 = o.f0 := by
  unfold tkO
  split
  · rfl
  · split <;> rfl
theorem tkO_weight {o : S70} {n : Int} (h : opOk o = true) (hn : 1 ≤ n) : (tkO o n).f1 + ((tkO o n).f2.size : Int) = (if opw o ≤ n then opw o else n) ∧ 0 ≤ (tkO o n).f1 := by
  unfold tkO
  by_cases hw : opw o ≤ n
  · simp only [if_pos hw]
    rcases opOk_cases h with ⟨h1, h2, h3⟩ | ⟨h1, h2, h3⟩
    · rw [opw, if_neg (by omega), h3, noText_size]
      exact ⟨by omega, by omega⟩
    · rw [opw, if_pos h1]
      omega
  · simp only [if_neg hw]
    rcases opOk_cases h with ⟨h1, h2, h3⟩ | ⟨h1, h2, h3⟩
    · rw [if_neg (by omega), h3]
      show n + ((noText.size : Nat) : Int) = n ∧ 0 ≤ n
      rw [noText_size]
      omega
    · rw [opw, if_pos h1] at hw
      rw [if_pos h1]
      simp only [ByteArray.size_extract]
      omega
theorem tkO_opOk {o : S70} {n : Int} (h : opOk o = true) (hn : 1 ≤ n) : opOk (tkO o n) = true := by
  unfold tkO
  by_cases hw : opw o ≤ n
  · rw [if_pos hw]
    exact h
  · rw [if_neg hw]
    rcases opOk_cases h with ⟨h1, h2, h3⟩ | ⟨h1, h2, h3⟩
    · rw [if_neg (by omega), h3]
      exact opOk_num h1 hn
    · rw [if_pos h1, h1, h2]
      rw [opw, if_pos h1] at hw
      refine opOk_put ?_
      simp only [ByteArray.size_extract]
      omega
theorem tkR_opOk {o : S70} {n : Int} {ops : List S70} (h : opOk o = true) (hn : 1 ≤ n) (ha : ∀ x ∈ ops, opOk x = true) : ∀ x ∈ tkR o n ops, opOk x = true := by
  unfold tkR
  by_cases hw : opw o ≤ n
  · rw [if_pos hw]
    exact ha
  · rw [if_neg hw]
    intro x hx
    rcases List.mem_cons.1 hx with rfl | hx
    · rcases opOk_cases h with ⟨h1, h2, h3⟩ | ⟨h1, h2, h3⟩
      · rw [opw, if_neg (by omega)] at hw
        rw [if_neg (by omega), h3]
        exact opOk_num h1 (by omega)
      · rw [opw, if_pos h1] at hw
        rw [if_pos h1, h1, h2]
        refine opOk_put ?_
        simp only [ByteArray.size_extract]
        omega
    · exact ha x hx
theorem tkR_opws {o : S70} {n : Int} {ops : List S70} (h : opOk o = true) (hn : 1 ≤ n) : opws (tkR o n ops) = opws (o :: ops) - (if opw o ≤ n then opw o else n) := by
  unfold tkR
  by_cases hw : opw o ≤ n
  · rw [if_pos hw, if_pos hw]
    simp only [opws]
    omega
  · rw [if_neg hw, if_neg hw]
    simp only [opws]
    rcases opOk_cases h with ⟨h1, h2, h3⟩ | ⟨h1, h2, h3⟩
    · simp only [opw, if_neg (show ¬ o.f0 = 2 by omega)]
      omega
    · rw [opw, if_pos h1] at hw
      simp only [opw, if_pos h1, ByteArray.size_extract]
      omega
/-- each weighs at most -/
theorem tkR_small {o : S70} {n m : Int} {ops : List S70} (h : opOk o = true) (hn : 1 ≤ n) (ho : opw o ≤ m) (ha : ∀ x ∈ ops, opw x ≤ m) : ∀ x ∈ tkR o n ops, opw x ≤ m := by
  unfold tkR
  by_cases hw : opw o ≤ n
  · rw [if_pos hw]
    exact ha
  · rw [if_neg hw]
    intro x hx
    rcases List.mem_cons.1 hx with rfl | hx
    · rcases opOk_cases h with ⟨h1, h2, h3⟩ | ⟨h1, h2, h3⟩
      · rw [opw, if_neg (by omega)] at hw ho
        rw [if_neg (by omega), opw, if_neg (by show ¬ o.f0 = 2; omega)]
        show o.f1 - n ≤ m
        omega
      · rw [opw, if_pos h1] at hw ho
        rw [if_pos h1, opw, if_pos h1]
        simp only [ByteArray.size_extract]
        omega
    · exact ha x hx

/-- what one piece does to the builder -/
def pcB (keep : Bool) (b : Bs) (o : S70) : Bs := if o.f0 = 3 then b.onDrop o.f1 else if o.f0 = 2 then (if keep then b.onPut o.f2 else b) else (if keep then b.onKeep o.f1 else b.onDrop o.f1)
theorem onDrop_add {b : Bs} {x y : Int} (hx : 0 < x) (hy : 0 < y) : (b.onDrop x).onDrop y = b.onDrop (x + y) := by
  simp [Bs.onDrop, hx, hy, show 0 < x + y by omega, Int.add_assoc]
theorem onPut_noText (b : Bs) : b.onPut noText = b := by unfold Bs.onPut; rw [if_pos noText_size]
theorem step_put (b : Bs) (s : ByteArray) : b.step ⟨2, 0, s⟩ = b.onPut s := by simp [Bs.step]
theorem step_keep (b : Bs) (n : Int) : b.step ⟨1, n, noText⟩ = b.onKeep n := by simp [Bs.step]
theorem step_drop (b : Bs) (n : Int) : b.step ⟨3, n, noText⟩ = b.onDrop n := by simp [Bs.step]
theorem thr_zero (keep : Bool) (n : Int) (ops : List S70) (h : n ≤ 0) : thr keep n ops = ([], ops) := by
  cases ops with
  | nil => rfl
  | cons o a => rw [thr, if_pos h]

/-- one piece further -/
theorem thr_step {keep : Bool} {n : Int} {o : S70} {ops : List S70} {b : Bs} (h : opOk o = true) (hn : 0 < n) :
    (thr keep n (o :: ops)).1.foldl Bs.step b = (thr keep (if o.f0 = 3 then n else n - ((tkO o n).f1 + ((tkO o n).f2.size : Int))) (tkR o n ops)).1.foldl Bs.step (pcB keep b (tkO o n)) ∧
    (thr keep n (o :: ops)).2 = (thr keep (if o.f0 = 3 then n else n - ((tkO o n).f1 + ((tkO o n).f2.size : Int))) (tkR o n ops)).2 := by
  have hw := (tkO_weight h (show 1 ≤ n by omega)).1
  rw [thr, if_neg (by omega)]
  rcases opOk_cases h with ⟨h1, h2, h3⟩ | ⟨h1, h2, h3⟩
  · by_cases c3 : o.f0 = 3
    · rw [if_pos c3, if_pos c3]
      by_cases hle : opw o ≤ n
      · simp only [tkO, tkR, if_pos hle, pcB, if_pos c3, List.foldl_cons, step_drop]
        trivial
      · have hle' := hle
        rw [opw, if_neg (by omega)] at hle'
        simp only [tkO, tkR, if_neg hle, if_neg (show ¬ o.f0 = 2 by omega), pcB, if_pos c3, List.foldl_cons, step_drop]
        rw [thr, if_neg (by omega), if_pos c3]
        simp only [List.foldl_cons, step_drop]
        rw [onDrop_add hn (by omega), show n + (o.f1 - n) = o.f1 by omega]
        trivial
    · have c1 : o.f0 = 1 := by omega
      rw [if_neg c3, if_neg (by omega), if_neg c3]
      have hopw : opw o = o.f1 := by unfold opw; rw [if_neg (by omega)]
      by_cases hle : opw o ≤ n
      · rw [if_pos hle] at hw
        rw [if_pos (by omega)]
        rw [hw, hopw]
        simp only [tkO, tkR, if_pos hle, pcB, if_neg c3, if_neg (show ¬ o.f0 = 2 by omega), List.foldl_cons]
        cases keep
        · simp [step_drop]
        · simp [step_keep]
      · rw [if_neg hle] at hw
        rw [if_neg (by omega)]
        rw [hw, Int.sub_self, thr_zero _ _ _ (Int.le_refl 0)]
        simp only [tkO, tkR, if_neg hle, pcB, if_neg c3, if_neg (show ¬ o.f0 = 2 by omega), List.foldl_cons, List.foldl_nil]
        rw [c1, h3]
        cases keep
        · simp [step_drop]
        · simp [step_keep]
  · have c3 : ¬ o.f0 = 3 := by omega
    rw [if_neg c3, if_pos h1, if_neg c3]
    have hopw : opw o = (o.f2.size : Int) := by unfold opw; rw [if_pos h1]
    by_cases hle : opw o ≤ n
    · rw [if_pos hle] at hw
      rw [if_pos (by omega)]
      rw [hw, hopw]
      simp only [tkO, tkR, if_pos hle, pcB, if_neg c3, if_pos h1, List.foldl_cons]
      cases keep
      · simp [step_put, onPut_noText]
      · simp [step_put]
    · rw [if_neg hle] at hw
      rw [if_neg (by omega)]
      rw [hw, Int.sub_self, thr_zero _ _ _ (Int.le_refl 0)]
      simp only [tkO, tkR, if_neg hle, pcB, if_neg c3, if_pos h1, List.foldl_cons, List.foldl_nil]
      rw [h1, h2]
      cases keep
      · simp [step_put, onPut_noText]
      · simp [step_put]

structure ThI (ops : List S70) (n m : Int) (T : List S70 × List S70) : Prop where
  left : toOf T.2 = toOf ops - n
  ok : ∀ o ∈ T.2, opOk o = true
  small : ∀ o ∈ T.2, opw o ≤ m
  pos : ∀ o ∈ T.1, posN o
  sum : opws T.1 + opws T.2 ≤ opws ops
theorem thr_inv (keep : Bool) {m : Int} : ∀ (ops : List S70) (n : Int), (∀ o ∈ ops, opOk o = true) → (∀ o ∈ ops, opw o ≤ m) → 0 ≤ n → n ≤ toOf ops → ThI ops n m (thr keep n ops)
  | [], n, _, _, h0, h1 => by
    have : n = 0 := by simp only [toOf] at h1; omega
    subst this
    exact ⟨rfl, by simp [thr], by simp [thr], by simp [thr], Int.le_refl _⟩
  | o :: ops, n, hok, hm, h0, h1 => by
    by_cases hn : n = 0
    · subst hn
      rw [thr_zero _ _ _ (Int.le_refl 0)]
      exact ⟨by simp, hok, hm, by simp, by simp [opws]⟩
    · have ho := hok o List.mem_cons_self
      have hmo := hm o List.mem_cons_self
      have hok' : ∀ x ∈ ops, opOk x = true := fun x hx => hok x (List.mem_cons_of_mem _ hx)
      have hm' : ∀ x ∈ ops, opw x ≤ m := fun x hx => hm x (List.mem_cons_of_mem _ hx)
      have hpw := opw_pos ho
      rw [toOf_cons] at h1
      rw [thr, if_neg (by omega)]
      rcases opOk_cases ho with ⟨k1, k2, k3⟩ | ⟨k1, k2, k3⟩
      · have hopw : opw o = o.f1 := by unfold opw; rw [if_neg (by omega)]
        rw [if_neg (by omega)] at h1
        by_cases c3 : o.f0 = 3
        · rw [if_pos c3] at h1
          rw [if_pos c3]
          obtain ⟨t1, t2, t3, t4, t5⟩ := thr_inv keep ops n hok' hm' h0 (by omega)
          refine ⟨?_, t2, t3, ?_, ?_⟩
          · rw [toOf_cons, if_neg (by omega), if_pos c3, t1]; omega
          · intro x hx
            rcases List.mem_cons.1 hx with rfl | hx
            · exact fun _ => by show 0 ≤ o.f1; omega
            · exact t4 x hx
          · simp only [opws]
            have : opw (⟨3, o.f1, noText⟩ : S70) = o.f1 := rfl
            omega
        · rw [if_neg c3] at h1
          rw [if_neg c3, if_neg (by omega)]
          have hx3 : ∀ y : Int, opw (⟨if keep then 1 else 3, y, noText⟩ : S70) = y := fun y => by cases keep <;> rfl
          have hx4 : ∀ y : Int, 0 ≤ y → posN (⟨if keep then 1 else 3, y, noText⟩ : S70) := fun y hy _ => hy
          by_cases hle : o.f1 ≤ n
          · rw [if_pos hle]
            obtain ⟨t1, t2, t3, t4, t5⟩ := thr_inv keep ops (n - o.f1) hok' hm' (by omega) (by omega)
            refine ⟨?_, t2, t3, ?_, ?_⟩
            · show toOf (thr keep (n - o.f1) ops).2 = _
              rw [toOf_cons, if_neg (by omega), if_neg c3, t1]; omega
            · intro x hx
              rcases List.mem_cons.1 hx with rfl | hx
              · exact hx4 _ (by omega)
              · exact t4 x hx
            · simp only [opws]
              have := hx3 o.f1
              omega
          · rw [if_neg hle]
            have hr : opw (⟨1, o.f1 - n, noText⟩ : S70) = o.f1 - n := rfl
            refine ⟨?_, ?_, ?_, ?_, ?_⟩
            · show (if (1 : Int) = 2 then ((noText.size : Nat) : Int) else if (1 : Int) = 3 then 0 else o.f1 - n) + toOf ops = _
              rw [toOf_cons, if_neg (show ¬ o.f0 = 2 by omega), if_neg c3, if_neg (by decide), if_neg (by decide)]
              omega
            · intro x hx
              rcases List.mem_cons.1 hx with rfl | hx
              · exact opOk_num (.inl rfl) (by omega)
              · exact hok' x hx
            · intro x hx
              rcases List.mem_cons.1 hx with rfl | hx
              · rw [hr]; omega
              · exact hm' x hx
            · intro x hx
              rw [List.mem_singleton.1 hx]
              exact hx4 _ (by omega)
            · simp only [opws]
              have := hx3 n
              omega
      · have hopw : opw o = (o.f2.size : Int) := by unfold opw; rw [if_pos k1]
        rw [if_pos k1] at h1
        rw [if_neg (by omega), if_pos k1]
        have hput : ∀ t : ByteArray, opw (⟨2, 0, t⟩ : S70) = (t.size : Int) := fun t => rfl
        have hpp : ∀ t : ByteArray, posN (⟨2, 0, t⟩ : S70) := fun t hc => absurd rfl hc
        by_cases hle : (o.f2.size : Int) ≤ n
        · rw [if_pos hle]
          obtain ⟨t1, t2, t3, t4, t5⟩ := thr_inv keep ops (n - (o.f2.size : Int)) hok' hm' (by omega) (by omega)
          refine ⟨?_, t2, t3, ?_, ?_⟩
          · rw [toOf_cons, if_pos k1, t1]; omega
          · intro x hx
            rcases List.mem_cons.1 hx with rfl | hx
            · cases keep <;> exact hpp _
            · exact t4 x hx
          · simp only [opws]
            cases keep
            · have := hput noText
              rw [noText_size] at this
              simp only [Bool.false_eq_true, if_false]
              omega
            · have := hput o.f2
              simp only [if_true]
              omega
        · rw [if_neg hle]
          have hs1 : (o.f2.extract 0 n.toNat).size = n.toNat := by simp only [ByteArray.size_extract]; omega
          have hs2 : ((o.f2.extract n.toNat o.f2.size).size : Int) = (o.f2.size : Int) - n := by simp only [ByteArray.size_extract]; omega
          have hr := hput (o.f2.extract n.toNat o.f2.size)
          refine ⟨?_, ?_, ?_, ?_, ?_⟩
          · rw [toOf_cons, toOf_cons, if_pos k1]
            show (if (2 : Int) = 2 then ((o.f2.extract n.toNat o.f2.size).size : Int) else _) + toOf ops = _
            rw [if_pos rfl]
            omega
          · intro x hx
            rcases List.mem_cons.1 hx with rfl | hx
            · exact opOk_put (by omega)
            · exact hok' x hx
          · intro x hx
            rcases List.mem_cons.1 hx with rfl | hx
            · rw [hr]; omega
            · exact hm' x hx
          · intro x hx
            rw [List.mem_singleton.1 hx]
            cases keep <;> exact hpp _
          · simp only [opws]
            cases keep
            · have := hput noText
              rw [noText_size] at this
              simp only [Bool.false_eq_true, if_false]
              omega
            · have := hput (o.f2.extract 0 n.toNat)
              simp only [if_true]
              omega

/-- Compose's builder and what is left of the first delta -/
def cpStep (st : Bs × List S70) (o : S70) : Bs × List S70 := if o.f0 = 2 then (st.1.onPut o.f2, st.2) else ((thr (o.f0 == 1) o.f1 st.2).1.foldl Bs.step st.1, (thr (o.f0 == 1) o.f1 st.2).2)
def leftOps (a : List S70) : List S70 := a.map fun o => (⟨3, o.f1, noText⟩ : S70)
theorem cp_fold : ∀ (d : List S70) (st : Bs × List S70), (leftOps (d.foldl cpStep st).2).foldl Bs.step (d.foldl cpStep st).1 = (compOps st.2 d).foldl Bs.step st.1
  | [], st => by simp [compOps, leftOps]
  | o :: d, st => by
    rw [List.foldl_cons, cp_fold d]
    unfold cpStep
    by_cases h2 : o.f0 = 2
    · simp only [if_pos h2, compOps, List.foldl_cons, step_put]
    · simp only [if_neg h2, compOps, List.foldl_append]
def cpAt (a d : List S70) (k : Nat) : Bs × List S70 := (d.take k).foldl cpStep (Bs.new, a)
theorem cpAt_succ {a d : List S70} {k : Nat} (h : k < d.length) : cpAt a d (k + 1) = cpStep (cpAt a d k) (rd_T70 d (k : Int)) := by
  unfold cpAt
  rw [take_succ_rd h, List.foldl_append]
  rfl
structure CpI (a d : List S70) (k : Nat) (st : Bs × List S70) : Prop where
  left : toOf st.2 = toOf a - fromOf (d.take k)
  ok : ∀ o ∈ st.2, opOk o = true
  small : ∀ o ∈ st.2, opw o ≤ 268435456
  sum : ∃ m, BI st.1 m ∧ m + opws st.2 ≤ opws a + opws (d.take k)
theorem cpAt_I {a d : List S70} (ha : ∀ o ∈ a, opOk o = true) (hs : ∀ o ∈ a, opw o ≤ 268435456) (hok : ∀ o ∈ d, opOk o = true) (hf : fromOf d ≤ toOf a) : ∀ k, k ≤ d.length → CpI a d k (cpAt a d k)
  | 0, _ => ⟨by simp [cpAt, fromOf], ha, hs, 0, BI.new, by simp [cpAt, opws]⟩
  | k + 1, hk => by
    have hp : ∀ o ∈ d, posN o := fun o ho => kindOk_posN (opOk_kindOk (hok o ho))
    obtain ⟨h1, h2, h3, m, h4, h5⟩ := cpAt_I ha hs hok hf k (by omega)
    have hlt : k < d.length := by omega
    have hle := (from_take_le hp (k + 1)).1
    have ho := hok _ (rd_mem_at hlt)
    have hpo := hp _ (rd_mem_at hlt)
    rw [cpAt_succ hlt, cpStep]
    rw [take_succ_rd hlt, fromOf_append, fromOf_cons] at hle
    simp only [fromOf] at hle
    by_cases c2 : (rd_T70 d (k : Int)).f0 = 2
    · rw [if_pos c2]
      refine ⟨?_, h2, h3, _, h4.putS _, ?_⟩
      · rw [take_succ_rd hlt, fromOf_append, fromOf_cons, if_pos c2]
        simp only [fromOf]
        omega
      · rw [take_succ_rd hlt, opws_append, opws_one, opw, if_pos c2]
        show _ + opws (cpAt a d k).2 ≤ _
        omega
    · rw [if_neg c2]
      rw [if_neg c2] at hle
      have hn := hpo c2
      obtain ⟨t1, t2, t3, t4, t5⟩ := thr_inv ((rd_T70 d (k : Int)).f0 == 1) (cpAt a d k).2 (rd_T70 d (k : Int)).f1 h2 h3 hn (by omega)
      refine ⟨?_, t2, t3, _, BI.fold t4 h4, ?_⟩
      · rw [take_succ_rd hlt, fromOf_append, fromOf_cons, if_neg c2]
        simp only [fromOf]
        show toOf (thr _ _ _).2 = _
        omega
      · rw [take_succ_rd hlt, opws_append, opws_one, opw, if_neg c2]
        show _ + opws (thr _ _ _).2 ≤ _
        omega
end Go.Proofs.Ytidihnnkcmeaeaa.A
