/- delta.Apply: what it answers. No condition but that the lists can be read. -/
import Derived.Test.YtidihnnkcmeaeaaN
import Derived.Test.YtidihnnkcmeaeaaA4
namespace Go.Proofs.Ytidihnnkcmeaeaa.A
open Go.RowKit Go.Proofs.YtidihnnkcmeaeaaW.PrintWords Go.Proofs.YtidihnnkcmeaeaaW.PrintLast Go.Proofs.YtidihnnkcmeaeaaW.PrintMore
set_option linter.unusedVariables false
set_option linter.unusedSimpArgs false

theorem fromOf_append (a b : List S70) : fromOf (a ++ b) = fromOf a + fromOf b := by
  induction a with
  | nil => simp [fromOf]
  | cons o a ih => rw [List.cons_append, fromOf_cons, fromOf_cons, ih]; omega
theorem toOf_append (a b : List S70) : toOf (a ++ b) = toOf a + toOf b := by
  induction a with
  | nil => simp [toOf]
  | cons o a ih => rw [List.cons_append, toOf_cons, toOf_cons, ih]; omega
theorem opOk_kindOk {o : S70} (h : opOk o = true) : kindOk o = true := by
  simp only [opOk, Bool.or_eq_true, Bool.and_eq_true, beq_iff_eq, decide_eq_true_eq, bne_iff_ne] at h
  simp only [kindOk, Bool.and_eq_true, decide_eq_true_eq, Bool.or_eq_true, beq_iff_eq]
  omega
theorem chainP_opOk : ∀ {p : Option S70} {d : List S70}, chainP p d = true → ∀ o ∈ d, opOk o = true
  | _, [], _, o, ho => by simp at ho
  | p, a :: d, h, o, ho => by
    simp only [chainP, Bool.and_eq_true] at h
    rcases List.mem_cons.1 ho with rfl | ho
    · exact h.1.1
    · exact chainP_opOk h.2 o ho
theorem chainOk_opOk {d : List S70} (h : chainOk d = true) : ∀ o ∈ d, opOk o = true := chainP_opOk (by rw [chainP_none]; exact h)

/-- Apply's two variables: what is written, what is left -/
def apStep (st : List Int × List Int) (o : S70) : List Int × List Int :=
  if o.f0 = 2 then (st.1 ++ bytesOf o.f2, st.2) else if o.f0 = 1 then (st.1 ++ st.2.take o.f1.toNat, st.2.drop o.f1.toNat) else (st.1, st.2.drop o.f1.toNat)
theorem apStep_fold : ∀ (d : List S70) (st : List Int × List Int), (d.foldl apStep st).1 = st.1 ++ ap bytesOf d st.2
  | [], st => by simp [ap]
  | o :: d, st => by
    rw [List.foldl_cons, apStep_fold d]
    unfold apStep
    by_cases h2 : o.f0 = 2
    · simp [ap, h2]
    · by_cases h1 : o.f0 = 1
      · simp [ap, h1]
      · simp [ap, h2, h1]
def apAt (l0 : List Int) (d : List S70) (k : Nat) : List Int × List Int := (d.take k).foldl apStep ([], l0)
theorem apAt_succ {l0 : List Int} {d : List S70} {k : Nat} (h : k < d.length) : apAt l0 d (k + 1) = apStep (apAt l0 d k) (rd_T70 d (k : Int)) := by
  unfold apAt rd_T70
  rw [Int.toNat_natCast, List.take_succ_eq_append_getElem h, List.foldl_append, List.getD_eq_getElem?_getD, List.getElem?_eq_getElem h]
  rfl
theorem take_succ_rd {d : List S70} {k : Nat} (h : k < d.length) : d.take (k + 1) = d.take k ++ [rd_T70 d (k : Int)] := by
  unfold rd_T70
  rw [Int.toNat_natCast, List.take_succ_eq_append_getElem h, List.getD_eq_getElem?_getD, List.getElem?_eq_getElem h]
  rfl
theorem from_take_le {d : List S70} (hp : ∀ o ∈ d, posN o) (k : Nat) : fromOf (d.take k) ≤ fromOf d ∧ 0 ≤ fromOf (d.take k) := by
  have h := fromOf_append (d.take k) (d.drop k)
  rw [List.take_append_drop] at h
  have := fromOf_nonneg (d := d.drop k) (fun o ho => hp o (List.mem_of_mem_drop ho))
  have := fromOf_nonneg (d := d.take k) (fun o ho => hp o (List.mem_of_mem_take ho))
  omega
theorem to_take_le {d : List S70} (hp : ∀ o ∈ d, posN o) (k : Nat) : toOf (d.take k) ≤ toOf d ∧ 0 ≤ toOf (d.take k) := by
  have h := toOf_append (d.take k) (d.drop k)
  rw [List.take_append_drop] at h
  have := toOf_nonneg (d := d.drop k) (fun o ho => hp o (List.mem_of_mem_drop ho))
  have := toOf_nonneg (d := d.take k) (fun o ho => hp o (List.mem_of_mem_take ho))
  omega
/-- the sizes on the way -/
theorem apAt_len {l0 : List Int} {d : List S70} (hok : ∀ o ∈ d, opOk o = true) (hf : fromOf d = (l0.length : Int)) : ∀ k, k ≤ d.length → ((apAt l0 d k).2.length : Int) = l0.length - fromOf (d.take k) ∧ ((apAt l0 d k).1.length : Int) = toOf (d.take k)
  | 0, _ => by simp [apAt, fromOf, toOf]
  | k + 1, hk => by
    have hp : ∀ o ∈ d, posN o := fun o ho => kindOk_posN (opOk_kindOk (hok o ho))
    obtain ⟨h1, h2⟩ := apAt_len hok hf k (by omega)
    have hlt : k < d.length := by omega
    have hle := (from_take_le hp (k + 1)).1
    have ho := hok _ (rd_mem_at hlt)
    rw [take_succ_rd hlt, fromOf_append, toOf_append, apAt_succ hlt] at *
    simp only [fromOf, toOf] at *
    simp only [opOk, Bool.or_eq_true, Bool.and_eq_true, beq_iff_eq, decide_eq_true_eq, bne_iff_ne] at ho
    unfold apStep
    by_cases c2 : (rd_T70 d (k : Int)).f0 = 2
    · simp only [c2, if_true]
      refine ⟨by omega, ?_⟩
      rw [List.length_append, bytesOf_length]
      omega
    · by_cases c1 : (rd_T70 d (k : Int)).f0 = 1
      · simp only [c1] at *
        simp at *
        omega
      · have c3 : (rd_T70 d (k : Int)).f0 = 3 := by omega
        simp only [c3] at *
        simp at *
        omega

theorem enters66 : Go.Proofs.Enters Try.prog 66 := Go.Proofs.enters_of Try.func66 (by kernel_rfl) rfl
theorem enters67 : Go.Proofs.Enters Try.prog 67 := Go.Proofs.enters_of Try.func67 (by kernel_rfl) rfl
theorem enters68 : Go.Proofs.Enters Try.prog 68 := Go.Proofs.enters_of Try.func68 (by kernel_rfl) rfl

/-- what Apply's two variables hold behind k operations -/
def ApI (W0 : World) (go gb : Nat) (l0 : List Int) (d : List S70) (k : Nat) (W : World) : Prop :=
  Below W0.heap.size W0 W ∧ ∃ A N c vo, W.heap[gb]? = some (.cells #[.slice A N c] 23 (0, 0)) ∧ W.heap[go]? = some (.cells #[vo] 23 (0, 0)) ∧ Kd.C (Kd.int .u8) W0 A N (apAt l0 d k).2 ∧ N ≤ c ∧ Kd.R (Kd.int .u8) 5 W W0.heap.size (fun q => W0.heap.size ≤ q) vo (apAt l0 d k).1

theorem apply_each (A0 : Option Addr) (c0 : Nat) (l0 : List Int) (d : List S70) (W0 w : World) (go gb : Nat) (hc0 : d.length ≤ c0) (hC : Kd.C k70 W0 A0 d.length d) (hok : ∀ o ∈ d, opOk o = true) (hf : fromOf d = (l0.length : Int)) (hf2 : fromOf d ≤ 268435456) (ht : toOf d ≤ 268435456)
    (hne : go ≠ gb) (hgo : W0.heap.size ≤ go) (hgb : W0.heap.size ≤ gb) (hI : ApI W0 go gb l0 d 0 w) :
    Calls Try.prog 65 #[.slice A0 d.length c0, .func (.func 66) #[] #[.pointer (some ⟨go, 0, none⟩), .pointer (some ⟨gb, 0, none⟩)], .func (.func 67) #[] #[.pointer (some ⟨go, 0, none⟩)], .func (.func 68) #[] #[.pointer (some ⟨gb, 0, none⟩)]] w fun e w' => e = .returned (.bool true) ∧ ApI W0 go gb l0 d d.length w' := by
  have hp : ∀ o ∈ d, posN o := fun o ho => kindOk_posN (opOk_kindOk (hok o ho))
  have hown : ∀ {W : World} {vo : Value} {xs : List Int}, Kd.R (Kd.int .u8) 5 W W0.heap.size (fun q => W0.heap.size ≤ q) vo xs → ∀ q, some q = vo.ownBlock → W0.heap.size ≤ q := fun h q hq => h.1 q hq.symm
  have hsz : ∀ k, k < d.length → ∀ {A : Option Addr} {N : Nat}, Kd.C (Kd.int .u8) W0 A N (apAt l0 d k).2 → (rd_T70 d (k : Int)).f0 ≠ 2 → 0 ≤ (rd_T70 d (k : Int)).f1 ∧ (rd_T70 d (k : Int)).f1.toNat ≤ N ∧ (rd_T70 d (k : Int)).f1 ≤ 268435456 := by
    intro k hk A N hCk h2
    have hN := Kd.C_len hCk
    have h1 := (apAt_len hok hf k (by omega)).1
    have h3 := (from_take_le hp (k + 1)).1
    have h5 := (from_take_le hp k).2
    rw [take_succ_rd hk, fromOf_append] at h3
    simp only [fromOf, if_neg h2] at h3
    have h4 := hp _ (rd_mem_at hk) h2
    omega
  have hso : ∀ k, k ≤ d.length → ((apAt l0 d k).1.length : Int) ≤ 268435456 := fun k hk => by
    have := (apAt_len hok hf k hk).2
    have := (to_take_le hp k).1
    omega
  exact each_calls 66 67 68 enters66 enters67 enters68 #[] #[.pointer (some ⟨go, 0, none⟩), .pointer (some ⟨gb, 0, none⟩)] #[] #[.pointer (some ⟨go, 0, none⟩)] #[] #[.pointer (some ⟨gb, 0, none⟩)] A0 c0 d w hc0 (fun o ho => opOk_kindOk (hok o ho))
    (ApI W0 go gb l0 d) hI (fun k W h => Kd.C_below hC h.1)
    (fun k W W' h hb => by
      obtain ⟨hB, A, N, c, vo, h1, h2, h3, h4, h5⟩ := h
      exact ⟨hB.trans (hb.mono hB.size), A, N, c, vo, blk_below h1 hb, blk_below h2 hb, h3, h4, Kd.R_below h5 hb⟩)
    (fun k W hk h h1 => by
      obtain ⟨hB, A, N, c, vo, hb1, hb2, hCk, hc, hr⟩ := h
      obtain ⟨h0, hm, hn⟩ := hsz k hk hCk (by omega)
      refine (ap1_calls W go gb W0.heap.size (fun q => W0.heap.size ≤ q) vo (apAt l0 d k).1 (apAt l0 d k).2 A N c _ _ _ hb2 hb1 hne hr (Kd.C_below hCk hB) hB.size (fun q hq => Nat.le_trans hB.size hq) h0 rfl hm hc (by have := hso k (by omega); omega)).mono ?_
      rintro e w' ⟨rfl, q1, v1, q2, q3, q4⟩
      refine ⟨rfl, hB.trans (q4.below (fun q hq => by rcases hq with h | h | h <;> first | (rw [h]; assumption) | exact hown hr q h) hB.size), _, _, _, v1, q1, q2, ?_, by omega, ?_⟩
      · rw [apAt_succ hk, apStep, if_neg (by omega), if_pos h1]
        exact cutA_C hCk hm hc
      · rw [apAt_succ hk, apStep, if_neg (by omega), if_pos h1]
        exact q3)
    (fun k W hk h h1 => by
      obtain ⟨hB, A, N, c, vo, hb1, hb2, hCk, hc, hr⟩ := h
      have hs2 : (((rd_T70 d (k : Int)).f2.size : Nat) : Int) ≤ 268435456 := by
        have h3 := (to_take_le hp (k + 1)).1
        have h5 := (to_take_le hp k).2
        rw [take_succ_rd hk, toOf_append] at h3
        simp only [toOf, if_pos h1] at h3
        omega
      refine (ap2_calls W go W0.heap.size (fun q => W0.heap.size ≤ q) vo (apAt l0 d k).1 _ _ hb2 hr hB.size (fun q hq => Nat.le_trans hB.size hq) hgo (by have := hso k (by omega); omega)).mono ?_
      rintro e w' ⟨rfl, v1, q2, q3, q4⟩
      have hgv : ¬ (gb = go ∨ some gb = vo.ownBlock) := by
        rintro (h | h)
        · exact hne h.symm
        · exact Kd.R_ne hr hb1 (by decide) h
      refine ⟨rfl, hB.trans (q4.below (fun q hq => by rcases hq with h | h <;> first | (rw [h]; assumption) | exact hown hr q h) hB.size), A, N, c, v1, q4.blk hb1 hgv, q2, ?_, hc, ?_⟩
      · rw [apAt_succ hk, apStep, if_pos h1]
        exact hCk
      · rw [apAt_succ hk, apStep, if_pos h1]
        exact q3)
    (fun k W hk h h1 => by
      obtain ⟨hB, A, N, c, vo, hb1, hb2, hCk, hc, hr⟩ := h
      obtain ⟨h0, hm, hn⟩ := hsz k hk hCk (by omega)
      refine (ap3_calls W gb A N c _ _ _ hb1 h0 rfl hm).mono ?_
      rintro e w' ⟨rfl, q1, q4⟩
      refine ⟨rfl, hB.trans (q4.below (fun q hq => by rw [hq]; exact hgb) hB.size), _, _, _, vo, q1, q4.blk hb2 hne, ?_, by omega, ?_⟩
      · rw [apAt_succ hk, apStep, if_neg (by omega), if_neg (by omega)]
        exact cutA_C hCk hm hc
      · rw [apAt_succ hk, apStep, if_neg (by omega), if_neg (by omega)]
        exact Kd.R_mono (q4.row (Kd.R_types hr hb1 ne5_23) (fun q hq => hq.2)) (fun q hq => hq.1))

set_option maxHeartbeats 8000000 in
set_option maxRecDepth 100000 in
theorem delta_Apply.calls (A0 : Option Addr) (c0 : Nat) (l0 : List Int) (A1 : Option Addr) (c1 : Nat) (l1 : List (S70)) (r1 : List Int) (r2 : Int) (w : World) (hr0 : Kd.C (Kd.int .u8) w A0 l0.length l0) (hc0 : l0.length ≤ c0) (hr1 : Kd.C k70 w A1 l1.length l1) (hc1 : l1.length ≤ c1) (h : delta_Apply.f l0 l1 = some (r1, r2)) :
    Calls Try.prog 24 #[.slice A0 l0.length c0, .slice A1 l1.length c1] w fun e w' => ∃ v0_ : Value, e = .returned (.tuple #[v0_, .int .i64 r2]) ∧ Kd.R (Kd.int .u8) 5 w' w.heap.size (fun _ => True) v0_ r1 ∧ Below w.heap.size w w' := by
  have HR0 := Aside0.mk hr0
  have HC0 := Aside0.mk hc0
  have HR1 := Aside0.mk hr1
  have HC1 := Aside0.mk hc1
  have hlen : l1.length ≤ 9223372036854775807 := Kd.C_max hr1
  obtain ⟨kv, hkv⟩ := (valid_ev l1 hlen).rounds
  have HV := Aside0.mk hkv
  simp only [delta_Apply.f, Option.some.injEq] at h
  clear hr0 hc0 hr1 hc1 hkv
  by_cases hcan : canB l1 = true
  · rw [if_pos hcan] at h
    obtain ⟨kl, hkl⟩ := (lens_can hlen hcan).rounds
    have HL := Aside0.mk hkl
    rw [hcan] at HV
    have HCAN := Aside0.mk hcan
    clear hkl hcan
    by_cases hfit : fromOf l1 = (l0.length : Int)
    · rw [if_pos hfit] at h
      simp only [Prod.mk.injEq] at h
      obtain ⟨rfl, rfl⟩ := h
      have HFIT := Aside0.mk hfit
      have hne : (fromOf l1 != (l0.length : Int)) = false := bne_eq_false_iff_eq.mpr hfit
      clear hfit
      have hcl := canB_lens HCAN.out
      have HOK := Aside0.mk (chainOk_opOk hcl.1)
      have HLI := Aside0.mk hcl.2
      clear hcl
      go_enter Try.func24, Try.ntmps24
      go_wp2_with (first
        | (go_at_call 35; refine (delta_Valid.calls kv _ _ l1 _ _ (Kd.C_alloc HR1.out _) HC1.out HV.out).mono ?_; rintro e w2 ⟨rfl, hb2⟩; have HB2 := Aside0.mk ((below_alloc (Below.refl w.heap.size w) (.cells #[.slice A0 l0.length c0] 23)).trans (hb2.mono (by simp))); have HBX := Aside0.mk (blk_below (blk_new w (.cells #[.slice A0 l0.length c0] 23)) hb2); clear hb2)
        | (go_at_call 64; refine (delta_lens.calls kl _ _ l1 _ _ _ _ (Kd.C_below HR1.out HB2.out) HC1.out HL.out).mono ?_; rintro e w3 ⟨rfl, hb3⟩; have HB3 := Aside0.mk (HB2.out.trans (hb3.mono HB2.out.size)); have HBX3 := Aside0.mk (blk_below HBX.out hb3); clear hb3; have d0 : w3.cell? ⟨w.heap.size, 0, none⟩ = some (.slice A0 l0.length c0) := (blk_cell HBX3.out 0).trans rfl)
        | (go_at_call 65; refine (apply_each A1 c1 l0 l1 w _ w3.heap.size w.heap.size HC1.out HR1.out HOK.out HFIT.out HLI.out.1 HLI.out.2 (by have := blk_lt HBX3.out; omega) HB3.out.size (Nat.le_refl _) ⟨below_alloc HB3.out _, A0, l0.length, c0, .slice none 0 0, blk_alloc HBX3.out _, blk_new w3 _, HR0.out, HC0.out, Kd.R_nil _ _ _ _ _⟩).mono ?_; rintro e w4 ⟨rfl, hB4, A4, N4, c4, vo4, q1, q2, q3, q4, q5⟩; obtain ⟨Av, cv, hvo⟩ := Kd.R_slice q5; subst hvo; have HB4 := Aside0.mk hB4; have HO4 := Aside0.mk q5; have HG4 := Aside0.mk q2; clear hB4 q1 q2 q3 q4 q5; have d4 := (blk_cell HG4.out 0).trans rfl))
      go_ret2
      refine ⟨_, rfl, ?_, HB4.out⟩
      have hfin : (apAt l0 l1 l1.length).1 = ap bytesOf l1 l0 := by
        unfold apAt
        rw [List.take_length, apStep_fold]
        simp
      rw [← hfin]
      exact Kd.R_mono HO4.out (fun _ _ => trivial)
    · rw [if_neg hfit] at h
      simp only [Prod.mk.injEq] at h
      obtain ⟨rfl, rfl⟩ := h
      have hne : (fromOf l1 != (l0.length : Int)) = true := bne_iff_ne.mpr hfit
      clear hfit
      go_enter Try.func24, Try.ntmps24
      go_wp2_with (first
        | (go_at_call 35; refine (delta_Valid.calls kv _ _ l1 _ _ (Kd.C_alloc HR1.out _) HC1.out HV.out).mono ?_; rintro e w2 ⟨rfl, hb2⟩; have HB2 := Aside0.mk ((below_alloc (Below.refl w.heap.size w) (.cells #[.slice A0 l0.length c0] 23)).trans (hb2.mono (by simp))); have HBX := Aside0.mk (blk_below (blk_new w (.cells #[.slice A0 l0.length c0] 23)) hb2); clear hb2)
        | (go_at_call 64; refine (delta_lens.calls kl _ _ l1 _ _ _ _ (Kd.C_below HR1.out HB2.out) HC1.out HL.out).mono ?_; rintro e w3 ⟨rfl, hb3⟩; have HB3 := Aside0.mk (HB2.out.trans (hb3.mono HB2.out.size)); have HBX3 := Aside0.mk (blk_below HBX.out hb3); clear hb3; have d0 : w3.cell? ⟨w.heap.size, 0, none⟩ = some (.slice A0 l0.length c0) := (blk_cell HBX3.out 0).trans rfl))
      go_ret2
      exact ⟨_, rfl, Kd.R_nil _ _ _ _ _, HB3.out⟩
  · rw [if_neg hcan] at h
    simp only [Prod.mk.injEq] at h
    obtain ⟨rfl, rfl⟩ := h
    simp only [Bool.not_eq_true] at hcan
    rw [hcan] at HV
    go_enter Try.func24, Try.ntmps24
    go_wp2_with (go_at_call 35; refine (delta_Valid.calls kv _ _ l1 _ _ (Kd.C_alloc HR1.out _) HC1.out HV.out).mono ?_; rintro e w2 ⟨rfl, hb2⟩; have HB2 := Aside0.mk ((below_alloc (Below.refl w.heap.size w) (.cells #[.slice A0 l0.length c0] 23)).trans (hb2.mono (by simp))); clear hb2)
    go_ret2
    exact ⟨_, rfl, Kd.R_nil _ _ _ _ _, HB2.out⟩
end Go.Proofs.Ytidihnnkcmeaeaa.A
