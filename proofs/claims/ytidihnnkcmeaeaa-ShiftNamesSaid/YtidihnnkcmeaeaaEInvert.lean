/- delta.Invert: what it answers. No condition but that the lists can be read. -/
import Derived.Test.YtidihnnkcmeaeaaQ
import Derived.Test.YtidihnnkcmeaeaaEApply
namespace Go.Proofs.Ytidihnnkcmeaeaa.A
open Go.RowKit Go.Proofs.YtidihnnkcmeaeaaW.PrintWords Go.Proofs.YtidihnnkcmeaeaaW.PrintLast Go.Proofs.YtidihnnkcmeaeaaW.PrintMore
set_option linter.unusedVariables false
set_option linter.unusedSimpArgs false

theorem enters70 : Go.Proofs.Enters Try.prog 70 := Go.Proofs.enters_of Try.func70 (by kernel_rfl) rfl
theorem enters72 : Go.Proofs.Enters Try.prog 72 := Go.Proofs.enters_of Try.func72 (by kernel_rfl) rfl
theorem enters74 : Go.Proofs.Enters Try.prog 74 := Go.Proofs.enters_of Try.func74 (by kernel_rfl) rfl

/-- Invert's builder and what is left -/
def invStep (st : Bs × List Int) (o : S70) : Bs × List Int :=
  if o.f0 = 2 then (st.1.onDrop (o.f2.size : Int), st.2) else if o.f0 = 1 then (st.1.onKeep o.f1, st.2.drop o.f1.toNat) else (st.1.onPut (strOfNums (st.2.take o.f1.toNat)), st.2.drop o.f1.toNat)
theorem invStep_fold : ∀ (d : List S70) (st : Bs × List Int), (d.foldl invStep st).1 = (invOps d st.2).foldl Bs.step st.1
  | [], st => by simp [invOps]
  | o :: d, st => by
    rw [List.foldl_cons, invStep_fold d]
    unfold invStep
    by_cases h2 : o.f0 = 2
    · simp [invOps, h2, Bs.step]
    · by_cases h1 : o.f0 = 1
      · simp [invOps, h1, Bs.step]
      · simp [invOps, h2, h1, Bs.step]
def invAt (l0 : List Int) (d : List S70) (k : Nat) : Bs × List Int := (d.take k).foldl invStep (Bs.new, l0)
theorem invAt_succ {l0 : List Int} {d : List S70} {k : Nat} (h : k < d.length) : invAt l0 d (k + 1) = invStep (invAt l0 d k) (rd_T70 d (k : Int)) := by
  unfold invAt
  rw [take_succ_rd h, List.foldl_append]
  rfl
theorem strOfNums_size (xs : List Int) : (strOfNums xs).size = xs.length := by
  simp [strOfNums, ByteArray.size]
theorem opws_take_le {d : List S70} (hp : ∀ o ∈ d, posN o) (k : Nat) : opws (d.take k) ≤ opws d ∧ 0 ≤ opws (d.take k) :=
  ⟨opws_take hp k, opws_nonneg (fun o ho => hp o (List.mem_of_mem_take ho))⟩
theorem opws_one (o : S70) : opws [o] = opw o := by simp [opws]
/-- the sizes on the way -/
theorem invAt_len {l0 : List Int} {d : List S70} (hok : ∀ o ∈ d, opOk o = true) (hf : fromOf d = (l0.length : Int)) : ∀ k, k ≤ d.length → ((invAt l0 d k).2.length : Int) = l0.length - fromOf (d.take k) ∧ BI (invAt l0 d k).1 (opws (d.take k))
  | 0, _ => by
    refine ⟨by simp [invAt, fromOf], ?_⟩
    simpa [invAt, opws] using BI.new
  | k + 1, hk => by
    have hp : ∀ o ∈ d, posN o := fun o ho => kindOk_posN (opOk_kindOk (hok o ho))
    obtain ⟨h1, h2⟩ := invAt_len hok hf k (by omega)
    have hlt : k < d.length := by omega
    have hle := (from_take_le hp (k + 1)).1
    have ho := hok _ (rd_mem_at hlt)
    have hpo := hp _ (rd_mem_at hlt)
    rw [take_succ_rd hlt, fromOf_append, opws_append, opws_one, invAt_succ hlt] at *
    simp only [fromOf, opw] at *
    unfold invStep
    by_cases c2 : (rd_T70 d (k : Int)).f0 = 2
    · simp only [c2, if_true]
      exact ⟨by omega, h2.dropN (by omega)⟩
    · have h0 := hpo c2
      by_cases c1 : (rd_T70 d (k : Int)).f0 = 1
      · simp only [c1] at *
        refine ⟨?_, ?_⟩
        · simp at *
          omega
        · simp only [if_true, show ((1 : Int) = 2) = False by simp, if_false]
          exact h2.keep h0
      · simp only [if_neg c2, if_neg c1] at *
        refine ⟨by rw [List.length_drop]; omega, ?_⟩
        have := h2.putS (strOfNums (List.take (rd_T70 d (k : Int)).f1.toNat (invAt l0 d k).2))
        rw [strOfNums_size, List.length_take] at this
        exact this.mono (by omega)

/-- what Invert's variables hold behind k operations -/
def InvI (W0 : World) (g gp gb : Nat) (l0 : List Int) (d : List S70) (k : Nat) (W : World) : Prop :=
  Below W0.heap.size W0 W ∧ gp < W.heap.size ∧ gb < W.heap.size ∧ ∃ A N c, W.heap[gp]? = some (.cells #[.pointer (some ⟨g, 0, none⟩)] 97 (0, 0)) ∧ W.heap[gb]? = some (.cells #[.slice A N c] 23 (0, 0)) ∧ Kd.C (Kd.int .u8) W0 A N (invAt l0 d k).2 ∧ N ≤ c ∧ IsB W W0.heap.size (fun q => W0.heap.size ≤ q ∧ q ≠ gp ∧ q ≠ gb) g (invAt l0 d k).1

theorem invert_each (A0 : Option Addr) (c0 : Nat) (l0 : List Int) (d : List S70) (W0 w : World) (g gp gb : Nat) (hc0 : d.length ≤ c0) (hC : Kd.C k70 W0 A0 d.length d) (hok : ∀ o ∈ d, opOk o = true) (hf : fromOf d = (l0.length : Int)) (hf2 : fromOf d ≤ 268435456) (ht : toOf d ≤ 268435456)
    (hne : gp ≠ gb) (hgp : W0.heap.size ≤ gp) (hgb : W0.heap.size ≤ gb) (hI : InvI W0 g gp gb l0 d 0 w) :
    Calls Try.prog 65 #[.slice A0 d.length c0, .func (.func 70) #[] #[.pointer (some ⟨gp, 0, none⟩), .pointer (some ⟨gb, 0, none⟩)], .func (.func 72) #[] #[.pointer (some ⟨gp, 0, none⟩)], .func (.func 74) #[] #[.pointer (some ⟨gp, 0, none⟩), .pointer (some ⟨gb, 0, none⟩)]] w fun e w' => e = .returned (.bool true) ∧ InvI W0 g gp gb l0 d d.length w' := by
  have hp : ∀ o ∈ d, posN o := fun o ho => kindOk_posN (opOk_kindOk (hok o ho))
  have hw : opws d ≤ 536870912 := by have := opws_le hp; omega
  have hsz : ∀ k, k < d.length → ∀ {A : Option Addr} {N : Nat}, Kd.C (Kd.int .u8) W0 A N (invAt l0 d k).2 → (rd_T70 d (k : Int)).f0 ≠ 2 → 0 ≤ (rd_T70 d (k : Int)).f1 ∧ (rd_T70 d (k : Int)).f1.toNat ≤ N ∧ (rd_T70 d (k : Int)).f1 ≤ 268435456 := by
    intro k hk A N hCk h2
    have hN := Kd.C_len hCk
    have h1 := (invAt_len hok hf k (by omega)).1
    have h3 := (from_take_le hp (k + 1)).1
    have h5 := (from_take_le hp k).2
    rw [take_succ_rd hk, fromOf_append] at h3
    simp only [fromOf, if_neg h2] at h3
    have h4 := hp _ (rd_mem_at hk) h2
    omega
  have hbi : ∀ k, k < d.length → BI (invAt l0 d k).1 536870912 := fun k hk => ((invAt_len hok hf k (by omega)).2).mono (by have := opws_take_le hp k; omega)
  have hrm : ∀ k, k < d.length → ∀ {g : Nat} {W : World}, Kp (fun q => (W0.heap.size ≤ q ∧ q ≠ gp ∧ q ≠ gb) ∨ q = gb) W W → True := fun _ _ _ _ _ => trivial
  refine each_calls 70 72 74 enters70 enters72 enters74 #[] #[.pointer (some ⟨gp, 0, none⟩), .pointer (some ⟨gb, 0, none⟩)] #[] #[.pointer (some ⟨gp, 0, none⟩)] #[] #[.pointer (some ⟨gp, 0, none⟩), .pointer (some ⟨gb, 0, none⟩)] A0 c0 d w hc0 (fun o ho => opOk_kindOk (hok o ho))
    (InvI W0 g gp gb l0 d) hI (fun k W h => Kd.C_below hC h.1)
    (fun k W W' h hb => by
      obtain ⟨hB, hl1, hl2, A, N, c, h1, h2, h3, h4, h5⟩ := h
      exact ⟨hB.trans (hb.mono hB.size), Nat.lt_of_lt_of_le hl1 hb.size, Nat.lt_of_lt_of_le hl2 hb.size, A, N, c, blk_below h1 hb, blk_below h2 hb, h3, h4, h5.below hb⟩)
    (fun k W hk h h1 => by
      obtain ⟨hB, hl1, hl2, A, N, c, hb1, hb2, hCk, hc, hr⟩ := h
      obtain ⟨h0, hm, hn⟩ := hsz k hk hCk (by omega)
      have hbk := hbi k hk
      refine (inv1_calls W gp gb g W0.heap.size _ (invAt l0 d k).1 A N c _ _ _ hb1 hb2 hr (fun h => h.2.2 rfl) hB.size (fun q hq => ⟨Nat.le_trans hB.size hq, by omega, by omega⟩) (by have := hbk.len; omega) (fun hl => ⟨(hbk.lastN hl).1, by have := (hbk.lastN hl).2; omega, by have := (hbk.lastN hl).2; omega⟩) (by omega) h0 rfl hm).mono ?_
      rintro e w' ⟨rfl, q1, q2, q4⟩
      have hgpn : ¬ ((W0.heap.size ≤ gp ∧ gp ≠ gp ∧ gp ≠ gb) ∨ gp = gb) := by
        rintro (h | h)
        · exact h.2.1 rfl
        · exact hne h
      refine ⟨rfl, hB.trans (q4.below (fun q hq => by rcases hq with h | h <;> first | exact h.1 | (rw [h]; exact hgb)) hB.size), blk_lt (q4.blk hb1 hgpn), blk_lt q2, _, _, _, q4.blk hb1 hgpn, q2, ?_, by omega, ?_⟩
      · rw [invAt_succ hk, invStep, if_neg (by omega), if_pos h1]
        exact cutA_C hCk hm hc
      · rw [invAt_succ hk, invStep, if_neg (by omega), if_pos h1]
        exact q1)
    (fun k W hk h h1 => by
      obtain ⟨hB, hl1, hl2, A, N, c, hb1, hb2, hCk, hc, hr⟩ := h
      have hbk := hbi k hk
      have ho : opw (rd_T70 d (k : Int)) ≤ 536870912 := Int.le_trans (opw_mem_le hp _ (rd_mem_at hk)) hw
      rw [opw, if_pos h1] at ho
      refine (inv2_calls W gp g W0.heap.size _ (invAt l0 d k).1 _ _ hb1 hr hbk.drop (by have := hbk.drop_le; omega) (by omega)).mono ?_
      rintro e w' ⟨rfl, q1, q4⟩
      have hgpn : ¬ (W0.heap.size ≤ gp ∧ gp ≠ gp ∧ gp ≠ gb) := fun h => h.2.1 rfl
      have hgbn : ¬ (W0.heap.size ≤ gb ∧ gb ≠ gp ∧ gb ≠ gb) := fun h => h.2.2 rfl
      refine ⟨rfl, hB.trans (q4.below (fun q hq => hq.1) hB.size), blk_lt (q4.blk hb1 hgpn), blk_lt (q4.blk hb2 hgbn), A, N, c, q4.blk hb1 hgpn, q4.blk hb2 hgbn, ?_, hc, ?_⟩
      · rw [invAt_succ hk, invStep, if_pos h1]
        exact hCk
      · rw [invAt_succ hk, invStep, if_pos h1]
        exact q1)
    (fun k W hk h h1 => by
      obtain ⟨hB, hl1, hl2, A, N, c, hb1, hb2, hCk, hc, hr⟩ := h
      obtain ⟨h0, hm, hn⟩ := hsz k hk hCk (by omega)
      have hbk := hbi k hk
      refine (inv3_calls W gp gb g W0.heap.size _ (invAt l0 d k).1 (invAt l0 d k).2 A N c _ _ _ hb1 hb2 hr (Kd.C_below hCk hB) (fun h => h.2.2 rfl) hB.size (fun q hq => ⟨Nat.le_trans hB.size hq, by omega, by omega⟩) (by have := hbk.put_le; rw [strOfNums_size, List.length_take]; omega) h0 rfl hm hc).mono ?_
      rintro e w' ⟨rfl, q1, q2, q4⟩
      have hgpn : ¬ ((W0.heap.size ≤ gp ∧ gp ≠ gp ∧ gp ≠ gb) ∨ gp = gb) := by
        rintro (h | h)
        · exact h.2.1 rfl
        · exact hne h
      refine ⟨rfl, hB.trans (q4.below (fun q hq => by rcases hq with h | h <;> first | exact h.1 | (rw [h]; exact hgb)) hB.size), blk_lt (q4.blk hb1 hgpn), blk_lt q2, _, _, _, q4.blk hb1 hgpn, q2, ?_, by omega, ?_⟩
      · rw [invAt_succ hk, invStep, if_neg (by omega), if_neg (by omega)]
        exact cutA_C hCk hm hc
      · rw [invAt_succ hk, invStep, if_neg (by omega), if_neg (by omega)]
        exact q1)

/-- where the three begin -/
theorem inv_start (W0 w : World) (A0 : Option Addr) (c0 : Nat) (l0 : List Int) (d : List S70) (gb : Nat) (hB : Below W0.heap.size W0 w) (hbx : w.heap[gb]? = some (.cells #[.slice A0 l0.length c0] 23 (0, 0))) (hC : Kd.C (Kd.int .u8) W0 A0 l0.length l0) (hc : l0.length ≤ c0) :
    InvI W0 w.heap.size (w.heap.size + 1) gb l0 d 0 ((w.alloc (.cells #[.slice none 0 0, .int .i64 0, .slice none 0 0, .int .i64 0] 99)).alloc (.cells #[.pointer (some ⟨w.heap.size, 0, none⟩)] 97)) := by
  have hlt := blk_lt hbx
  have hs1 : (w.alloc (.cells #[.slice none 0 0, .int .i64 0, .slice none 0 0, .int .i64 0] 99)).heap.size = w.heap.size + 1 := by simp
  have hB1 : Below W0.heap.size W0 (w.alloc (.cells #[.slice none 0 0, .int .i64 0, .slice none 0 0, .int .i64 0] 99)) := below_alloc hB _
  have h97 := blk_new (w.alloc (.cells #[.slice none 0 0, .int .i64 0, .slice none 0 0, .int .i64 0] 99)) (.cells #[.pointer (some ⟨w.heap.size, 0, none⟩)] 97)
  rw [hs1] at h97
  have hbx1 := blk_alloc (blk_alloc hbx (.cells #[.slice none 0 0, .int .i64 0, .slice none 0 0, .int .i64 0] 99)) (.cells #[.pointer (some ⟨w.heap.size, 0, none⟩)] 97)
  have hnb : IsB (w.alloc (.cells #[.slice none 0 0, .int .i64 0, .slice none 0 0, .int .i64 0] 99)) W0.heap.size (fun q => W0.heap.size ≤ q ∧ q ≠ w.heap.size + 1 ∧ q ≠ gb) w.heap.size Bs.new :=
    ⟨⟨hB.size, by omega, by omega⟩, _, _, blk_new w _, Kd.R_nil _ _ _ _ _, Kd.R_nil _ _ _ _ _⟩
  exact ⟨below_alloc hB1 _, blk_lt h97, blk_lt hbx1, A0, l0.length, c0, h97, hbx1, hC, hc, hnb.below (below_alloc (Below.refl _ _) _)⟩

set_option maxHeartbeats 8000000 in
set_option maxRecDepth 100000 in
theorem delta_Invert.calls (A0 : Option Addr) (c0 : Nat) (l0 : List Int) (A1 : Option Addr) (c1 : Nat) (l1 : List (S70)) (r1 : List S70) (r2 : Int) (w : World) (hr0 : Kd.C (Kd.int .u8) w A0 l0.length l0) (hc0 : l0.length ≤ c0) (hr1 : Kd.C k70 w A1 l1.length l1) (hc1 : l1.length ≤ c1) (h : delta_Invert.f l0 l1 = some (r1, r2)) :
    Calls Try.prog 27 #[.slice A0 l0.length c0, .slice A1 l1.length c1] w fun e w' => ∃ v0_ : Value, e = .returned (.tuple #[v0_, .int .i64 r2]) ∧ Kd.R k70 70 w' w.heap.size (fun _ => True) v0_ r1 ∧ Below w.heap.size w w' := by
  have HR0 := Aside0.mk hr0
  have HC0 := Aside0.mk hc0
  have HR1 := Aside0.mk hr1
  have HC1 := Aside0.mk hc1
  have hlen : l1.length ≤ 9223372036854775807 := Kd.C_max hr1
  obtain ⟨kv, hkv⟩ := (valid_ev l1 hlen).rounds
  have HV := Aside0.mk hkv
  simp only [delta_Invert.f, Option.some.injEq] at h
  clear hr0 hc0 hr1 hc1 hkv
  by_cases hcan : canB l1 = true
  · rw [if_pos hcan] at h
    obtain ⟨kl, hkl⟩ := (lens_can hlen hcan).rounds
    have HL := Aside0.mk hkl
    rw [hcan] at HV
    have HCAN := Aside0.mk hcan
    clear hkl hcan
    by_cases hfit : fromOf l1 = (l0.length : Int)
    · rw [if_pos hfit] at h
      simp only [Prod.mk.injEq] at h
      obtain ⟨rfl, rfl⟩ := h
      have HFIT := Aside0.mk hfit
      have hne : (fromOf l1 != (l0.length : Int)) = false := bne_eq_false_iff_eq.mpr hfit
      clear hfit
      have hcl := canB_lens HCAN.out
      have HOK := Aside0.mk (chainOk_opOk hcl.1)
      have HLI := Aside0.mk hcl.2
      have HBI := Aside0.mk (((invAt_len HOK.out HFIT.out l1.length (Nat.le_refl _)).2).mono (m' := 536870912) (by rw [List.take_length]; have := opws_le (fun o ho => kindOk_posN (opOk_kindOk (HOK.out o ho))); omega))
      clear hcl
      go_enter Try.func27, Try.ntmps27
      go_wp2_with (first
        | (go_at_call 35; refine (delta_Valid.calls kv _ _ l1 _ _ (Kd.C_alloc HR1.out _) HC1.out HV.out).mono ?_; rintro e w2 ⟨rfl, hb2⟩; have HB2 := Aside0.mk ((below_alloc (Below.refl w.heap.size w) (.cells #[.slice A0 l0.length c0] 23)).trans (hb2.mono (by simp))); have HBX := Aside0.mk (blk_below (blk_new w (.cells #[.slice A0 l0.length c0] 23)) hb2); clear hb2)
        | (go_at_call 64; refine (delta_lens.calls kl _ _ l1 _ _ _ _ (Kd.C_below HR1.out HB2.out) HC1.out HL.out).mono ?_; rintro e w3 ⟨rfl, hb3⟩; have HB3 := Aside0.mk (HB2.out.trans (hb3.mono HB2.out.size)); have HBX3 := Aside0.mk (blk_below HBX.out hb3); clear hb3; have d0 : w3.cell? ⟨w.heap.size, 0, none⟩ = some (.slice A0 l0.length c0) := (blk_cell HBX3.out 0).trans rfl)
        | (go_at_call 65; (refine (invert_each A1 c1 l0 l1 w _ w3.heap.size (w3.heap.size + 1) w.heap.size HC1.out HR1.out HOK.out HFIT.out HLI.out.1 HLI.out.2 (by have := blk_lt HBX3.out; omega) (by have := HB3.out.size; omega) (Nat.le_refl _) (inv_start w w3 A0 c0 l0 l1 w.heap.size HB3.out HBX3.out HR0.out HC0.out)).mono ?_; rintro e w4 ⟨rfl, hB4, q1, q2, A4, N4, c4, q3, q4, q5, q6, q7⟩; have HB4 := Aside0.mk hB4; have HO4 := Aside0.mk q7; have d4 : w4.cell? ⟨w3.heap.size + 1, 0, none⟩ = some (.pointer (some ⟨w3.heap.size, 0, none⟩)) := (blk_cell q3 0).trans rfl; have HS := Aside0.mk (And.intro q1 q2); clear hB4 q1 q2 q3 q4 q5 q6 q7))
        | (go_at_call 76; (refine (done_calls _ w.heap.size _ _ _ HO4.out HB4.out.size (fun k hk => ⟨Nat.le_trans HB4.out.size hk, by have := HS.out.1; omega, by have := HS.out.2; omega⟩) (by have := HBI.out.len; omega)).mono ?_; rintro e w5 ⟨v5, rfl, ho5, hk5⟩; have HO5 := Aside0.mk ho5; have HB5 := Aside0.mk (HB4.out.trans (hk5.below (fun _ h => h.1) HB4.out.size)); clear ho5 hk5)))
      go_ret2
      refine ⟨_, rfl, ?_, HB5.out⟩
      have hfin : (invAt l0 l1 l1.length).1.done = canon (invOps l1 l0) := by
        unfold invAt canon
        rw [List.take_length, invStep_fold]
      rw [← hfin]
      exact Kd.R_mono HO5.out (fun _ _ => trivial)
    · rw [if_neg hfit] at h
      simp only [Prod.mk.injEq] at h
      obtain ⟨rfl, rfl⟩ := h
      have hne : (fromOf l1 != (l0.length : Int)) = true := bne_iff_ne.mpr hfit
      clear hfit
      go_enter Try.func27, Try.ntmps27
      go_wp2_with (first
        | (go_at_call 35; refine (delta_Valid.calls kv _ _ l1 _ _ (Kd.C_alloc HR1.out _) HC1.out HV.out).mono ?_; rintro e w2 ⟨rfl, hb2⟩; have HB2 := Aside0.mk ((below_alloc (Below.refl w.heap.size w) (.cells #[.slice A0 l0.length c0] 23)).trans (hb2.mono (by simp))); have HBX := Aside0.mk (blk_below (blk_new w (.cells #[.slice A0 l0.length c0] 23)) hb2); clear hb2)
        | (go_at_call 64; refine (delta_lens.calls kl _ _ l1 _ _ _ _ (Kd.C_below HR1.out HB2.out) HC1.out HL.out).mono ?_; rintro e w3 ⟨rfl, hb3⟩; have HB3 := Aside0.mk (HB2.out.trans (hb3.mono HB2.out.size)); have HBX3 := Aside0.mk (blk_below HBX.out hb3); clear hb3; have d0 : w3.cell? ⟨w.heap.size, 0, none⟩ = some (.slice A0 l0.length c0) := (blk_cell HBX3.out 0).trans rfl))
      go_ret2
      exact ⟨_, rfl, Kd.R_nil _ _ _ _ _, HB3.out⟩
  · rw [if_neg hcan] at h
    simp only [Prod.mk.injEq] at h
    obtain ⟨rfl, rfl⟩ := h
    simp only [Bool.not_eq_true] at hcan
    rw [hcan] at HV
    go_enter Try.func27, Try.ntmps27
    go_wp2_with (go_at_call 35; refine (delta_Valid.calls kv _ _ l1 _ _ (Kd.C_alloc HR1.out _) HC1.out HV.out).mono ?_; rintro e w2 ⟨rfl, hb2⟩; have HB2 := Aside0.mk ((below_alloc (Below.refl w.heap.size w) (.cells #[.slice A0 l0.length c0] 23)).trans (hb2.mono (by simp))); clear hb2)
    go_ret2
    exact ⟨_, rfl, Kd.R_nil _ _ _ _ _, HB2.out⟩
end Go.Proofs.Ytidihnnkcmeaeaa.A
