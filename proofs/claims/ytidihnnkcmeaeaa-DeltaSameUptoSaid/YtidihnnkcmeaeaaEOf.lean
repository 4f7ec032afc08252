/- delta.Of: what it answers. No condition but room for the texts together. -/
import Derived.Test.YtidihnnkcmeaeaaECanon
namespace Go.Proofs.Ytidihnnkcmeaeaa.A
open Go.RowKit Go.Proofs.YtidihnnkcmeaeaaW.PrintWords Go.Proofs.YtidihnnkcmeaeaaW.PrintLast Go.Proofs.YtidihnnkcmeaeaaW.PrintMore
set_option linter.unusedVariables false
set_option linter.unusedSimpArgs false

theorem rd91_drop {d : List S91} {k : Nat} (h : k < d.length) : d.drop k = rd_T91 d (k : Int) :: d.drop (k + 1) := by
  unfold rd_T91
  rw [Int.toNat_natCast, List.getD_eq_getElem?_getD, List.getElem?_eq_getElem h]
  exact List.drop_eq_getElem_cons h
theorem rd91_mem {d : List S91} {k : Nat} (h : k < d.length) : rd_T91 d (k : Int) ∈ d := by
  unfold rd_T91
  rw [Int.toNat_natCast, List.getD_eq_getElem?_getD, List.getElem?_eq_getElem h]
  exact List.getElem_mem h
theorem putsOf_nonneg : ∀ d : List S91, 0 ≤ putsOf d
  | [] => Int.le_refl 0
  | c :: d => by have := putsOf_nonneg d; simp only [putsOf]; omega
theorem putsOf_drop_le (d : List S91) : ∀ k, putsOf (d.drop k) ≤ putsOf d := by
  induction d with
  | nil => intro k; simp
  | cons c d ih =>
    intro k
    cases k with
    | zero => simp
    | succ k => simp only [List.drop_succ_cons, putsOf]; have := ih k; omega

theorem opws_ofOps (n : Int) : ∀ (cs : List S91) (a : Int), opws (ofOps n a cs) = n - a + putsOf cs
  | [], a => by simp [ofOps, opws, opw, putsOf]
  | c :: cs, a => by
    have := opws_ofOps n cs c.f1
    simp only [ofOps, opws, opw, putsOf, this]
    simp
    omega

set_option maxHeartbeats 8000000 in
set_option maxRecDepth 100000 in
theorem delta_Of.calls (a0 : Int) (A1 : Option Addr) (c1 : Nat) (l1 : List (S91)) (r1 : List S70) (r2 : Int) (w : World) (hr1 : Kd.C k91 w A1 l1.length l1) (hc1 : l1.length ≤ c1) (h : delta_Of.f a0 l1 = some (r1, r2)) :
    Calls Try.prog 33 #[.int .i64 a0, .slice A1 l1.length c1] w fun e w' => ∃ v0_ : Value, e = .returned (.tuple #[v0_, .int .i64 r2]) ∧ Kd.R k70 70 w' w.heap.size (fun _ => True) v0_ r1 ∧ Below w.heap.size w w' := by
  have hu91 := Try.underlying91
  have HR1 := Aside0.mk hr1
  have HC1 := Aside0.mk hc1
  have hlen : (l1.length : Int) ≤ 9223372036854775807 := by have := Kd.C_max hr1; omega
  by_cases hp : putsOf l1 ≤ 549755813888
  rotate_left
  · rw [delta_Of.f, if_neg hp] at h
    cases h
  rw [delta_Of.f, if_pos hp] at h
  have HP := Aside0.mk hp
  simp only [Option.some.injEq] at h
  clear hr1 hc1 hp
  by_cases g1 : a0 < 0
  · rw [if_neg (by omega)] at h
    simp only [Prod.mk.injEq] at h
    obtain ⟨rfl, rfl⟩ := h
    go_enter Try.func33, Try.ntmps33
    go_wp2
    go_ret2
    exact ⟨_, rfl, Kd.R_nil _ _ _ _ _, Below.refl _ _⟩
  by_cases g2 : 268435456 < a0
  · rw [if_neg (by omega)] at h
    simp only [Prod.mk.injEq] at h
    obtain ⟨rfl, rfl⟩ := h
    go_enter Try.func33, Try.ntmps33
    go_wp2
    go_ret2
    exact ⟨_, rfl, Kd.R_nil _ _ _ _ _, Below.refl _ _⟩
  rw [if_pos (by omega)] at h
  have HF := Aside0.mk h
  clear h
  have g1' : 0 ≤ a0 := by omega
  have g2' : a0 ≤ 268435456 := by omega
  go_enter Try.func33, Try.ntmps33
  go_wp2
  go_loopw [23] (fun v wr => ∃ k : Nat, k ≤ l1.length ∧ v = .int .i64 k ∧ Aside0 (Below w.heap.size w wr) ∧ Aside0 (∀ o ∈ l1.take k, inRange a0 o = true)) (fun v _ => l1.length - (intOf v).toNat)
  case atStart => exact ⟨0, Nat.zero_le _, rfl, ⟨Below.refl _ _⟩, ⟨fun o ho => by simp at ho⟩⟩
  case round =>
    obtain ⟨k, hk, rfl, HB, HK⟩ := hrel
    by_cases hlt : k < l1.length
    · have hlt' : (k : Int) < (l1.length : Int) := by omega
      have hk0 : (0 : Int) ≤ (k : Int) := by omega
      obtain ⟨ad, e1, hx0, hx1, hx2⟩ := at_T91 (Kd.C_below HR1.out HB.out) (k : Int) hk0 hlt'
      subst e1
      rw [Int.toNat_natCast] at hx0 hx1 hx2
      have hmem := rd91_mem hlt
      have hbad : inRange a0 (rd_T91 l1 (k : Int)) = false → r1 = [] ∧ r2 = 2 := by
        intro hb
        have := HF.out
        rw [if_neg (by intro hall; have := List.all_eq_true.mp hall _ hmem; rw [hb] at this; cases this)] at this
        simp only [Prod.mk.injEq] at this
        exact ⟨this.1.symm, this.2.symm⟩
      have HBAD := Aside0.mk hbad
      have hgood : inRange a0 (rd_T91 l1 (k : Int)) = true → ∀ o ∈ l1.take (k + 1), inRange a0 o = true := by
        intro hg o ho
        rw [List.take_succ_eq_append_getElem hlt] at ho
        rcases List.mem_append.1 ho with ho | ho
        · exact HK.out o ho
        · have : rd_T91 l1 (k : Int) = l1[k] := by unfold rd_T91; rw [Int.toNat_natCast, List.getD_eq_getElem?_getD, List.getElem?_eq_getElem hlt]; rfl
          rw [List.mem_singleton.1 ho, ← this]
          exact hg
      have HGOOD := Aside0.mk hgood
      clear hbad hgood hmem
      by_cases t1 : (rd_T91 l1 (k : Int)).f0 < 0
      · obtain ⟨rfl, rfl⟩ := HBAD.out (by simp [inRange]; omega)
        go_wp2
        go_ret2
        exact ⟨_, rfl, Kd.R_nil _ _ _ _ _, by repeat (first | (with_reducible first | exact HB.out | apply below_alloc | apply pw_below_drewN | apply below_drew1) | exact HB.out)⟩
      · have t1b : decide ((rd_T91 l1 (k : Int)).f0 < 0) = false := decide_eq_false t1
        by_cases t2 : (rd_T91 l1 (k : Int)).f1 < (rd_T91 l1 (k : Int)).f0
        · obtain ⟨rfl, rfl⟩ := HBAD.out (by simp [inRange]; omega)
          have t2b : decide ((rd_T91 l1 (k : Int)).f1 < (rd_T91 l1 (k : Int)).f0) = true := decide_eq_true t2
          go_wp2
          go_ret2
          exact ⟨_, rfl, Kd.R_nil _ _ _ _ _, by repeat (first | (with_reducible first | exact HB.out | apply below_alloc | apply pw_below_drewN | apply below_drew1) | exact HB.out)⟩
        · have t2b : decide ((rd_T91 l1 (k : Int)).f1 < (rd_T91 l1 (k : Int)).f0) = false := decide_eq_false t2
          by_cases t3 : a0 < (rd_T91 l1 (k : Int)).f1
          · obtain ⟨rfl, rfl⟩ := HBAD.out (by simp [inRange]; omega)
            have t3b : decide (a0 < (rd_T91 l1 (k : Int)).f1) = true := decide_eq_true t3
            go_wp2
            go_ret2
            exact ⟨_, rfl, Kd.R_nil _ _ _ _ _, by repeat (first | (with_reducible first | exact HB.out | apply below_alloc | apply pw_below_drewN | apply below_drew1) | exact HB.out)⟩
          · have t3b : decide (a0 < (rd_T91 l1 (k : Int)).f1) = false := decide_eq_false t3
            go_wp2
            go_roundw
            case rel => exact ⟨k + 1, by omega, by go_num, ⟨by repeat (first | (with_reducible first | exact HB.out | apply below_alloc | apply pw_below_drewN | apply below_drew1) | exact HB.out)⟩, ⟨HGOOD.out (by simp [inRange]; omega)⟩⟩
            case measure => simp [intOf]; omega
    · have hkl : k = l1.length := by omega
      have hall : ∀ o ∈ l1, inRange a0 o = true := by
        have := HK.out
        rw [hkl, List.take_length] at this
        exact this
      have hge : ¬ (k : Int) < (l1.length : Int) := by omega
      have HALL := Aside0.mk hall
      have HF2 := HF.out
      rw [if_pos (List.all_eq_true.mpr hall)] at HF2
      have HF := Aside0.mk HF2
      clear hall hkl HF2
      go_wp2
      obtain ⟨wo, hwo⟩ : ∃ wo : World, wo = wr := ⟨_, rfl⟩
      subst hwo
      go_loopw [8, 9, 47] (fun vt va v wr => ∃ (k : Nat) (tt at_ : Int), k ≤ l1.length ∧ vt = .int .i64 tt ∧ va = .int .i64 at_ ∧ v = .int .i64 k ∧ Aside0 (Below w.heap.size w wr) ∧ Aside0 (0 ≤ at_ ∧ at_ ≤ a0 ∧ a0 - at_ ≤ tt ∧ tt + putsOf (l1.drop k) ≤ a0 + putsOf l1) ∧ Aside0 (risesFrom 0 l1 = risesFrom at_ (l1.drop k)) ∧ Aside0 (a0 + growsBy l1 = tt + growsBy (l1.drop k))) (fun _ _ v _ => l1.length - (intOf v).toNat)
      case atStart => exact ⟨0, a0, 0, Nat.zero_le _, rfl, rfl, rfl, HB, ⟨by omega, by omega, by omega, by simp⟩, ⟨by simp⟩, ⟨by simp⟩⟩
      case round =>
        clear HB HK hk hlt hge
        obtain ⟨k, tt, at_, hk, rfl, rfl, rfl, HB, HN, HRI, HGR⟩ := hrel
        by_cases hlt : k < l1.length
        · have hlt' : (k : Int) < (l1.length : Int) := by omega
          have hk0 : (0 : Int) ≤ (k : Int) := by omega
          obtain ⟨ad, e1, hx0, hx1, hx2⟩ := at_T91 (Kd.C_below HR1.out HB.out) (k : Int) hk0 hlt'
          subst e1
          rw [Int.toNat_natCast] at hx0 hx1 hx2
          have hin := HALL.out _ (rd91_mem hlt)
          simp only [inRange, Bool.and_eq_true, decide_eq_true_eq] at hin
          obtain ⟨⟨hi0, hi1⟩, hi2⟩ := hin
          have hd := rd91_drop hlt
          have hpn := putsOf_nonneg (l1.drop (k + 1))
          have hN := HN.out
          have hRI := HRI.out
          have hGR := HGR.out
          rw [hd] at hN hRI hGR
          simp only [putsOf, risesFrom, growsBy] at hN hRI hGR
          have hp := HP.out
          have hs0 : (0 : Int) ≤ ((rd_T91 l1 (k : Int)).f2.size : Int) := by omega
          have hs1 : ((rd_T91 l1 (k : Int)).f2.size : Int) ≤ 600000000000 := by omega
          have ht0 : 0 ≤ tt := by omega
          have ht1 : tt ≤ 600000000000 := by omega
          have ha0 : 0 ≤ at_ := by omega
          have HN2 := Aside0.mk hN
          have HRI2 := Aside0.mk hRI
          have HGR2 := Aside0.mk hGR
          have HD := Aside0.mk hd
          clear hN hRI hGR hd hp hpn
          by_cases t1 : (rd_T91 l1 (k : Int)).f0 < at_
          · have t1b : decide ((rd_T91 l1 (k : Int)).f0 < at_) = true := decide_eq_true t1
            have hr := HF.out
            rw [HRI2.out, if_neg (by simp; omega)] at hr
            simp only [Prod.mk.injEq] at hr
            obtain ⟨rfl, rfl⟩ := hr
            go_wp2
            go_ret2
            exact ⟨_, rfl, Kd.R_nil _ _ _ _ _, by repeat (first | (with_reducible first | exact HB.out | apply below_alloc | apply pw_below_drewN | apply below_drew1) | exact HB.out)⟩
          · have t1b : decide ((rd_T91 l1 (k : Int)).f0 < at_) = false := decide_eq_false t1
            go_wp2
            go_roundw
            case rel =>
              refine ⟨k + 1, tt + (((rd_T91 l1 (k : Int)).f2.size : Int) - ((rd_T91 l1 (k : Int)).f1 - (rd_T91 l1 (k : Int)).f0)), (rd_T91 l1 (k : Int)).f1, by omega, by go_num, rfl, by go_num, ⟨by repeat (first | (with_reducible first | exact HB.out | apply below_alloc | apply pw_below_drewN | apply below_drew1) | exact HB.out)⟩, ⟨by omega, by omega, ?_, ?_⟩, ⟨?_⟩, ⟨?_⟩⟩
              · have := HN2.out; omega
              · have := HN2.out; omega
              · rw [HRI2.out, decide_eq_true (show at_ ≤ (rd_T91 l1 (k : Int)).f0 by omega), Bool.true_and]
              · have := HGR2.out; omega
            case measure => simp [intOf]; omega
        · have hkl : k = l1.length := by omega
          have hge : ¬ (k : Int) < (l1.length : Int) := by omega
          have hN := HN.out
          have hRI := HRI.out
          have hGR := HGR.out
          rw [hkl, List.drop_length] at hN hRI hGR
          simp only [putsOf, risesFrom, growsBy] at hN hRI hGR
          have hp := HP.out
          have hr := HF.out
          rw [hRI, if_pos rfl, show a0 + growsBy l1 = tt by omega] at hr
          have ht0 : 0 ≤ tt := by omega
          have ht1 : tt ≤ 600000000000 := by omega
          have HRI2 := Aside0.mk hRI
          clear hN hRI hGR hp hkl
          by_cases t1 : 268435456 < tt
          · have t1b : decide (268435456 < tt) = true := decide_eq_true t1
            rw [if_neg (by omega)] at hr
            simp only [Prod.mk.injEq] at hr
            obtain ⟨rfl, rfl⟩ := hr
            go_wp2
            go_ret2
            exact ⟨_, rfl, Kd.R_nil _ _ _ _ _, by repeat (first | (with_reducible first | exact HB.out | apply below_alloc | apply pw_below_drewN | apply below_drew1) | exact HB.out)⟩
          · have t1b : decide (268435456 < tt) = false := decide_eq_false t1
            rw [if_pos (by omega)] at hr
            simp only [Prod.mk.injEq] at hr
            obtain ⟨rfl, rfl⟩ := hr
            go_wp2
            have hnb := newB w wr HB.out
            have HB2 := Aside0.mk (below_alloc HB.out (.cells #[.slice none 0 0, .int .i64 0, .slice none 0 0, .int .i64 0] 99))
            obtain ⟨g, hg⟩ : ∃ g, g = wr.heap.size := ⟨_, rfl⟩
            rw [← hg] at hnb
            have HNB := Aside0.mk hnb
            have HGE := Aside0.mk (show w.heap.size ≤ g by rw [hg]; exact HB.out.size)
            have HRISE := Aside0.mk (show risesFrom 0 l1 = true from HRI2.out)
            clear hnb
            rw [← hg]
            clear hg
            generalize wr.alloc (.cells #[.slice none 0 0, .int .i64 0, .slice none 0 0, .int .i64 0] 99) = wb at HNB HB2 ⊢
            clear HB
            go_loopw [9, 75] (fun va v wr => ∃ (k : Nat) (at_ : Int) (b : Bs) (m : Int), k ≤ l1.length ∧ va = .int .i64 at_ ∧ v = .int .i64 k ∧ Aside0 (Below w.heap.size w wr) ∧ Aside0 (IsB wr w.heap.size (fun k => w.heap.size ≤ k) g b) ∧ Aside0 (BI b m) ∧ Aside0 (m + (a0 - at_ + putsOf (l1.drop k)) ≤ 600000000000 ∧ 0 ≤ m ∧ 0 ≤ at_ ∧ at_ ≤ a0) ∧ Aside0 (risesFrom at_ (l1.drop k) = true) ∧ Aside0 ((ofOps a0 at_ (l1.drop k)).foldl Bs.step b = (ofOps a0 0 l1).foldl Bs.step Bs.new)) (fun _ v _ => l1.length - (intOf v).toNat)
            case atStart => exact ⟨0, 0, Bs.new, 0, Nat.zero_le _, rfl, rfl, HB2, HNB, ⟨BI.new⟩, ⟨by have := HP.out; simp; omega, by omega, by omega, by omega⟩, ⟨by rw [← HRISE.out]; rfl⟩, ⟨rfl⟩⟩
            case round =>
              clear HB2 HNB hk hlt hge ht0 ht1 t1 t1b HN HRI HGR HRI2
              obtain ⟨k, at_, b, m, hk, rfl, rfl, HB, HI, HBI, HM, HRI, HFO⟩ := hrel
              by_cases hlt : k < l1.length
              · have hlt' : (k : Int) < (l1.length : Int) := by omega
                have hk0 : (0 : Int) ≤ (k : Int) := by omega
                obtain ⟨ad, e1, hx0, hx1, hx2⟩ := at_T91 (Kd.C_below HR1.out HB.out) (k : Int) hk0 hlt'
                subst e1
                rw [Int.toNat_natCast] at hx0 hx1 hx2
                have hin := HALL.out _ (rd91_mem hlt)
                simp only [inRange, Bool.and_eq_true, decide_eq_true_eq] at hin
                obtain ⟨⟨hi0, hi1⟩, hi2⟩ := hin
                have hd := rd91_drop hlt
                have hpn := putsOf_nonneg (l1.drop (k + 1))
                have hM := HM.out
                have hRI := HRI.out
                have hFO := HFO.out
                rw [hd] at hM hRI hFO
                simp only [putsOf, risesFrom, Bool.and_eq_true, decide_eq_true_eq] at hM hRI
                simp only [ofOps, List.foldl_cons] at hFO
                have hs0 : (0 : Int) ≤ ((rd_T91 l1 (k : Int)).f2.size : Int) := by omega
                have hs1 : ((rd_T91 l1 (k : Int)).f2.size : Int) ≤ 600000000000 := by omega
                have hat : at_ ≤ (rd_T91 l1 (k : Int)).f0 := hRI.1
                have ha0 : 0 ≤ at_ := hM.2.2.1
                have BI1 := Aside0.mk (HBI.out.keep (n := (rd_T91 l1 (k : Int)).f0 - at_) (by omega))
                have BI2 := Aside0.mk (BI1.out.putS (rd_T91 l1 (k : Int)).f2)
                have BI3 := Aside0.mk (BI2.out.dropN (n := (rd_T91 l1 (k : Int)).f1 - (rd_T91 l1 (k : Int)).f0) (by omega))
                have HM2 := Aside0.mk (And.intro hM hpn)
                have HRI2 := Aside0.mk hRI.2
                have HFO2 := Aside0.mk (show (ofOps a0 (rd_T91 l1 (k : Int)).f1 (l1.drop (k + 1))).foldl Bs.step (((b.onKeep ((rd_T91 l1 (k : Int)).f0 - at_)).onPut (rd_T91 l1 (k : Int)).f2).onDrop ((rd_T91 l1 (k : Int)).f1 - (rd_T91 l1 (k : Int)).f0)) = (ofOps a0 0 l1).foldl Bs.step Bs.new from hFO)
                have hmm : m ≤ 600000000000 := by omega
                have HMM := Aside0.mk hmm
                clear hM hRI hFO hd hpn hmm
                have HIA := Aside0.mk ((HI.out.tight.mono (P' := fun k => w.heap.size ≤ k ∧ k ≠ wr.heap.size) (fun k h => ⟨h.1, by have := h.2; omega⟩)).below (below_alloc (Below.refl wr.heap.size wr) (.cells #[.int .i64 (rd_T91 l1 (k : Int)).f0, .int .i64 (rd_T91 l1 (k : Int)).f1, .string (rd_T91 l1 (k : Int)).f2] 91)))
                have HBA := Aside0.mk (below_alloc HB.out (.cells #[.int .i64 (rd_T91 l1 (k : Int)).f0, .int .i64 (rd_T91 l1 (k : Int)).f1, .string (rd_T91 l1 (k : Int)).f2] 91))
                have HFR := Aside0.mk (show ∀ q : Nat, (wr.alloc (.cells #[.int .i64 (rd_T91 l1 (k : Int)).f0, .int .i64 (rd_T91 l1 (k : Int)).f1, .string (rd_T91 l1 (k : Int)).f2] 91)).heap.size ≤ q → w.heap.size ≤ q ∧ q ≠ wr.heap.size from fun q hk => by have := HB.out.size; simp at hk; exact ⟨by omega, by omega⟩)
                go_wp2_with (first
                  | (go_at_call 71; refine (onKeep_calls _ w.heap.size g _ b _ _ HIA.out HBA.out.size HFR.out (by have := HBI.out.len; have := HMM.out; omega) (fun hl => ⟨(HBI.out.lastN hl).1, by have := (HBI.out.lastN hl).2; omega, by have := (HBI.out.lastN hl).2; have := HMM.out; omega⟩) (by omega) (by omega)).mono ?_; rintro e w2 ⟨rfl, hb2, hk2⟩; have HI2 := Aside0.mk hb2; have HB2 := Aside0.mk (HBA.out.trans (hk2.below (fun _ h => h.1) HBA.out.size)); have HK2 := Aside0.mk hk2; have HBX := Aside0.mk (hk2.blk (blk_new wr (.cells #[.int .i64 (rd_T91 l1 (k : Int)).f0, .int .i64 (rd_T91 l1 (k : Int)).f1, .string (rd_T91 l1 (k : Int)).f2] 91)) (fun h => h.2 rfl)); clear hb2 hk2; have d2 : w2.cell? ⟨wr.heap.size, 2, none⟩ = some (.string (rd_T91 l1 (k : Int)).f2) := (blk_cell HBX.out 2).trans rfl)
                  | (go_at_call 75; refine (onPut_calls _ w.heap.size g _ _ _ _ HI2.out HB2.out.size (fun k hk => HFR.out k (Nat.le_trans HK2.out.size hk)) (by have := BI1.out.put_le; have := HM2.out; omega)).mono ?_; rintro e w3 ⟨rfl, hb3, hk3⟩; have HI3 := Aside0.mk hb3; have HB3 := Aside0.mk (HB2.out.trans (hk3.below (fun _ h => h.1) HB2.out.size)); have HBX3 := Aside0.mk (hk3.blk HBX.out (fun h => h.2 rfl)); clear hb3 hk3; have d3 : w3.cell? ⟨wr.heap.size, 0, none⟩ = some (.int .i64 (rd_T91 l1 (k : Int)).f0) := (blk_cell HBX3.out 0).trans rfl; have d4 : w3.cell? ⟨wr.heap.size, 1, none⟩ = some (.int .i64 (rd_T91 l1 (k : Int)).f1) := (blk_cell HBX3.out 1).trans rfl)
                  | (go_at_call 73; refine (onDrop_calls _ w.heap.size g _ _ _ _ HI3.out BI2.out.drop (by have := BI2.out.drop_le; have := HM2.out; omega) (by omega) (by omega)).mono ?_; rintro e w4 ⟨rfl, hb4, hk4⟩; have HI4 := Aside0.mk hb4; have HB4 := Aside0.mk (HB3.out.trans (hk4.below (fun _ h => h.1) HB3.out.size)); have HBX4 := Aside0.mk (hk4.blk HBX3.out (fun h => h.2 rfl)); clear hb4 hk4; have d5 : w4.cell? ⟨wr.heap.size, 1, none⟩ = some (.int .i64 (rd_T91 l1 (k : Int)).f1) := (blk_cell HBX4.out 1).trans rfl))
                go_roundw
                case rel =>
                  refine ⟨k + 1, (rd_T91 l1 (k : Int)).f1, _, _, by omega, rfl, by go_num, HB4, ⟨HI4.out.mono (fun _ h => h.1)⟩, BI3, ⟨?_, ?_, by omega, by omega⟩, HRI2, HFO2⟩
                  · have := HM2.out; omega
                  · have := HM2.out; omega
                case measure => simp [intOf]; omega
              · have hkl : k = l1.length := by omega
                have hge : ¬ (k : Int) < (l1.length : Int) := by omega
                have hM := HM.out
                have hFO := HFO.out
                rw [hkl, List.drop_length] at hM hFO
                simp only [putsOf] at hM
                simp only [ofOps, List.foldl_cons, List.foldl_nil] at hFO
                have HM2 := Aside0.mk hM
                have BI1 := Aside0.mk (HBI.out.keep (n := a0 - at_) (by omega))
                have HFO2 := Aside0.mk (show b.onKeep (a0 - at_) = (ofOps a0 0 l1).foldl Bs.step Bs.new from hFO)
                have h0 : 0 ≤ at_ := hM.2.2.1
                have h1 : at_ ≤ a0 := hM.2.2.2
                clear hM hFO hkl
                go_wp2_with (first
                  | (go_at_call 71; refine (onKeep_calls _ w.heap.size g _ b _ _ HI.out HB.out.size (fun k hk => Nat.le_trans HB.out.size hk) (by have := HBI.out.len; have := HM2.out; omega) (fun hl => ⟨(HBI.out.lastN hl).1, by have := (HBI.out.lastN hl).2; omega, by have := (HBI.out.lastN hl).2; have := HM2.out; omega⟩) (by omega) (by omega)).mono ?_; rintro e w2 ⟨rfl, hb2, hk2⟩; have HI2 := Aside0.mk hb2; have HB2 := Aside0.mk (HB.out.trans (hk2.below (fun _ h => h) HB.out.size)); clear hb2 hk2)
                  | (go_at_call 76; refine (done_calls _ w.heap.size g _ _ HI2.out HB2.out.size (fun k hk => Nat.le_trans HB2.out.size hk) (by have := BI1.out.len; have := HM2.out; omega)).mono ?_; rintro e w4 ⟨v4, rfl, ho4, hk4⟩; have HO4 := Aside0.mk ho4; have HB4 := Aside0.mk (HB2.out.trans (hk4.below (fun _ h => h) HB2.out.size)); clear ho4 hk4))
                go_ret2
                refine ⟨_, rfl, ?_, HB4.out⟩
                have := Kd.R_mono (ok' := fun _ => True) HO4.out (fun _ _ => trivial)
                rw [HFO2.out] at this
                exact this
end Go.Proofs.Ytidihnnkcmeaeaa.A
