/- delta.Canon: what it answers. No condition but that the list can be read. -/
import Derived.Test.YtidihnnkcmeaeaaM
namespace Go.Proofs.Ytidihnnkcmeaeaa.A
open Go.RowKit Go.Proofs.YtidihnnkcmeaeaaW.PrintWords Go.Proofs.YtidihnnkcmeaeaaW.PrintLast Go.Proofs.YtidihnnkcmeaeaaW.PrintMore
set_option linter.unusedVariables false
set_option linter.unusedSimpArgs false
theorem newB (W0 w : World) (hB : Below W0.heap.size W0 w) : IsB (w.alloc (.cells #[.slice none 0 0, .int .i64 0, .slice none 0 0, .int .i64 0] 99)) W0.heap.size (fun k => W0.heap.size ≤ k) w.heap.size Bs.new :=
 ⟨hB.size, _, _, blk_new w _, Kd.R_nil _ _ _ _ _, Kd.R_nil _ _ _ _ _⟩
set_option maxHeartbeats 8000000 in
set_option maxRecDepth 100000 in
theorem delta_Canon.calls (A0 : Option Addr) (c0 : Nat) (l0 : List (S70)) (r1 : List S70) (r2 : Int) (w : World) (hr0 : Kd.C k70 w A0 l0.length l0) (hc0 : l0.length ≤ c0) (h : delta_Canon.f l0 = some (r1, r2)) :
  Calls Try.prog 36 #[.slice A0 l0.length c0] w fun e w' => ∃ v0_ : Value, e = .returned (.tuple #[v0_, .int .i64 r2]) ∧ Kd.R k70 70 w' w.heap.size (fun _ => True) v0_ r1 ∧ Below w.heap.size w w' := by
 have hu70 := Try.underlying70
 have HR0 := Aside0.mk hr0
 have HC0 := Aside0.mk hc0
 have HF := Aside0.mk h
 have hlen : (l0.length : Int) ≤ 9223372036854775807 := by have := Kd.C_max hr0; omega
 clear hr0 hc0 h
 go_enter Try.func36, Try.ntmps36
 go_wp2
 go_loopw [12] (fun v wr => ∃ k : Nat, k ≤ l0.length ∧ v = .int .i64 k ∧ Aside0 (Below w.heap.size w wr) ∧ Aside0 (∀ o ∈ l0.take k, kindOk o = true)) (fun v _ => l0.length - (intOf v).toNat)
 case atStart => exact ⟨0, Nat.zero_le _, rfl, ⟨Below.refl _ _⟩, ⟨fun o ho => by simp at ho⟩⟩
 case round =>
  obtain ⟨k, hk, rfl, HB, HK⟩ := hrel
  by_cases hlt : k < l0.length
  ·
   have hlt' : (k : Int) < (l0.length : Int) := by omega
   have hk0 : (0 : Int) ≤ (k : Int) := by omega
   obtain ⟨ad, e1, hx0, hx1, hx2⟩ := at_T70 (Kd.C_below HR0.out HB.out) (k : Int) hk0 hlt'
   subst e1
   rw [Int.toNat_natCast] at hx0 hx1 hx2
   have hmem := rd_mem_at hlt
   have hbad : kindOk (rd_T70 l0 (k : Int)) = false → r1 = [] ∧ r2 = 130 := by
    intro hb
    have := HF.out
    rw [delta_Canon.f, if_neg (by intro hall; have := List.all_eq_true.mp hall _ hmem; rw [hb] at this; cases this)] at this
    simp only [Option.some.injEq, Prod.mk.injEq] at this
    exact ⟨this.1.symm, this.2.symm⟩
   have HBAD := Aside0.mk hbad
   have hgood : kindOk (rd_T70 l0 (k : Int)) = true → ∀ o ∈ l0.take (k + 1), kindOk o = true := by
    intro hg o ho
    rw [List.take_succ_eq_append_getElem hlt] at ho
    rcases List.mem_append.1 ho with ho | ho
    ·
     exact HK.out o ho
    ·
     have : rd_T70 l0 (k : Int) = l0[k] := by unfold rd_T70; rw [Int.toNat_natCast, List.getD_eq_getElem?_getD, List.getElem?_eq_getElem hlt]; rfl
     rw [List.mem_singleton.1 ho, ← this]
     exact hg
   have HGOOD := Aside0.mk hgood
   clear hbad hgood hmem
   by_cases t1 : (rd_T70 l0 (k : Int)).f0 < 1
   ·
    obtain ⟨rfl, rfl⟩ := HBAD.out (by simp [kindOk]; omega)
    go_wp2
    go_ret2
    exact ⟨_, rfl, Kd.R_nil _ _ _ _ _, by repeat (first | (with_reducible first | exact HB.out | apply below_alloc | apply pw_below_drewN | apply below_drew1) | exact HB.out)⟩
   ·
    have t1b : decide ((rd_T70 l0 (k : Int)).f0 < 1) = false := decide_eq_false t1
    by_cases t2 : 3 < (rd_T70 l0 (k : Int)).f0
    ·
     obtain ⟨rfl, rfl⟩ := HBAD.out (by simp [kindOk]; omega)
     have t2b : decide (3 < (rd_T70 l0 (k : Int)).f0) = true := decide_eq_true t2
     go_wp2
     go_ret2
     exact ⟨_, rfl, Kd.R_nil _ _ _ _ _, by repeat (first | (with_reducible first | exact HB.out | apply below_alloc | apply pw_below_drewN | apply below_drew1) | exact HB.out)⟩
    ·
     have t2b : decide (3 < (rd_T70 l0 (k : Int)).f0) = false := decide_eq_false t2
     by_cases t3 : (rd_T70 l0 (k : Int)).f0 = 2
     ·
      have t3b : ((rd_T70 l0 (k : Int)).f0 != 2) = false := bne_eq_false_iff_eq.mpr t3
      have T3 := Aside0.mk t3
      clear t3
      go_wp2
      go_roundw
      case rel => exact ⟨k + 1, by omega, by go_num, ⟨by repeat (first | (with_reducible first | exact HB.out | apply below_alloc | apply pw_below_drewN | apply below_drew1) | exact HB.out)⟩, ⟨HGOOD.out (by simp [kindOk, T3.out])⟩⟩
      case measure => simp [intOf]; omega
     ·
      have t3b : ((rd_T70 l0 (k : Int)).f0 != 2) = true := bne_iff_ne.mpr t3
      by_cases t4 : (rd_T70 l0 (k : Int)).f1 < 0
      ·
       obtain ⟨rfl, rfl⟩ := HBAD.out (by simp [kindOk]; omega)
       have t4b : decide ((rd_T70 l0 (k : Int)).f1 < 0) = true := decide_eq_true t4
       go_wp2
       go_ret2
       exact ⟨_, rfl, Kd.R_nil _ _ _ _ _, by repeat (first | (with_reducible first | exact HB.out | apply below_alloc | apply pw_below_drewN | apply below_drew1) | exact HB.out)⟩
      ·
       have t4b : decide ((rd_T70 l0 (k : Int)).f1 < 0) = false := decide_eq_false t4
       go_wp2
       go_roundw
       case rel => exact ⟨k + 1, by omega, by go_num, ⟨by repeat (first | (with_reducible first | exact HB.out | apply below_alloc | apply pw_below_drewN | apply below_drew1) | exact HB.out)⟩, ⟨HGOOD.out (by simp [kindOk]; omega)⟩⟩
       case measure => simp [intOf]; omega
  ·
   have hkl : k = l0.length := by omega
   have hall : ∀ o ∈ l0, kindOk o = true := by
    have := HK.out
    rw [hkl, List.take_length] at this
    exact this
   have HALL := Aside0.mk hall
   have hge : ¬ (k : Int) < (l0.length : Int) := by omega
   have hpos : ∀ o ∈ l0, posN o := fun o ho => kindOk_posN (hall o ho)
   obtain ⟨kk, hkk⟩ := (lens_ev l0 (by omega) hpos).rounds
   have HF2 := HF.out
   rw [delta_Canon.f, if_pos (List.all_eq_true.mpr hall)] at HF2
   have HPOS := Aside0.mk hpos
   clear hall hpos hkl
   by_cases hok : fromOf l0 ≤ 268435456 ∧ toOf l0 ≤ 268435456
   ·
    rw [if_pos hok] at HF2
    simp only [Option.some.injEq, Prod.mk.injEq] at HF2
    obtain ⟨rfl, rfl⟩ := HF2
    rw [show lensR 0 0 l0 = (fromOf l0, toOf l0, true) from by simp [lensR, hok.1, hok.2]] at hkk
    have HW := Aside0.mk (show opws l0 ≤ 1000000000 by have := opws_le HPOS.out; omega)
    have HKK := Aside0.mk hkk
    clear hok hkk
    go_wp2_with (first
     | (go_at_call 64; refine (delta_lens.calls kk _ _ l0 _ _ _ _ (Kd.C_below HR0.out HB.out) HC0.out HKK.out).mono ?_; rintro e w2 ⟨rfl, hb2⟩; have HB2 := Aside0.mk (HB.out.trans (hb2.mono HB.out.size)); clear hb2)
     | (go_at_call 65; refine (each_builder _ _ l0 w _ _ HC0.out HALL.out HW.out (below_alloc HB2.out _) HR0.out (newB w _ HB2.out)).mono ?_; rintro e w3 ⟨rfl, hb3, hbb3⟩; have HI3 := Aside0.mk hb3; have HB3 := Aside0.mk hbb3; clear hb3 hbb3)
     | (go_at_call 76; refine (done_calls _ w.heap.size _ _ _ HI3.out HB3.out.size (fun k hk => Nat.le_trans HB3.out.size hk) (by have := (BI.fold HPOS.out BI.new).len; have := HW.out; omega)).mono ?_; rintro e w4 ⟨v4, rfl, ho4, hk4⟩; have HO4 := Aside0.mk ho4; have HB4 := Aside0.mk (HB3.out.trans (hk4.below (fun _ h => h) HB3.out.size)); clear ho4 hk4))
    go_ret2
    exact ⟨_, rfl, Kd.R_mono HO4.out (fun _ _ => trivial), HB4.out⟩
   ·
    rw [if_neg hok] at HF2
    simp only [Option.some.injEq, Prod.mk.injEq] at HF2
    obtain ⟨rfl, rfl⟩ := HF2
    rw [show lensR 0 0 l0 = (0, 0, false) from by simp [lensR, hok]] at hkk
    have HKK := Aside0.mk hkk
    clear hok hkk
    go_wp2_with (go_at_call 64; refine (delta_lens.calls kk _ _ l0 _ _ _ _ (Kd.C_below HR0.out HB.out) HC0.out HKK.out).mono ?_; rintro e w2 ⟨rfl, hb2⟩; have HB2 := Aside0.mk (HB.out.trans (hb2.mono HB.out.size)); clear hb2)
    go_ret2
    exact ⟨_, rfl, Kd.R_nil _ _ _ _ _, HB2.out⟩
end Go.Proofs.Ytidihnnkcmeaeaa.A
