/- The reference's Build: Put, Drop, Keep and Done. No condition but room for what grows. -/
import Derived.Test.YtidihnnkcmeaeaaGR
namespace Go.Proofs.Ytidihnnkcmeaeaa.A
open Go.RowKit Go.Proofs.YtidihnnkcmeaeaaW.PrintWords Go.Proofs.YtidihnnkcmeaeaaW.PrintLast Go.Proofs.YtidihnnkcmeaeaaW.PrintMore
set_option linter.unusedVariables false
set_option linter.unusedSimpArgs false
set_option maxHeartbeats 4000000 in
set_option maxRecDepth 100000 in
theorem rput_calls (w : World) (base g : Nat) (P : Nat → Prop) (b : Rb) (s : ByteArray) (hb : IsR w base P g b) (hl : b.text.size + s.size ≤ 140737488351232) :
  Calls Try.prog 93 #[.pointer (some ⟨g, 0, none⟩), .string s] w fun e w' => e = .returned (.tuple #[]) ∧ IsR w' base P g (b.put s) ∧ Kp P w w' := by
 obtain ⟨hg, vo, hblk, ho⟩ := hb
 have HBLK := Aside0.mk hblk
 have HO := Aside0.mk ho
 have HG := Aside0.mk hg
 have hlen : (b.text ++ s).size ≤ 140737488351232 := by rw [ByteArray.size_append]; exact hl
 clear hblk ho hg
 have c1 : w.cell? ⟨g, 1, none⟩ = some (.string b.text) := (blk_cell HBLK.out 1).trans rfl
 have f1 := blk_frozen HBLK.out 1
 go_enter Try.func93, Try.ntmps93
 go_wp2
 go_end0
 exact ⟨rfl, ⟨HG.out, _, blk_put HBLK.out 1 (.string (b.text ++ s)) rfl, Kd.R_set HO.out HBLK.out ne70_116 1 _⟩, (Kp.refl P w).setCell (p := ⟨g, 1, none⟩) HG.out _⟩
set_option maxHeartbeats 4000000 in
set_option maxRecDepth 100000 in
theorem rdrop_calls (w : World) (base g : Nat) (P : Nat → Prop) (b : Rb) (n : Int) (hb : IsR w base P g b) (h0 : 0 ≤ b.gone) (h1 : b.gone ≤ 1000000000000) (h2 : n ≤ 1000000000000) (h3 : 0 ≤ n) :
  Calls Try.prog 95 #[.pointer (some ⟨g, 0, none⟩), .int .i64 n] w fun e w' => e = .returned (.tuple #[]) ∧ IsR w' base P g (b.dropN n) ∧ Kp P w w' := by
 obtain ⟨hg, vo, hblk, ho⟩ := hb
 have HBLK := Aside0.mk hblk
 have HO := Aside0.mk ho
 have HG := Aside0.mk hg
 clear hblk ho hg
 have c2 : w.cell? ⟨g, 2, none⟩ = some (.int .i64 b.gone) := (blk_cell HBLK.out 2).trans rfl
 have f2 := blk_frozen HBLK.out 2
 go_enter Try.func95, Try.ntmps95
 go_wp2
 go_end0
 exact ⟨rfl, ⟨HG.out, _, blk_put HBLK.out 2 (.int .i64 (b.gone + n)) rfl, Kd.R_set HO.out HBLK.out ne70_116 2 _⟩, (Kp.refl P w).setCell (p := ⟨g, 2, none⟩) HG.out _⟩
set_option maxHeartbeats 4000000 in
set_option maxRecDepth 100000 in
theorem rdone_calls (w : World) (base g : Nat) (P : Nat → Prop) (b : Rb) (hb : IsR w base P g b) (hbase : base ≤ w.heap.size) (hP : ∀ k, w.heap.size ≤ k → P k) (hl : b.out.length ≤ 4000000000000) :
  Calls Try.prog 96 #[.pointer (some ⟨g, 0, none⟩)] w fun e w' => ∃ v, e = .returned v ∧ Kd.R k70 70 w' base P v b.done ∧ Kp P w w' := by
 go_enter Try.func96, Try.ntmps96
 go_wp2_with (go_at_call 98; refine (rflush_calls _ base g P b hb hbase hP hl).mono ?_; rintro e w1 ⟨rfl, hb1, hk1⟩; obtain ⟨hg, vo, hblk, ho⟩ := hb1; have HBLK := Aside0.mk hblk; have HO := Aside0.mk ho; have HK := Aside0.mk hk1; clear hblk ho hk1; have c0 : w1.cell? ⟨g, 0, none⟩ = some vo := (blk_cell HBLK.out 0).trans rfl)
 go_ret
 exact ⟨_, rfl, HO.out, HK.out⟩
set_option maxHeartbeats 4000000 in
set_option maxRecDepth 100000 in
theorem rkeep_zero (w : World) (base g : Nat) (P : Nat → Prop) (b : Rb) (n : Int) (hb : IsR w base P g b) (h : n = 0) :
  Calls Try.prog 94 #[.pointer (some ⟨g, 0, none⟩), .int .i64 n] w fun e w' => e = .returned (.tuple #[]) ∧ IsR w' base P g (b.keep n) ∧ Kp P w w' := by
 have hfin := Aside0.mk (show IsR w base P g (b.keep n) by rw [show b.keep n = b from by simp [Rb.keep, h]]; exact hb)
 have h0b : (n == 0) = true := beq_iff_eq.mpr h
 clear hb h
 go_enter Try.func94, Try.ntmps94
 go_wp2
 exact bodyPost_ret (results_none rfl _ _ _) rfl ⟨rfl, hfin.out, Kp.refl _ _⟩
set_option maxHeartbeats 4000000 in
set_option maxRecDepth 100000 in
theorem rkeep_empty (w : World) (base g : Nat) (P : Nat → Prop) (b : Rb) (n : Int) (l : List S70) (hL : b.flush.out = l) (hb : IsR w base P g b) (hn : n ≠ 0) (he : l = []) (hbase : base ≤ w.heap.size) (hPf : ∀ k, w.heap.size ≤ k → P k) (hl : b.out.length ≤ 3000000000000) :
  Calls Try.prog 94 #[.pointer (some ⟨g, 0, none⟩), .int .i64 n] w fun e w' => e = .returned (.tuple #[]) ∧ IsR w' base P g (b.keep n) ∧ Kp P w w' := by
 have HFC := Aside0.mk (rflush_calls w base g P b hb hbase hPf (by omega))
 have HLEN := Aside0.mk (show l.length ≤ b.out.length + 2 by rw [← hL]; unfold Rb.flush; simp only [List.length_append]; split <;> split <;> simp <;> omega)
 have h0b : (n == 0) = false := beq_eq_false_iff_ne.mpr hn
 have hfin := Aside0.mk (show b.keep n = ⟨l ++ [(⟨1, n, noText⟩ : S70)], noText, 0⟩ by unfold Rb.keep; rw [if_neg hn, if_neg (by rw [hL, he]; simp), hL])
 have HL := Aside0.mk hL
 have HE := Aside0.mk he
 clear hb hn hL he
 go_enter Try.func94, Try.ntmps94
 go_wp2_with (first | (go_at_call 98; refine (HFC.out).mono ?_; rintro e w1 ⟨rfl, hb1, hk1⟩; obtain ⟨hg, vo, hblk, ho⟩ := hb1; rw [HL.out] at ho; obtain ⟨Ao, co, hvo⟩ := Kd.R_slice ho; rw [HE.out] at hvo; subst hvo; have HBLK := Aside0.mk hblk; have HO := Aside0.mk ho; have HG := Aside0.mk hg; have HK := Aside0.mk hk1; clear hblk ho hg hk1; have c0 : w1.cell? ⟨g, 0, none⟩ = some (.slice Ao 0 co) := (blk_cell HBLK.out 0).trans rfl) | (at_builtin; refine Kd.R_append k70 (w0 := w1) (W := w1) base rfl (.tmp 44) (.tmp 47) 24 70 (.agg #[.int .i64 0, .int .i64 0, .string ⟨#[]⟩]) 32 rfl Try.underlying24 info70' rfl (by decide) (by omega) (.slice Ao 0 co) l ⟨1, n, ⟨#[]⟩⟩ [.int .i64 1, .int .i64 n, .string ⟨#[]⟩] P (fun _ => False) rfl rfl (k70_mkM _ _ _ _) (fun _ h => h.elim) (fun k hk => hPf k (Nat.le_trans HK.out.size hk)) HO.out (Below.refl _ _) (Nat.le_trans hbase HK.out.size) (by have := HLEN.out; omega) ?_; intro v4 w4 ho4 hb4 hg4 hat4; have HB4 := Aside0.mk (blk_grown HBLK.out hg4 (Kd.R_ne HO.out HBLK.out (by decide))); have HO4 := Aside0.mk ho4; have HK4 := Aside0.mk (HK.out.grown hg4 (fun k e _ => HO.out.1 k e)); clear ho4 hb4 hat4 hg4; have d4 : w4.cell? ⟨g, 0, none⟩ = some (.slice Ao 0 co) := (blk_cell HB4.out 0).trans rfl; have e4 := blk_frozen HB4.out 0; obtain ⟨A4, k4, hv4⟩ := Kd.R_slice HO4.out; rw [List.length_append, List.length_singleton, HE.out] at hv4; subst hv4))
 go_end0
 refine ⟨rfl, ?_, HK4.out.setCell (p := ⟨g, 0, none⟩) HG.out _⟩
 rw [hfin.out]
 exact ⟨HG.out, _, blk_put HB4.out 0 _ rfl, Kd.R_set HO4.out HB4.out ne70_116 0 _⟩
set_option maxHeartbeats 4000000 in
set_option maxRecDepth 100000 in
theorem rkeep_new (w : World) (base g : Nat) (P : Nat → Prop) (b : Rb) (n : Int) (l : List S70) (hL : b.flush.out = l) (hb : IsR w base P g b) (hn : n ≠ 0) (m : Nat) (hm : l.length = m + 1) (hk : (rd_T70 l (m : Int)).f0 ≠ 1) (hbase : base ≤ w.heap.size) (hPf : ∀ k, w.heap.size ≤ k → P k) (hl : b.out.length ≤ 3000000000000) :
  Calls Try.prog 94 #[.pointer (some ⟨g, 0, none⟩), .int .i64 n] w fun e w' => e = .returned (.tuple #[]) ∧ IsR w' base P g (b.keep n) ∧ Kp P w w' := by
 have HFC := Aside0.mk (rflush_calls w base g P b hb hbase hPf (by omega))
 have HLEN := Aside0.mk (show l.length ≤ b.out.length + 2 by rw [← hL]; unfold Rb.flush; simp only [List.length_append]; split <;> split <;> simp <;> omega)
 have h0b : (n == 0) = false := beq_eq_false_iff_ne.mpr hn
 have hfin := Aside0.mk (show b.keep n = ⟨l ++ [(⟨1, n, noText⟩ : S70)], noText, 0⟩ by unfold Rb.keep; rw [if_neg hn, if_neg (by rw [hL, hm]; exact fun h => hk h.2), hL])
 have HL := Aside0.mk hL
 have HM := Aside0.mk hm
 have hbig : (m : Int) + 1 ≤ 9223372036854775807 := by have := HLEN.out; omega
 have hltm : (m : Int) < (m : Int) + 1 := by omega
 have hwm : wrap64 (m : Int) = (m : Int) := by unfold wrap64; omega
 have hkb : ((rd_T70 l (m : Int)).f0 == 1) = false := beq_eq_false_iff_ne.mpr hk
 clear hb hn hL hm hk
 go_enter Try.func94, Try.ntmps94
 go_wp2_with (first | (go_at_call 98; refine (HFC.out).mono ?_; rintro e w1 ⟨rfl, hb1, hk1⟩; obtain ⟨hg, vo, hblk, ho⟩ := hb1; rw [HL.out] at ho; obtain ⟨go, co, hvo, hgb, hgl, cells, hcells⟩ := Kd.R_form ho (by have := HM.out; omega); subst hvo; obtain ⟨ce, hcl, hM, hcc, hfr⟩ := Kd.R_elem ho z70 (m : Int) (by omega) (by have := HM.out; omega); have hce : ce = [.int .i64 (rd_T70 l (m : Int)).f0, .int .i64 (rd_T70 l (m : Int)).f1, .string (rd_T70 l (m : Int)).f2] := k70_openM hM; subst hce; have hx0 : w1.cell? ⟨go, m * 3, none⟩ = some (.int .i64 (rd_T70 l (m : Int)).f0) := (by have h_ := hcc 0 _ rfl; rw [Int.toNat_natCast] at h_; exact h_); rw [HM.out] at ho hblk; have HBLK := Aside0.mk hblk; have HO := Aside0.mk ho; have HG := Aside0.mk hg; have HK := Aside0.mk hk1; have c0 : w1.cell? ⟨g, 0, none⟩ = some (.slice (some ⟨go, 0, none⟩) (m + 1) co) := (by first | exact (blk_cell HBLK.out 0).trans rfl | (rw [← HM.out]; exact (blk_cell HBLK.out 0).trans rfl)); clear hblk ho hg hk1 hgb hgl hcells hcl hM hcc hfr) | (at_builtin; refine Kd.R_append k70 (w0 := w1) (W := w1) base rfl (.tmp 44) (.tmp 47) 24 70 (.agg #[.int .i64 0, .int .i64 0, .string ⟨#[]⟩]) 32 rfl Try.underlying24 info70' rfl (by decide) (by omega) (.slice (some ⟨go, 0, none⟩) (m + 1) co) l ⟨1, n, ⟨#[]⟩⟩ [.int .i64 1, .int .i64 n, .string ⟨#[]⟩] P (fun _ => False) rfl rfl (k70_mkM _ _ _ _) (fun _ h => h.elim) (fun k hk => hPf k (Nat.le_trans HK.out.size hk)) HO.out (Below.refl _ _) (Nat.le_trans hbase HK.out.size) (by have := HLEN.out; omega) ?_; intro v4 w4 ho4 hb4 hg4 hat4; have HB4 := Aside0.mk (blk_grown HBLK.out hg4 (Kd.R_ne HO.out HBLK.out (by decide))); have HO4 := Aside0.mk ho4; have HK4 := Aside0.mk (HK.out.grown hg4 (fun k e _ => HO.out.1 k e)); clear ho4 hb4 hat4 hg4; have d4 : w4.cell? ⟨g, 0, none⟩ = some (.slice (some ⟨go, 0, none⟩) (m + 1) co) := (blk_cell HB4.out 0).trans rfl; have e4 := blk_frozen HB4.out 0; obtain ⟨A4, k4, hv4⟩ := Kd.R_slice HO4.out; rw [List.length_append, List.length_singleton, HM.out] at hv4; subst hv4))
 go_end0
 refine ⟨rfl, ?_, HK4.out.setCell (p := ⟨g, 0, none⟩) HG.out _⟩
 rw [hfin.out]
 exact ⟨HG.out, _, blk_put HB4.out 0 (.slice A4 ((m + 1) + 1) k4) rfl, Kd.R_set HO4.out HB4.out ne70_116 0 (.slice A4 ((m + 1) + 1) k4)⟩
set_option maxHeartbeats 4000000 in
set_option maxRecDepth 100000 in
theorem rkeep_grow (w : World) (base g : Nat) (P : Nat → Prop) (b : Rb) (n : Int) (l : List S70) (hL : b.flush.out = l) (hb : IsR w base P g b) (hn : n ≠ 0) (m : Nat) (hm : l.length = m + 1) (hk : (rd_T70 l (m : Int)).f0 = 1) (hlo : -1000000000000 ≤ (rd_T70 l (m : Int)).f1) (hhi : (rd_T70 l (m : Int)).f1 ≤ 1000000000000) (h2 : n ≤ 1000000000000) (h3 : -1000000000000 ≤ n) (hbase : base ≤ w.heap.size) (hPf : ∀ k, w.heap.size ≤ k → P k) (hl : b.out.length ≤ 3000000000000) :
  Calls Try.prog 94 #[.pointer (some ⟨g, 0, none⟩), .int .i64 n] w fun e w' => e = .returned (.tuple #[]) ∧ IsR w' base P g (b.keep n) ∧ Kp P w w' := by
 have HFC := Aside0.mk (rflush_calls w base g P b hb hbase hPf (by omega))
 have HLEN := Aside0.mk (show l.length ≤ b.out.length + 2 by rw [← hL]; unfold Rb.flush; simp only [List.length_append]; split <;> split <;> simp <;> omega)
 have h0b : (n == 0) = false := beq_eq_false_iff_ne.mpr hn
 have hfin := Aside0.mk (show b.keep n = ⟨l.set m ⟨(rd_T70 l (m : Int)).f0, (rd_T70 l (m : Int)).f1 + n, (rd_T70 l (m : Int)).f2⟩, noText, 0⟩ by unfold Rb.keep; rw [if_neg hn, if_pos (by rw [hL, hm]; exact ⟨fun h => by rw [h] at hm; simp at hm, hk⟩), hL]; simp [growLast, hm, rd_T70])
 have HL := Aside0.mk hL
 have HM := Aside0.mk hm
 have hbig : (m : Int) + 1 ≤ 9223372036854775807 := by have := HLEN.out; omega
 have hltm : (m : Int) < (m : Int) + 1 := by omega
 have hwm : wrap64 (m : Int) = (m : Int) := by unfold wrap64; omega
 have hkb : ((rd_T70 l (m : Int)).f0 == 1) = true := beq_iff_eq.mpr hk
 have HKK := Aside0.mk hk
 clear hb hn hL hm hk
 go_enter Try.func94, Try.ntmps94
 go_wp2_with ((go_at_call 98; refine (HFC.out).mono ?_; rintro e w1 ⟨rfl, hb1, hk1⟩; obtain ⟨hg, vo, hblk, ho⟩ := hb1; rw [HL.out] at ho; obtain ⟨go, co, hvo, hgb, hgl, cells, hcells⟩ := Kd.R_form ho (by have := HM.out; omega); subst hvo; obtain ⟨ce, hcl, hM, hcc, hfr⟩ := Kd.R_elem ho z70 (m : Int) (by omega) (by have := HM.out; omega); have hce : ce = [.int .i64 (rd_T70 l (m : Int)).f0, .int .i64 (rd_T70 l (m : Int)).f1, .string (rd_T70 l (m : Int)).f2] := k70_openM hM; subst hce; have hx0 : w1.cell? ⟨go, m * 3, none⟩ = some (.int .i64 (rd_T70 l (m : Int)).f0) := (by have h_ := hcc 0 _ rfl; rw [Int.toNat_natCast] at h_; exact h_); have hx1 : w1.cell? ⟨go, m * 3 + 1, none⟩ = some (.int .i64 (rd_T70 l (m : Int)).f1) := (by have h_ := hcc 1 _ rfl; rw [Int.toNat_natCast] at h_; exact h_); have hf1 : w1.frozen? ⟨go, m * 3 + 1, none⟩ = false := (by have h_ := hfr 1; rw [Int.toNat_natCast] at h_; exact h_); have HPG := Aside0.mk (show P go from ho.1 go (by simp [Value.ownBlock])); have HGN := Aside0.mk (show g ≠ go from by intro h; have := Kd.R_ne ho hblk (by decide); exact this (by rw [h]; simp [Value.ownBlock])); have HSEG := Aside0.mk (Kd.R_seg ho (m : Int) (by omega) (by have := HM.out; omega) (seg := [.int .i64 ((rd_T70 l (m : Int)).f1 + n)]) (j := 1) hcl hcc (show 2 ≤ 3 from by decide) (x' := (⟨(rd_T70 l (m : Int)).f0, (rd_T70 l (m : Int)).f1 + n, (rd_T70 l (m : Int)).f2⟩ : S70)) (k70_mkM _ _ _ (⟨(rd_T70 l (m : Int)).f0, (rd_T70 l (m : Int)).f1 + n, (rd_T70 l (m : Int)).f2⟩ : S70)) (fun _ hk => hk)); have HBLK := Aside0.mk hblk; have HO := Aside0.mk ho; have HG := Aside0.mk hg; have HK := Aside0.mk hk1; have c0 : w1.cell? ⟨g, 0, none⟩ = some (.slice (some ⟨go, 0, none⟩) (m + 1) co) := (by first | exact (blk_cell HBLK.out 0).trans rfl | (rw [← HM.out]; exact (blk_cell HBLK.out 0).trans rfl)); clear hblk ho hg hk1 hgb hgl hcells hcl hM hcc hfr))
 have hs3 : ((m : Int).toNat * k70.sz + 1) = m * 3 + 1 := by rw [Int.toNat_natCast]; rfl
 refine bodyPost_ret (results_none rfl _ _ _) rfl ⟨rfl, ?_, ?_⟩
 ·
  have hw2 : wrap64 ((rd_T70 l (m : Int)).f1 + n) = (rd_T70 l (m : Int)).f1 + n := by unfold wrap64; omega
  rw [hfin.out]
  have h1 := HSEG.out.1
  rw [hs3, Int.toNat_natCast] at h1
  refine ⟨HG.out, _, blk_far HBLK.out HGN.out _, ?_⟩
  exact h1
 ·
  exact HK.out.setCell (p := ⟨go, m * 3 + 1, none⟩) HPG.out _
theorem rkeep_calls (w : World) (base g : Nat) (P : Nat → Prop) (b : Rb) (n : Int) (hb : IsR w base P g b) (hbase : base ≤ w.heap.size) (hPf : ∀ k, w.heap.size ≤ k → P k) (hl : b.out.length ≤ 3000000000000)
  (hk : ∀ o ∈ b.out, o.f1 ≤ 1000000000 ∧ -1000000000 ≤ o.f1) (hg1 : b.gone ≤ 1000000000) (h2 : n ≤ 1000000000) (h3 : 0 ≤ n) :
  Calls Try.prog 94 #[.pointer (some ⟨g, 0, none⟩), .int .i64 n] w fun e w' => e = .returned (.tuple #[]) ∧ IsR w' base P g (b.keep n) ∧ Kp P w w' := by
 by_cases hn : n = 0
 ·
  exact rkeep_zero w base g P b n hb hn
 ·
  by_cases he : b.flush.out = []
  ·
   exact rkeep_empty w base g P b n _ rfl hb hn he hbase hPf hl
  ·
   obtain ⟨m, hm⟩ : ∃ m, b.flush.out.length = m + 1 := ⟨b.flush.out.length - 1, by have := List.length_pos_iff.mpr he; omega⟩
   by_cases h1 : (rd_T70 b.flush.out (m : Int)).f0 = 1
   ·
    have hmem : rd_T70 b.flush.out (m : Int) ∈ b.flush.out := by
     unfold rd_T70
     rw [Int.toNat_natCast, List.getD_eq_getElem?_getD, List.getElem?_eq_getElem (by omega)]
     exact List.getElem_mem _
    have hall : ∀ o ∈ b.flush.out, o.f1 ≤ 1000000000 ∧ -1000000000 ≤ o.f1 := by
     intro o ho
     unfold Rb.flush at ho
     rw [List.mem_append] at ho
     rcases ho with ho | ho
     ·
      split at ho
      ·
       rcases List.mem_append.1 ho with ho | ho
       ·
        exact hk o ho
       ·
        rw [List.mem_singleton] at ho; rw [ho]; exact ⟨show (0 : Int) ≤ 1000000000 by decide, show (-1000000000 : Int) ≤ 0 by decide⟩
      ·
       exact hk o ho
     ·
      split at ho
      ·
       rw [List.mem_singleton] at ho; rw [ho]; dsimp only; omega
      ·
       cases ho
    have := hall _ hmem
    exact rkeep_grow w base g P b n _ rfl hb hn m hm h1 (by omega) (by omega) (by omega) (by omega) hbase hPf hl
   ·
    exact rkeep_new w base g P b n _ rfl hb hn m hm h1 hbase hPf hl
end Go.Proofs.Ytidihnnkcmeaeaa.A
