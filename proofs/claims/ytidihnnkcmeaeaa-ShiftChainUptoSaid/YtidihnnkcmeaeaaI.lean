/- The builder's onKeep: what it does to the builder. No condition but room for what grows. -/
import Derived.Test.YtidihnnkcmeaeaaH
namespace Go.Proofs.Ytidihnnkcmeaeaa.A
open Go.RowKit Go.Proofs.YtidihnnkcmeaeaaW.PrintWords Go.Proofs.YtidihnnkcmeaeaaW.PrintLast Go.Proofs.YtidihnnkcmeaeaaW.PrintMore
set_option linter.unusedVariables false
set_option linter.unusedSimpArgs false
set_option maxHeartbeats 4000000 in
set_option maxRecDepth 100000 in
theorem onKeep_zero (w : World) (base g : Nat) (P : Nat → Prop) (b : Bs) (n : Int) (s : ByteArray) (hb : IsB w base P g b) (h : n = 0) :
  Calls Try.prog 71 #[.pointer (some ⟨g, 0, none⟩), .int .i64 n, .string s] w fun e w' => e = .returned (.tuple #[]) ∧ IsB w' base P g (b.onKeep n) ∧ Kp P w w' := by
 have hfin := Aside0.mk (show IsB w base P g (b.onKeep n) by rw [show b.onKeep n = b from by simp [Bs.onKeep, h]]; exact hb)
 have h0b : (n == 0) = true := beq_iff_eq.mpr h
 clear hb h
 go_enter Try.func71, Try.ntmps71
 go_wp2
 exact bodyPost_ret (results_none rfl _ _ _) rfl ⟨rfl, hfin.out, Kp.refl _ _⟩
set_option maxHeartbeats 4000000 in
set_option maxRecDepth 100000 in
theorem onKeep_grow (w : World) (base g : Nat) (P : Nat → Prop) (b : Bs) (n : Int) (s : ByteArray) (hb : IsB w base P g b) (hn : n ≠ 0) (hlast : b.last = 1) (hne : b.out ≠ [])
  (hlo : -1000000000000 ≤ (rd_T70 b.out ((b.out.length - 1 : Nat) : Int)).f1) (hhi : (rd_T70 b.out ((b.out.length - 1 : Nat) : Int)).f1 ≤ 1000000000000) (h2 : n ≤ 1000000000000) (h3 : -1000000000000 ≤ n) :
  Calls Try.prog 71 #[.pointer (some ⟨g, 0, none⟩), .int .i64 n, .string s] w fun e w' => e = .returned (.tuple #[]) ∧ IsB w' base P g (b.onKeep n) ∧ Kp P w w' := by
 obtain ⟨hg, vo, vp, hblk, ho, hp⟩ := hb
 have hpos : 0 < b.out.length := List.length_pos_iff.mpr hne
 obtain ⟨go, co, hvo, hgb, hgl, cells, hcells⟩ := Kd.R_form ho hpos
 subst hvo
 obtain ⟨m, hm⟩ : ∃ m, b.out.length = m + 1 := ⟨b.out.length - 1, by omega⟩
 have hm1 : b.out.length - 1 = m := by omega
 rw [hm1] at hlo hhi
 obtain ⟨ce, hcl, hM, hcc, hfr⟩ := Kd.R_elem ho z70 (m : Int) (by omega) (by omega)
 have hce : ce = [.int .i64 (rd_T70 b.out (m : Int)).f0, .int .i64 (rd_T70 b.out (m : Int)).f1, .string (rd_T70 b.out (m : Int)).f2] := k70_openM hM
 subst hce
 have hPgo : P go := ho.1 go (by simp [Value.ownBlock])
 have hgne : g ≠ go := by
  intro h
  have := Kd.R_ne ho hblk (by decide)
  exact this (by rw [h]; simp [Value.ownBlock])
 have hseg := Kd.R_seg ho (m : Int) (by omega) (by omega) (seg := [.int .i64 ((rd_T70 b.out (m : Int)).f1 + n)]) (j := 1) hcl hcc (show 2 ≤ 3 from by decide) (x' := (⟨(rd_T70 b.out (m : Int)).f0, (rd_T70 b.out (m : Int)).f1 + n, (rd_T70 b.out (m : Int)).f2⟩ : S70)) (k70_mkM _ _ _ (⟨(rd_T70 b.out (m : Int)).f0, (rd_T70 b.out (m : Int)).f1 + n, (rd_T70 b.out (m : Int)).f2⟩ : S70)) (fun _ hk => hk)
 have hx1 : w.cell? ⟨go, m * 3 + 1, none⟩ = some (.int .i64 (rd_T70 b.out (m : Int)).f1) := by have h_ := hcc 1 _ rfl; rw [Int.toNat_natCast] at h_; exact h_
 have hf1 : w.frozen? ⟨go, m * 3 + 1, none⟩ = false := by have h_ := hfr 1; rw [Int.toNat_natCast] at h_; exact h_
 have hfin := Aside0.mk (show b.onKeep n = ⟨b.out.set m ⟨(rd_T70 b.out (m : Int)).f0, (rd_T70 b.out (m : Int)).f1 + n, (rd_T70 b.out (m : Int)).f2⟩, b.last, b.put, b.drop⟩ by
  simp [Bs.onKeep, hn, hlast, growLast, hm1, rd_T70])
 have HBLK := Aside0.mk hblk
 have HO := Aside0.mk ho
 have HP := Aside0.mk hp
 have HG := Aside0.mk hg
 have HGN := Aside0.mk hgne
 have HPG := Aside0.mk hPgo
 have HSEG := Aside0.mk hseg
 have h0b : (n == 0) = false := beq_eq_false_iff_ne.mpr hn
 have hl2 : (b.last == 2) = false := by rw [hlast]; rfl
 have hl1 : (b.last == 1) = true := by rw [hlast]; rfl
 have HM := Aside0.mk hm
 have c0 : w.cell? ⟨g, 0, none⟩ = some (.slice (some ⟨go, 0, none⟩) (m + 1) co) := by rw [← hm]; exact (blk_cell hblk 0).trans rfl
 have c1 : w.cell? ⟨g, 1, none⟩ = some (.int .i64 b.last) := (blk_cell hblk 1).trans rfl
 have hbig : (m : Int) + 1 ≤ 9223372036854775807 := by have := (Kd.R_reads' ho).2.2.2.1; omega
 have hltm : (m : Int) < (m : Int) + 1 := by omega
 have hwm : wrap64 (m : Int) = (m : Int) := by unfold wrap64; omega
 clear hblk ho hp hg hgne hPgo hseg hn hlast hne hcc hfr hM hcl hcells hm hm1 hgb hgl hpos
 go_enter Try.func71, Try.ntmps71
 go_wp2
 refine start_ (n := 18) (S := fun w' => w'.cell? ⟨g, 0, none⟩ = some (.slice (some ⟨go, 0, none⟩) (m + 1) co) ∧ w'.cell? ⟨go, m * 3 + 1, none⟩ = some (.int .i64 (rd_T70 b.out (m : Int)).f1)) (ds := [17]) #[false, false, false, false, false, false, false, false, false, false, false, false, false, false, false, false, false, false] (by kernel_rfl) rfl rfl ⟨c0, hx1⟩ (fun hHeld => ?_)
 refine pure_ (i := 0) (N := some 20) (v := ?_) (a' := ?_) #[true, false, false, false, false, false, false, false, false, false, false, false, false, false, false, false, false, false] rfl rfl (by kernel_rfl) (fun _ _ _ h => h) (Or.inl ⟨by rfl, ?_⟩) ?_ ?_
 rotate_left
 ·
  intro w'
  go_simp
  with_reducible rfl
 rotate_left
 ·
  simp only [Act.put, List.setIfInBounds_toArray, List.set_cons_zero, List.set_cons_succ, i64_w, i32_w]
  rfl
 refine pure_ (i := 1) (N := some 21) (v := ?_) (a' := ?_) #[true, true, false, false, false, false, false, false, false, false, false, false, false, false, false, false, false, false] rfl rfl (by kernel_rfl) (fun _ _ _ h => h) (Or.inl ⟨by rfl, ?_⟩) ?_ ?_
 rotate_left
 ·
  intro w'
  go_simp
  with_reducible rfl
 rotate_left
 ·
  simp only [Act.put, List.setIfInBounds_toArray, List.set_cons_zero, List.set_cons_succ, i64_w, i32_w]
  rfl
 refine pure_ (i := 2) (N := some 22) (v := ?_) (a' := ?_) #[true, true, true, false, false, false, false, false, false, false, false, false, false, false, false, false, false, false] rfl rfl (by kernel_rfl) (fun _ _ _ h => h) (Or.inl ⟨by rfl, ?_⟩) ?_ ?_
 rotate_left
 ·
  intro w'
  go_simp
  with_reducible rfl
 rotate_left
 ·
  simp only [Act.put, List.setIfInBounds_toArray, List.set_cons_zero, List.set_cons_succ, i64_w, i32_w]
  rfl
 refine pure_ (i := 4) (N := some 24) (v := ?_) (a' := ?_) #[true, true, true, false, true, false, false, false, false, false, false, false, false, false, false, false, false, false] rfl rfl (by kernel_rfl) (fun _ _ _ h => h) (Or.inl ⟨by rfl, ?_⟩) ?_ ?_
 rotate_left
 ·
  intro w'
  go_simp
  with_reducible rfl
 rotate_left
 ·
  simp only [Act.put, List.setIfInBounds_toArray, List.set_cons_zero, List.set_cons_succ, i64_w, i32_w]
  rfl
 refine pure_ (i := 5) (N := some 25) (v := ?_) (a' := ?_) #[true, true, true, false, true, true, false, false, false, false, false, false, false, false, false, false, false, false] rfl rfl (by kernel_rfl) (fun _ _ _ h => h) (Or.inl ⟨by rfl, ?_⟩) ?_ ?_
 rotate_left
 ·
  intro w'
  go_simp
  with_reducible rfl
 rotate_left
 ·
  simp only [Act.put, List.setIfInBounds_toArray, List.set_cons_zero, List.set_cons_succ, i64_w, i32_w]
  rfl
 refine pure_ (i := 6) (N := some 26) (v := ?_) (a' := ?_) #[true, true, true, false, true, true, true, false, false, false, false, false, false, false, false, false, false, false] rfl rfl (by kernel_rfl) (fun _ _ _ h => h) (Or.inl ⟨by rfl, ?_⟩) ?_ ?_
 rotate_left
 ·
  intro w'
  go_simp
  with_reducible rfl
 rotate_left
 ·
  simp only [Act.put, List.setIfInBounds_toArray, List.set_cons_zero, List.set_cons_succ, i64_w, i32_w]
  rfl
 refine pure_ (i := 13) (N := some 33) (v := ?_) (a' := ?_) #[true, true, true, false, true, true, true, false, false, false, false, false, false, true, false, false, false, false] rfl rfl (by kernel_rfl) (fun _ _ _ h => h) (Or.inl ⟨by rfl, ?_⟩) ?_ ?_
 rotate_left
 ·
  intro w'
  go_simp
  with_reducible rfl
 rotate_left
 ·
  simp only [Act.put, List.setIfInBounds_toArray, List.set_cons_zero, List.set_cons_succ, i64_w, i32_w]
  rfl
 refine take_ (i := 3) (N := some 23) (v := ?_) (a' := ?_) #[true, true, true, true, true, true, true, false, false, false, false, false, false, true, false, false, false, false] rfl rfl (by kernel_rfl) (fun _ _ _ h => h) (Or.inl ⟨by rfl, ?_⟩) hHeld ?_ ?_
 rotate_left
 ·
  rintro w' ⟨s0, s1⟩
  go_simp
  with_reducible rfl
 rotate_left
 ·
  simp only [Act.put, List.setIfInBounds_toArray, List.set_cons_zero, List.set_cons_succ, i64_w, i32_w]
  rfl
 refine take_ (i := 7) (N := some 27) (v := ?_) (a' := ?_) #[true, true, true, true, true, true, true, true, false, false, false, false, false, true, false, false, false, false] rfl rfl (by kernel_rfl) (fun _ _ _ h => h) (Or.inl ⟨by rfl, ?_⟩) hHeld ?_ ?_
 rotate_left
 ·
  rintro w' ⟨s0, s1⟩
  go_simp
  with_reducible rfl
 rotate_left
 ·
  simp only [Act.put, List.setIfInBounds_toArray, List.set_cons_zero, List.set_cons_succ, i64_w, i32_w]
  rfl
 refine pure_ (i := 8) (N := some 28) (v := ?_) (a' := ?_) #[true, true, true, true, true, true, true, true, true, false, false, false, false, true, false, false, false, false] rfl rfl (by kernel_rfl) (fun _ _ _ h => h) (Or.inl ⟨by rfl, ?_⟩) ?_ ?_
 rotate_left
 ·
  intro w'
  go_simp
  with_reducible rfl
 rotate_left
 ·
  simp only [Act.put, List.setIfInBounds_toArray, List.set_cons_zero, List.set_cons_succ, i64_w, i32_w]
  rfl
 refine pure_ (i := 9) (N := some 29) (v := ?_) (a' := ?_) #[true, true, true, true, true, true, true, true, true, true, false, false, false, true, false, false, false, false] rfl rfl (by kernel_rfl) (fun _ _ _ h => h) (Or.inl ⟨by rfl, ?_⟩) ?_ ?_
 rotate_left
 ·
  intro w'
  go_simp
  with_reducible rfl
 rotate_left
 ·
  simp only [Act.put, List.setIfInBounds_toArray, List.set_cons_zero, List.set_cons_succ, i64_w, i32_w]
  rfl
 refine pure_ (i := 10) (N := some 30) (v := ?_) (a' := ?_) #[true, true, true, true, true, true, true, true, true, true, true, false, false, true, false, false, false, false] rfl rfl (by kernel_rfl) (fun _ _ _ h => h) (Or.inl ⟨by rfl, ?_⟩) ?_ ?_
 rotate_left
 ·
  intro w'
  go_simp
  with_reducible rfl
 rotate_left
 ·
  simp only [Act.put, List.setIfInBounds_toArray, List.set_cons_zero, List.set_cons_succ, i64_w, i32_w]
  rfl
 refine pure_ (i := 11) (N := some 31) (v := ?_) (a' := ?_) #[true, true, true, true, true, true, true, true, true, true, true, true, false, true, false, false, false, false] rfl rfl (by kernel_rfl) (fun _ _ _ h => h) (Or.inl ⟨by rfl, ?_⟩) ?_ ?_
 rotate_left
 ·
  intro w'
  go_simp
  with_reducible rfl
 rotate_left
 ·
  simp only [Act.put, List.setIfInBounds_toArray, List.set_cons_zero, List.set_cons_succ, i64_w, i32_w]
  rfl
 refine take_ (i := 12) (N := some 32) (v := ?_) (a' := ?_) #[true, true, true, true, true, true, true, true, true, true, true, true, true, true, false, false, false, false] rfl rfl (by kernel_rfl) (fun _ _ _ h => h) (Or.inl ⟨by rfl, ?_⟩) hHeld ?_ ?_
 rotate_left
 ·
  rintro w' ⟨s0, s1⟩
  go_simp
  with_reducible rfl
 rotate_left
 ·
  simp only [Act.put, List.setIfInBounds_toArray, List.set_cons_zero, List.set_cons_succ, i64_w, i32_w]
  rfl
 refine pure_ (i := 14) (N := some 34) (v := ?_) (a' := ?_) #[true, true, true, true, true, true, true, true, true, true, true, true, true, true, true, false, false, false] rfl rfl (by kernel_rfl) (fun _ _ _ h => h) (Or.inl ⟨by rfl, ?_⟩) ?_ ?_
 rotate_left
 ·
  intro w'
  go_simp
  with_reducible rfl
 rotate_left
 ·
  simp only [Act.put, List.setIfInBounds_toArray, List.set_cons_zero, List.set_cons_succ, i64_w, i32_w]
  rfl
 refine pure_ (i := 15) (N := some 35) (v := ?_) (a' := ?_) #[true, true, true, true, true, true, true, true, true, true, true, true, true, true, true, true, false, false] rfl rfl (by kernel_rfl) (fun _ _ _ h => h) (Or.inl ⟨by rfl, ?_⟩) ?_ ?_
 rotate_left
 ·
  intro w'
  go_simp
  with_reducible rfl
 rotate_left
 ·
  simp only [Act.put, List.setIfInBounds_toArray, List.set_cons_zero, List.set_cons_succ, i64_w, i32_w]
  rfl
 refine pure_ (i := 16) (N := some 36) (v := ?_) (a' := ?_) #[true, true, true, true, true, true, true, true, true, true, true, true, true, true, true, true, true, false] rfl rfl (by kernel_rfl) (fun _ _ _ h => h) (Or.inl ⟨by rfl, ?_⟩) ?_ ?_
 rotate_left
 ·
  intro w'
  go_simp
  with_reducible rfl
 rotate_left
 ·
  simp only [Act.put, List.setIfInBounds_toArray, List.set_cons_zero, List.set_cons_succ, i64_w, i32_w]
  rfl
 refine last_ (i := 17) (N := none) #[true, true, true, true, true, true, true, true, true, true, true, true, true, true, true, true, true, true] rfl rfl (by kernel_rfl) (by decide) (fun K hK => ?_)
 refine skip_ (w1 := ?_) (by rfl) rfl ?_ ?_
 rotate_left
 ·
  go_simp
  rfl
 refine hK.out _ _ ?_
 clear hK K
 refine done_ (by kernel_rfl) ?_
 go_wp2
 have hs3 : ((m : Int).toNat * k70.sz + 1) = m * 3 + 1 := by rw [Int.toNat_natCast]; rfl
 refine bodyPost_ret (results_none rfl _ _ _) rfl ⟨rfl, ?_, ?_⟩
 ·
  have hw2 : wrap64 ((rd_T70 b.out (m : Int)).f1 + n) = (rd_T70 b.out (m : Int)).f1 + n := by unfold wrap64; omega
  rw [hfin.out, hw2]
  have h1 := HSEG.out.1
  have h2 := Kd.R_over HP.out HO.out ne5_70 HSEG.out.2
  rw [hs3, Int.toNat_natCast] at h1
  rw [hs3] at h2
  refine ⟨HG.out, _, _, blk_far HBLK.out HGN.out _, ?_, ?_⟩
  ·
   exact h1
  ·
   exact h2
 ·
  exact ((Kp.refl P w).drew).setCell (p := ⟨go, m * 3 + 1, none⟩) HPG.out _
set_option maxHeartbeats 4000000 in
set_option maxRecDepth 100000 in
theorem onKeep_new (w : World) (base g : Nat) (P : Nat → Prop) (b : Bs) (n : Int) (s : ByteArray) (hb : IsB w base P g b) (hn : n ≠ 0) (hl1 : b.last ≠ 1) (hl2 : b.last ≠ 2) (hbase : base ≤ w.heap.size) (hPf : ∀ k, w.heap.size ≤ k → P k) (hl : b.out.length ≤ 4000000000000) :
  Calls Try.prog 71 #[.pointer (some ⟨g, 0, none⟩), .int .i64 n, .string s] w fun e w' => e = .returned (.tuple #[]) ∧ IsB w' base P g (b.onKeep n) ∧ Kp P w w' := by
 obtain ⟨hg, vo, vp, hblk, ho, hp⟩ := hb
 obtain ⟨Ao, co, rfl⟩ := Kd.R_slice ho
 have hfin := Aside0.mk (show b.onKeep n = ⟨b.out ++ [(⟨1, n, noText⟩ : S70)], 1, b.put, b.drop⟩ by simp [Bs.onKeep, hn, hl1, hl2])
 have h0b : (n == 0) = false := beq_eq_false_iff_ne.mpr hn
 have h2b : (b.last == 2) = false := beq_eq_false_iff_ne.mpr hl2
 have h1b : (b.last == 1) = false := beq_eq_false_iff_ne.mpr hl1
 have HBLK := Aside0.mk hblk
 have HO := Aside0.mk ho
 have HP := Aside0.mk hp
 have HG := Aside0.mk hg
 have HK := Aside0.mk (Kp.refl P w)
 clear hblk ho hp hg hn hl1 hl2
 have c0 : w.cell? ⟨g, 0, none⟩ = some (.slice Ao b.out.length co) := (blk_cell HBLK.out 0).trans rfl
 have c1 : w.cell? ⟨g, 1, none⟩ = some (.int .i64 b.last) := (blk_cell HBLK.out 1).trans rfl
 go_enter Try.func71, Try.ntmps71
 go_wp2_with (first | (at_builtin; refine Kd.R_append k70 (w0 := w) (W := w) base rfl (.tmp 42) (.tmp 45) 25 70 (.agg #[.int .i64 0, .int .i64 0, .string ⟨#[]⟩]) 32 rfl Try.underlying25 info70' rfl (by decide) (by omega) (.slice Ao (b.out).length co) (b.out) ⟨1, n, ⟨#[]⟩⟩ [.int .i64 1, .int .i64 n, .string ⟨#[]⟩] P (fun _ => False) rfl rfl (k70_mkM _ _ _ _) (fun _ h => h.elim) hPf HO.out (Below.refl _ _) hbase (by omega) ?_; intro v4 w4 ho4 hb4 hg4 hat4; have HB4 := Aside0.mk (blk_grown HBLK.out hg4 (Kd.R_ne HO.out HBLK.out (by decide))); have HP4 := Aside0.mk (Kd.R_over HP.out HO.out ne5_70 hg4); have HO4 := Aside0.mk ho4; have HK4 := Aside0.mk (HK.out.grown hg4 (fun k e _ => HO.out.1 k e)); clear ho4 hb4 hat4 hg4; have d4 : w4.cell? ⟨g, 0, none⟩ = some (.slice Ao (b.out).length co) := (blk_cell HB4.out 0).trans rfl; have e4 := blk_frozen HB4.out 0; have d5 : w4.cell? ⟨g, 1, none⟩ = some (.int .i64 b.last) := (blk_cell HB4.out 1).trans rfl; have e5 := blk_frozen HB4.out 1; obtain ⟨A4, k4, hv4⟩ := Kd.R_slice HO4.out; rw [List.length_append, List.length_singleton] at hv4; subst hv4))
 go_end0
 refine ⟨rfl, ?_, (HK4.out.setCell (p := ⟨g, 0, none⟩) HG.out _).setCell (p := ⟨g, 1, none⟩) HG.out _⟩
 rw [hfin.out]
 refine ⟨HG.out, _, _, blk_put (blk_put HB4.out 0 (.slice A4 ((b.out).length + 1) k4) rfl) 1 (.int .i64 1) rfl, ?_, ?_⟩
 ·
  exact Kd.R_set (Kd.R_set HO4.out HB4.out ne70_99 0 _) (blk_put HB4.out 0 (.slice A4 ((b.out).length + 1) k4) rfl) ne70_99 1 _
 ·
  exact Kd.R_set (Kd.R_set HP4.out HB4.out ne5_99 0 _) (blk_put HB4.out 0 (.slice A4 ((b.out).length + 1) k4) rfl) ne5_99 1 _
set_option maxHeartbeats 4000000 in
set_option maxRecDepth 100000 in
theorem onKeep_flush (w : World) (base g : Nat) (P : Nat → Prop) (b : Bs) (n : Int) (s : ByteArray) (hb : IsB w base P g b) (hn : n ≠ 0) (hl2 : b.last = 2) (hbase : base ≤ w.heap.size) (hPf : ∀ k, w.heap.size ≤ k → P k) (hl : b.out.length ≤ 3000000000000) :
  Calls Try.prog 71 #[.pointer (some ⟨g, 0, none⟩), .int .i64 n, .string s] w fun e w' => e = .returned (.tuple #[]) ∧ IsB w' base P g (b.onKeep n) ∧ Kp P w w' := by
 obtain ⟨hg, vo, vp, hblk, ho, hp⟩ := hb
 have hfl := flush_calls w base g P b ⟨hg, vo, vp, hblk, ho, hp⟩ hbase hPf (by omega)
 have HFL := Aside0.mk (show b.flush.out.length ≤ b.out.length + 2 by unfold Bs.flush; simp only [List.length_append]; split <;> split <;> simp <;> omega)
 have hfin := Aside0.mk (show b.onKeep n = ⟨b.flush.out ++ [(⟨1, n, noText⟩ : S70)], 1, noText, 0⟩ by simp [Bs.onKeep, hn, hl2])
 have h0b : (n == 0) = false := beq_eq_false_iff_ne.mpr hn
 have h2b : (b.last == 2) = true := beq_iff_eq.mpr hl2
 have h1b : (b.last == 1) = false := beq_eq_false_iff_ne.mpr (by omega)
 have HFC := Aside0.mk hfl
 have c1 : w.cell? ⟨g, 1, none⟩ = some (.int .i64 b.last) := (blk_cell hblk 1).trans rfl
 clear hblk ho hp hg hn hl2 hfl
 go_enter Try.func71, Try.ntmps71
 go_wp2_with (first | (at_builtin; refine Kd.R_append k70 (w0 := w1) (W := w1) base rfl (.tmp 42) (.tmp 45) 25 70 (.agg #[.int .i64 0, .int .i64 0, .string ⟨#[]⟩]) 32 rfl Try.underlying25 info70' rfl (by decide) (by omega) (.slice Ao (b.flush.out).length co) (b.flush.out) ⟨1, n, ⟨#[]⟩⟩ [.int .i64 1, .int .i64 n, .string ⟨#[]⟩] P (fun _ => False) rfl rfl (k70_mkM _ _ _ _) (fun _ h => h.elim) (fun k hk => hPf k (Nat.le_trans HK.out.size hk)) HO.out (Below.refl _ _) (Nat.le_trans hbase HK.out.size) (by have := HFL.out; omega) ?_; intro v4 w4 ho4 hb4 hg4 hat4; have HB4 := Aside0.mk (blk_grown HBLK.out hg4 (Kd.R_ne HO.out HBLK.out (by decide))); have HP4 := Aside0.mk (Kd.R_over HP.out HO.out ne5_70 hg4); have HO4 := Aside0.mk ho4; have HK4 := Aside0.mk (HK.out.grown hg4 (fun k e _ => HO.out.1 k e)); clear ho4 hb4 hat4 hg4; have d4 : w4.cell? ⟨g, 0, none⟩ = some (.slice Ao (b.flush.out).length co) := (blk_cell HB4.out 0).trans rfl; have e4 := blk_frozen HB4.out 0; have d5 : w4.cell? ⟨g, 1, none⟩ = some (.int .i64 b.last) := (blk_cell HB4.out 1).trans rfl; have e5 := blk_frozen HB4.out 1; obtain ⟨A4, k4, hv4⟩ := Kd.R_slice HO4.out; rw [List.length_append, List.length_singleton] at hv4; subst hv4) | (go_at_call 97; refine (HFC.out).mono ?_; rintro e w1 ⟨rfl, hb1, hk1⟩; obtain ⟨hg, vo, vp, hblk, ho, hp⟩ := hb1; obtain ⟨Ao, co, hvo⟩ := Kd.R_slice ho; subst hvo; have HBLK := Aside0.mk hblk; have HO := Aside0.mk ho; have HP := Aside0.mk hp; have HG := Aside0.mk hg; have HK := Aside0.mk hk1; clear hblk ho hp hg hk1; have c0 : w1.cell? ⟨g, 0, none⟩ = some (.slice Ao b.flush.out.length co) := (blk_cell HBLK.out 0).trans rfl; have d1 : w1.cell? ⟨g, 1, none⟩ = some (.int .i64 b.last) := (blk_cell HBLK.out 1).trans rfl))
 go_end0
 refine ⟨rfl, ?_, (HK4.out.setCell (p := ⟨g, 0, none⟩) HG.out _).setCell (p := ⟨g, 1, none⟩) HG.out _⟩
 rw [hfin.out]
 refine ⟨HG.out, _, _, blk_put (blk_put HB4.out 0 (.slice A4 ((b.flush.out).length + 1) k4) rfl) 1 (.int .i64 1) rfl, ?_, ?_⟩
 ·
  exact Kd.R_set (Kd.R_set HO4.out HB4.out ne70_99 0 _) (blk_put HB4.out 0 (.slice A4 ((b.flush.out).length + 1) k4) rfl) ne70_99 1 _
 ·
  exact Kd.R_set (Kd.R_set HP4.out HB4.out ne5_99 0 _) (blk_put HB4.out 0 (.slice A4 ((b.flush.out).length + 1) k4) rfl) ne5_99 1 _
end Go.Proofs.Ytidihnnkcmeaeaa.A
