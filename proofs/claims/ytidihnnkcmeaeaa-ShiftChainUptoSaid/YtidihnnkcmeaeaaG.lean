/- The builder's flush: what is put and dropped is written. No condition but room for what grows. -/
import Derived.Test.YtidihnnkcmeaeaaF
namespace Go.Proofs.Ytidihnnkcmeaeaa.A
open Go.RowKit Go.Proofs.YtidihnnkcmeaeaaW.PrintWords Go.Proofs.YtidihnnkcmeaeaaW.PrintLast Go.Proofs.YtidihnnkcmeaeaaW.PrintMore
set_option linter.unusedVariables false
set_option linter.unusedSimpArgs false
set_option maxHeartbeats 4000000 in
set_option maxRecDepth 100000 in
theorem flush_tt (w : World) (base g : Nat) (P : Nat → Prop) (b : Bs) (hb : IsB w base P g b) (hbase : base ≤ w.heap.size) (hP : ∀ k, w.heap.size ≤ k → P k) (hl : b.out.length ≤ 4000000000000)
  (h1 : 0 < b.put.size) (h2 : 0 < b.drop) :
  Calls Try.prog 97 #[.pointer (some ⟨g, 0, none⟩)] w fun e w' => e = .returned (.tuple #[]) ∧ IsB w' base P g b.flush ∧ Kp P w w' := by
 obtain ⟨hg, vo, vp, hblk, ho, hp⟩ := hb
 obtain ⟨Ap, cp, rfl, hpc, hpC⟩ := Kd.R_reads hp
 obtain ⟨Ao, co, hvo, hoc, hoC⟩ := Kd.R_reads ho
 subst hvo
 obtain ⟨vo, hvo⟩ : ∃ v, v = Value.slice Ao b.out.length co := ⟨_, rfl⟩
 rw [← hvo] at hblk ho
 have HVO := Aside0.mk hvo
 clear hvo hoc hoC
 have hlen : (bytesOf b.put).length = b.put.size := bytesOf_length _
 have h1b : decide (0 < (bytesOf b.put).length) = true := by rw [hlen]; simpa using h1
 have h1i : decide (0 < ((bytesOf b.put).length : Int)) = true := by rw [hlen]; simpa using h1
 have h2b : decide (0 < b.drop) = true := by simpa using h2
 have HL := Aside0.mk hlen
 have H1 := Aside0.mk h1
 have H2 := Aside0.mk h2
 clear hlen h1 h2
 have HBLK := Aside0.mk hblk
 have HO := Aside0.mk ho
 have HP := Aside0.mk hp
 have HNE := Aside0.mk (Kd.R_ne ho hblk (by decide))
 have HOK := Aside0.mk ho.1
 have HG := Aside0.mk hg
 have HPC := Aside0.mk hpc
 clear hblk ho hp hpC hpc hg
 have c0 : w.cell? ⟨g, 0, none⟩ = some vo := (blk_cell HBLK.out 0).trans rfl
 have c2 : w.cell? ⟨g, 2, none⟩ = some (.slice Ap (bytesOf b.put).length cp) := (blk_cell HBLK.out 2).trans rfl
 have c3 : w.cell? ⟨g, 3, none⟩ = some (.int .i64 b.drop) := (blk_cell HBLK.out 3).trans rfl
 have f0 := blk_frozen HBLK.out 0
 have f2 := blk_frozen HBLK.out 2
 have f3 := blk_frozen HBLK.out 3
 obtain ⟨i0, hi0, hz0, hz1, hz2⟩ := info_parts info5
 have hct := cut_to (P := Try.prog) 23 5 .i64 Try.underlying23 hi0 Ap (bytesOf b.put).length cp 0 (Int.le_refl 0) (by omega) HPC.out
 clear hi0 hz0 hz1 hz2
 go_enter Try.func97, Try.ntmps97
 go_wp2
 refine start_ (n := 16) (S := fun w' => w'.cell? ⟨g, 0, none⟩ = some vo ∧ w'.cell? ⟨g, 2, none⟩ = some (.slice Ap (bytesOf b.put).length cp) ∧ (convert 23 9 (.slice Ap (bytesOf b.put).length cp)).run Try.prog w' = .ok (.string (strOfNums (bytesOf b.put))) w') (ds := [15]) #[false, false, false, false, false, false, false, false, false, false, false, false, false, false, false, false] (by kernel_rfl) rfl rfl ⟨c0, c2, conv_at (Kd.R_drew HP.out)⟩ (fun hHeld => ?_)
 refine pure_ (i := 0) (N := some 8) (v := ?_) (a' := ?_) #[true, false, false, false, false, false, false, false, false, false, false, false, false, false, false, false] rfl rfl (by kernel_rfl) (fun _ _ _ h => h) (Or.inl ⟨by rfl, ?_⟩) ?_ ?_
 rotate_left
 ·
  intro w'
  go_simp
  with_reducible rfl
 rotate_left
 ·
  simp only [Act.put, List.setIfInBounds_toArray, List.set_cons_zero, List.set_cons_succ, i64_w, i32_w]
  rfl
 refine pure_ (i := 1) (N := some 9) (v := ?_) (a' := ?_) #[true, true, false, false, false, false, false, false, false, false, false, false, false, false, false, false] rfl rfl (by kernel_rfl) (fun _ _ _ h => h) (Or.inl ⟨by rfl, ?_⟩) ?_ ?_
 rotate_left
 ·
  intro w'
  go_simp
  with_reducible rfl
 rotate_left
 ·
  simp only [Act.put, List.setIfInBounds_toArray, List.set_cons_zero, List.set_cons_succ, i64_w, i32_w]
  rfl
 refine pure_ (i := 2) (N := some 10) (v := ?_) (a' := ?_) #[true, true, true, false, false, false, false, false, false, false, false, false, false, false, false, false] rfl rfl (by kernel_rfl) (fun _ _ _ h => h) (Or.inl ⟨by rfl, ?_⟩) ?_ ?_
 rotate_left
 ·
  intro w'
  go_simp
  with_reducible rfl
 rotate_left
 ·
  simp only [Act.put, List.setIfInBounds_toArray, List.set_cons_zero, List.set_cons_succ, i64_w, i32_w]
  rfl
 refine pure_ (i := 3) (N := some 11) (v := ?_) (a' := ?_) #[true, true, true, true, false, false, false, false, false, false, false, false, false, false, false, false] rfl rfl (by kernel_rfl) (fun _ _ _ h => h) (Or.inl ⟨by rfl, ?_⟩) ?_ ?_
 rotate_left
 ·
  intro w'
  go_simp
  with_reducible rfl
 rotate_left
 ·
  simp only [Act.put, List.setIfInBounds_toArray, List.set_cons_zero, List.set_cons_succ, i64_w, i32_w]
  rfl
 refine pure_ (i := 5) (N := some 13) (v := ?_) (a' := ?_) #[true, true, true, true, false, true, false, false, false, false, false, false, false, false, false, false] rfl rfl (by kernel_rfl) (fun _ _ _ h => h) (Or.inl ⟨by rfl, ?_⟩) ?_ ?_
 rotate_left
 ·
  intro w'
  go_simp
  with_reducible rfl
 rotate_left
 ·
  simp only [Act.put, List.setIfInBounds_toArray, List.set_cons_zero, List.set_cons_succ, i64_w, i32_w]
  rfl
 refine pure_ (i := 6) (N := some 14) (v := ?_) (a' := ?_) #[true, true, true, true, false, true, true, false, false, false, false, false, false, false, false, false] rfl rfl (by kernel_rfl) (fun _ _ _ h => h) (Or.inl ⟨by rfl, ?_⟩) ?_ ?_
 rotate_left
 ·
  intro w'
  go_simp
  with_reducible rfl
 rotate_left
 ·
  simp only [Act.put, List.setIfInBounds_toArray, List.set_cons_zero, List.set_cons_succ, i64_w, i32_w]
  rfl
 refine pure_ (i := 7) (N := some 15) (v := ?_) (a' := ?_) #[true, true, true, true, false, true, true, true, false, false, false, false, false, false, false, false] rfl rfl (by kernel_rfl) (fun _ _ _ h => h) (Or.inl ⟨by rfl, ?_⟩) ?_ ?_
 rotate_left
 ·
  intro w'
  go_simp
  with_reducible rfl
 rotate_left
 ·
  simp only [Act.put, List.setIfInBounds_toArray, List.set_cons_zero, List.set_cons_succ, i64_w, i32_w]
  rfl
 refine take_ (i := 4) (N := some 12) (v := ?_) (a' := ?_) #[true, true, true, true, true, true, true, true, false, false, false, false, false, false, false, false] rfl rfl (by kernel_rfl) (fun _ _ _ h => h) (Or.inl ⟨by rfl, ?_⟩) hHeld ?_ ?_
 rotate_left
 ·
  rintro w' ⟨s0, s1, s2⟩
  go_simp
  with_reducible rfl
 rotate_left
 ·
  simp only [Act.put, List.setIfInBounds_toArray, List.set_cons_zero, List.set_cons_succ, i64_w, i32_w]
  rfl
 refine take_ (i := 8) (N := some 16) (v := ?_) (a' := ?_) #[true, true, true, true, true, true, true, true, true, false, false, false, false, false, false, false] rfl rfl (by kernel_rfl) (fun _ _ _ h => h) (Or.inl ⟨by rfl, ?_⟩) hHeld ?_ ?_
 rotate_left
 ·
  rintro w' ⟨s0, s1, s2⟩
  go_simp
  with_reducible rfl
 rotate_left
 ·
  simp only [Act.put, List.setIfInBounds_toArray, List.set_cons_zero, List.set_cons_succ, i64_w, i32_w]
  rfl
 refine take_ (i := 9) (N := some 17) (v := ?_) (a' := ?_) #[true, true, true, true, true, true, true, true, true, true, false, false, false, false, false, false] rfl rfl (by kernel_rfl) (fun _ _ _ h => h) (Or.inl ⟨by rfl, ?_⟩) hHeld ?_ ?_
 rotate_left
 ·
  rintro w' ⟨s0, s1, s2⟩
  go_simp
  with_reducible rfl
 rotate_left
 ·
  simp only [Act.put, List.setIfInBounds_toArray, List.set_cons_zero, List.set_cons_succ, i64_w, i32_w]
  rfl
 refine pure_ (i := 10) (N := some 18) (v := ?_) (a' := ?_) #[true, true, true, true, true, true, true, true, true, true, true, false, false, false, false, false] rfl rfl (by kernel_rfl) (fun _ _ _ h => h) (Or.inl ⟨by rfl, ?_⟩) ?_ ?_
 rotate_left
 ·
  intro w'
  go_simp
  with_reducible rfl
 rotate_left
 ·
  simp only [Act.put, List.setIfInBounds_toArray, List.set_cons_zero, List.set_cons_succ, i64_w, i32_w]
  rfl
 refine one_ (i := 11) (N := some 19) #[true, true, true, true, true, true, true, true, true, true, true, true, false, false, false, false] rfl rfl (by kernel_rfl) (by decide) (fun K hK => ?_)
 refine value_ (w1 := ?_) (v := ?_) (by rfl) rfl ?_ ?_
 rotate_left 2
 ·
  go_simp
  constructor
  ·
   rfl
  ·
   rfl
 refine hK.out _ _ ⟨(World.cell?_alloc_lt _ _ _ (World.block_lt_of_cell? _ _ (hHeld.1))).trans (hHeld.1), (World.cell?_alloc_lt _ _ _ (World.block_lt_of_cell? _ _ (hHeld.2.1))).trans (hHeld.2.1), conv_at (Kd.R_alloc (Kd.R_drew HP.out) _)⟩ (fun hHeld => ?_)
 clear hK K
 refine norm_ (a' := ?_) ?_ ?_
 rotate_left
 ·
  show Act.put _ (some 19) _ = _
  simp only [Act.put, List.setIfInBounds_toArray, List.set_cons_zero, List.set_cons_succ, i64_w, i32_w]
  rfl
 refine one_ (i := 12) (N := some 20) #[true, true, true, true, true, true, true, true, true, true, true, true, true, false, false, false] rfl rfl (by kernel_rfl) (by decide) (fun K hK => ?_)
 refine Kd.R_append_step k70 (w0 := w) (W := w.drew) base (by rfl) (.tmp 12) (.tmp 19) 25 70 (.agg #[.int .i64 0, .int .i64 0, .string ⟨#[]⟩]) 32 (by rfl) Try.underlying25 info70' (by rfl) (by decide) (by omega) vo b.out ⟨2, 0, strOfNums (bytesOf b.put)⟩ [.int .i64 2, .int .i64 0, .string (strOfNums (bytesOf b.put))] P (fun _ => False) (by rfl) (by rfl) (k70_mkM _ _ _ _) (fun _ h => h.elim) hP (Kd.R_drew HO.out) ((Below.refl _ _).drew) hbase (by omega) ?_
 intro v1 w1 ho1 hb1 hg1 hat1
 have HB1 := Aside0.mk (blk_grown (w := w.drew) HBLK.out hg1 HNE.out)
 have HP1 := Aside0.mk (Kd.R_over (Kd.R_drew HP.out) (Kd.R_drew HO.out) ne5_70 hg1)
 have HO1 := Aside0.mk ho1
 have HK1 := Aside0.mk (((Kp.refl P w).drew).grown hg1 (fun k e _ => HOK.out k e))
 clear ho1 hb1 hat1
 have d0 : w1.cell? ⟨g, 0, none⟩ = some vo := (blk_cell HB1.out 0).trans rfl
 have e0 := blk_frozen HB1.out 0
 obtain ⟨A1, k1, hv1⟩ := Kd.R_slice HO1.out
 rw [List.length_append, List.length_singleton] at hv1
 subst hv1
 refine hK.out _ _ ⟨d0, (blk_cell HB1.out 2).trans rfl, conv_at HP1.out⟩ (fun hHeld => ?_)
 clear hK K
 refine norm_ (a' := ?_) ?_ ?_
 rotate_left
 ·
  show Act.put _ (some 20) _ = _
  simp only [Act.put, List.setIfInBounds_toArray, List.set_cons_zero, List.set_cons_succ, i64_w, i32_w]
  rfl
 refine pure_ (i := 13) (N := some 21) (v := ?_) (a' := ?_) #[true, true, true, true, true, true, true, true, true, true, true, true, true, true, false, false] rfl rfl (by kernel_rfl) (fun _ _ _ h => h) (Or.inl ⟨by rfl, ?_⟩) ?_ ?_
 rotate_left
 ·
  intro w'
  go_simp
  with_reducible rfl
 rotate_left
 ·
  simp only [Act.put, List.setIfInBounds_toArray, List.set_cons_zero, List.set_cons_succ, i64_w, i32_w]
  rfl
 refine pure_ (i := 14) (N := some 22) (v := ?_) (a' := ?_) #[true, true, true, true, true, true, true, true, true, true, true, true, true, true, true, false] rfl rfl (by kernel_rfl) (fun _ _ _ h => h) (Or.inl ⟨by rfl, ?_⟩) ?_ ?_
 rotate_left
 ·
  intro w'
  go_simp
  with_reducible rfl
 rotate_left
 ·
  simp only [Act.put, List.setIfInBounds_toArray, List.set_cons_zero, List.set_cons_succ, i64_w, i32_w]
  rfl
 refine last_ (i := 15) (N := none) #[true, true, true, true, true, true, true, true, true, true, true, true, true, true, true, true] rfl rfl (by kernel_rfl) (by decide) (fun K hK => ?_)
 refine skip_ (w1 := ?_) (by rfl) rfl ?_ ?_
 rotate_left
 ·
  go_simp
  rfl
 refine hK.out _ _ ?_
 clear hK K
 refine done_ (by kernel_rfl) ?_
 have HB2 := Aside0.mk (blk_put HB1.out 0 (.slice A1 (b.out.length + 1) k1) rfl)
 have HP2 := Aside0.mk (Kd.R_set HP1.out HB1.out ne5_99 0 (.slice A1 (b.out.length + 1) k1))
 have HO2 := Aside0.mk (Kd.R_set HO1.out HB1.out ne70_99 0 (.slice A1 (b.out.length + 1) k1))
 have HK2 := Aside0.mk (HK1.out.setCell (p := ⟨g, 0, none⟩) HG.out (.slice A1 (b.out.length + 1) k1))
 clear d0 e0 c0 c2 c3 f0 f2 f3 hg1
 generalize w1.setCell ⟨g, 0, none⟩ _ = w2 at HB2 HP2 HO2 HK2 ⊢
 clear HB1 HP1 HO1 HK1
 have c3 : w2.cell? ⟨g, 3, none⟩ = some (.int .i64 b.drop) := (blk_cell HB2.out 3).trans rfl
 have c0 : w2.cell? ⟨g, 0, none⟩ = some (.slice A1 (b.out.length + 1) k1) := (blk_cell HB2.out 0).trans rfl
 have c2 : w2.cell? ⟨g, 2, none⟩ = some (.slice Ap (bytesOf b.put).length cp) := (blk_cell HB2.out 2).trans rfl
 have f0 := blk_frozen HB2.out 0
 have f2 := blk_frozen HB2.out 2
 have f3 := blk_frozen HB2.out 3
 go_wp2
 refine start_ (n := 15) (S := fun w' => w'.cell? ⟨g, 0, none⟩ = some (.slice A1 (b.out.length + 1) k1) ∧ w'.cell? ⟨g, 3, none⟩ = some (.int .i64 b.drop)) (ds := [14]) #[false, false, false, false, false, false, false, false, false, false, false, false, false, false, false] (by kernel_rfl) rfl rfl ⟨(blk_cell HB2.out 0).trans rfl, (blk_cell HB2.out 3).trans rfl⟩ (fun hHeld => ?_)
 refine pure_ (i := 0) (N := some 28) (v := ?_) (a' := ?_) #[true, false, false, false, false, false, false, false, false, false, false, false, false, false, false] rfl rfl (by kernel_rfl) (fun _ _ _ h => h) (Or.inl ⟨by rfl, ?_⟩) ?_ ?_
 rotate_left
 ·
  intro w'
  go_simp
  with_reducible rfl
 rotate_left
 ·
  simp only [Act.put, List.setIfInBounds_toArray, List.set_cons_zero, List.set_cons_succ, i64_w, i32_w]
  rfl
 refine pure_ (i := 1) (N := some 29) (v := ?_) (a' := ?_) #[true, true, false, false, false, false, false, false, false, false, false, false, false, false, false] rfl rfl (by kernel_rfl) (fun _ _ _ h => h) (Or.inl ⟨by rfl, ?_⟩) ?_ ?_
 rotate_left
 ·
  intro w'
  go_simp
  with_reducible rfl
 rotate_left
 ·
  simp only [Act.put, List.setIfInBounds_toArray, List.set_cons_zero, List.set_cons_succ, i64_w, i32_w]
  rfl
 refine pure_ (i := 2) (N := some 30) (v := ?_) (a' := ?_) #[true, true, true, false, false, false, false, false, false, false, false, false, false, false, false] rfl rfl (by kernel_rfl) (fun _ _ _ h => h) (Or.inl ⟨by rfl, ?_⟩) ?_ ?_
 rotate_left
 ·
  intro w'
  go_simp
  with_reducible rfl
 rotate_left
 ·
  simp only [Act.put, List.setIfInBounds_toArray, List.set_cons_zero, List.set_cons_succ, i64_w, i32_w]
  rfl
 refine pure_ (i := 3) (N := some 31) (v := ?_) (a' := ?_) #[true, true, true, true, false, false, false, false, false, false, false, false, false, false, false] rfl rfl (by kernel_rfl) (fun _ _ _ h => h) (Or.inl ⟨by rfl, ?_⟩) ?_ ?_
 rotate_left
 ·
  intro w'
  go_simp
  with_reducible rfl
 rotate_left
 ·
  simp only [Act.put, List.setIfInBounds_toArray, List.set_cons_zero, List.set_cons_succ, i64_w, i32_w]
  rfl
 refine pure_ (i := 5) (N := some 33) (v := ?_) (a' := ?_) #[true, true, true, true, false, true, false, false, false, false, false, false, false, false, false] rfl rfl (by kernel_rfl) (fun _ _ _ h => h) (Or.inl ⟨by rfl, ?_⟩) ?_ ?_
 rotate_left
 ·
  intro w'
  go_simp
  with_reducible rfl
 rotate_left
 ·
  simp only [Act.put, List.setIfInBounds_toArray, List.set_cons_zero, List.set_cons_succ, i64_w, i32_w]
  rfl
 refine pure_ (i := 6) (N := some 34) (v := ?_) (a' := ?_) #[true, true, true, true, false, true, true, false, false, false, false, false, false, false, false] rfl rfl (by kernel_rfl) (fun _ _ _ h => h) (Or.inl ⟨by rfl, ?_⟩) ?_ ?_
 rotate_left
 ·
  intro w'
  go_simp
  with_reducible rfl
 rotate_left
 ·
  simp only [Act.put, List.setIfInBounds_toArray, List.set_cons_zero, List.set_cons_succ, i64_w, i32_w]
  rfl
 refine pure_ (i := 7) (N := some 35) (v := ?_) (a' := ?_) #[true, true, true, true, false, true, true, true, false, false, false, false, false, false, false] rfl rfl (by kernel_rfl) (fun _ _ _ h => h) (Or.inl ⟨by rfl, ?_⟩) ?_ ?_
 rotate_left
 ·
  intro w'
  go_simp
  with_reducible rfl
 rotate_left
 ·
  simp only [Act.put, List.setIfInBounds_toArray, List.set_cons_zero, List.set_cons_succ, i64_w, i32_w]
  rfl
 refine take_ (i := 4) (N := some 32) (v := ?_) (a' := ?_) #[true, true, true, true, true, true, true, true, false, false, false, false, false, false, false] rfl rfl (by kernel_rfl) (fun _ _ _ h => h) (Or.inl ⟨by rfl, ?_⟩) hHeld ?_ ?_
 rotate_left
 ·
  rintro w' ⟨s0, s1⟩
  go_simp
  with_reducible rfl
 rotate_left
 ·
  simp only [Act.put, List.setIfInBounds_toArray, List.set_cons_zero, List.set_cons_succ, i64_w, i32_w]
  rfl
 refine take_ (i := 8) (N := some 36) (v := ?_) (a' := ?_) #[true, true, true, true, true, true, true, true, true, false, false, false, false, false, false] rfl rfl (by kernel_rfl) (fun _ _ _ h => h) (Or.inl ⟨by rfl, ?_⟩) hHeld ?_ ?_
 rotate_left
 ·
  rintro w' ⟨s0, s1⟩
  go_simp
  with_reducible rfl
 rotate_left
 ·
  simp only [Act.put, List.setIfInBounds_toArray, List.set_cons_zero, List.set_cons_succ, i64_w, i32_w]
  rfl
 refine pure_ (i := 9) (N := some 37) (v := ?_) (a' := ?_) #[true, true, true, true, true, true, true, true, true, true, false, false, false, false, false] rfl rfl (by kernel_rfl) (fun _ _ _ h => h) (Or.inl ⟨by rfl, ?_⟩) ?_ ?_
 rotate_left
 ·
  intro w'
  go_simp
  with_reducible rfl
 rotate_left
 ·
  simp only [Act.put, List.setIfInBounds_toArray, List.set_cons_zero, List.set_cons_succ, i64_w, i32_w]
  rfl
 refine one_ (i := 10) (N := some 38) #[true, true, true, true, true, true, true, true, true, true, true, false, false, false, false] rfl rfl (by kernel_rfl) (by decide) (fun K hK => ?_)
 refine value_ (w1 := ?_) (v := ?_) (by rfl) rfl ?_ ?_
 rotate_left 2
 ·
  go_simp
  constructor
  ·
   rfl
  ·
   rfl
 refine hK.out _ _ ⟨(World.cell?_alloc_lt _ _ _ (World.block_lt_of_cell? _ _ (hHeld.1))).trans (hHeld.1), (World.cell?_alloc_lt _ _ _ (World.block_lt_of_cell? _ _ (hHeld.2))).trans (hHeld.2)⟩ (fun hHeld => ?_)
 clear hK K
 refine norm_ (a' := ?_) ?_ ?_
 rotate_left
 ·
  show Act.put _ (some 38) _ = _
  simp only [Act.put, List.setIfInBounds_toArray, List.set_cons_zero, List.set_cons_succ, i64_w, i32_w]
  rfl
 refine one_ (i := 11) (N := some 39) #[true, true, true, true, true, true, true, true, true, true, true, true, false, false, false] rfl rfl (by kernel_rfl) (by decide) (fun K hK => ?_)
 refine Kd.R_append_step k70 (w0 := w2) (W := w2.drew) base (by rfl) (.tmp 32) (.tmp 38) 25 70 (.agg #[.int .i64 0, .int .i64 0, .string ⟨#[]⟩]) 32 (by rfl) Try.underlying25 info70' (by rfl) (by decide) (by omega) (.slice A1 (b.out.length + 1) k1) (b.out ++ [(⟨2, 0, strOfNums (bytesOf b.put)⟩ : S70)]) ⟨3, b.drop, ⟨#[]⟩⟩ [.int .i64 3, .int .i64 b.drop, .string ⟨#[]⟩] P (fun _ => False) (by rfl) (by rfl) (k70_mkM _ _ _ _) (fun _ h => h.elim) (fun k hk => hP k (Nat.le_trans HK2.out.size hk)) (Kd.R_drew HO2.out) ((Below.refl _ _).drew) (Nat.le_trans hbase HK2.out.size) (by first | omega | (simp; omega)) ?_
 intro v4 w4 ho4 hb4 hg4 hat4
 have HB4 := Aside0.mk (blk_grown (w := w2.drew) HB2.out hg4 (Kd.R_ne HO2.out HB2.out (by decide)))
 have HP4 := Aside0.mk (Kd.R_over (Kd.R_drew HP2.out) (Kd.R_drew HO2.out) ne5_70 hg4)
 have HO4 := Aside0.mk ho4
 have HK4 := Aside0.mk ((HK2.out.drew).grown hg4 (fun k e _ => HO2.out.1 k e))
 clear ho4 hb4 hat4
 have d4 : w4.cell? ⟨g, 0, none⟩ = some (.slice A1 (b.out.length + 1) k1) := (blk_cell HB4.out 0).trans rfl
 have e4 := blk_frozen HB4.out 0
 obtain ⟨A4, k4, hv4⟩ := Kd.R_slice HO4.out
 simp only [List.length_append, List.length_singleton] at hv4
 subst hv4
 refine hK.out _ _ ⟨d4, (blk_cell HB4.out 3).trans rfl⟩ (fun hHeld => ?_)
 clear hK K
 refine norm_ (a' := ?_) ?_ ?_
 rotate_left
 ·
  show Act.put _ (some 39) _ = _
  simp only [Act.put, List.setIfInBounds_toArray, List.set_cons_zero, List.set_cons_succ, i64_w, i32_w]
  rfl
 refine pure_ (i := 12) (N := some 40) (v := ?_) (a' := ?_) #[true, true, true, true, true, true, true, true, true, true, true, true, true, false, false] rfl rfl (by kernel_rfl) (fun _ _ _ h => h) (Or.inl ⟨by rfl, ?_⟩) ?_ ?_
 rotate_left
 ·
  intro w'
  go_simp
  with_reducible rfl
 rotate_left
 ·
  simp only [Act.put, List.setIfInBounds_toArray, List.set_cons_zero, List.set_cons_succ, i64_w, i32_w]
  rfl
 refine pure_ (i := 13) (N := some 41) (v := ?_) (a' := ?_) #[true, true, true, true, true, true, true, true, true, true, true, true, true, true, false] rfl rfl (by kernel_rfl) (fun _ _ _ h => h) (Or.inl ⟨by rfl, ?_⟩) ?_ ?_
 rotate_left
 ·
  intro w'
  go_simp
  with_reducible rfl
 rotate_left
 ·
  simp only [Act.put, List.setIfInBounds_toArray, List.set_cons_zero, List.set_cons_succ, i64_w, i32_w]
  rfl
 refine last_ (i := 14) (N := none) #[true, true, true, true, true, true, true, true, true, true, true, true, true, true, true] rfl rfl (by kernel_rfl) (by decide) (fun K hK => ?_)
 refine skip_ (w1 := ?_) (by rfl) rfl ?_ ?_
 rotate_left
 ·
  go_simp
  rfl
 refine hK.out _ _ ?_
 clear hK K
 refine done_ (by kernel_rfl) ?_
 have HB5 := Aside0.mk (blk_put HB4.out 0 (.slice A4 (b.out.length + 1 + 1) k4) rfl)
 have HP5 := Aside0.mk (Kd.R_set HP4.out HB4.out ne5_99 0 (.slice A4 (b.out.length + 1 + 1) k4))
 have HO5 := Aside0.mk (Kd.R_set HO4.out HB4.out ne70_99 0 (.slice A4 (b.out.length + 1 + 1) k4))
 have HK5 := Aside0.mk (HK4.out.setCell (p := ⟨g, 0, none⟩) HG.out (.slice A4 (b.out.length + 1 + 1) k4))
 clear d4 e4 c0 c2 c3 f0 f2 f3 hg4
 generalize w4.setCell ⟨g, 0, none⟩ _ = w5 at HB5 HP5 HO5 HK5 ⊢
 clear HB4 HP4 HO4 HK4
 have c2 : w5.cell? ⟨g, 2, none⟩ = some (.slice Ap (bytesOf b.put).length cp) := (blk_cell HB5.out 2).trans rfl
 have c3 : w5.cell? ⟨g, 3, none⟩ = some (.int .i64 b.drop) := (blk_cell HB5.out 3).trans rfl
 have f2 := blk_frozen HB5.out 2
 have f3 := blk_frozen HB5.out 3
 go_wp2
 have hfl : b.flush.out = (b.out ++ [(⟨2, 0, strOfNums (bytesOf b.put)⟩ : S70)] ++ [(⟨3, b.drop, ⟨#[]⟩⟩ : S70)]) := by simp [Bs.flush, H1.out, H2.out, str_bytes, noText]
 go_end0
 refine ⟨rfl, ⟨HG.out, _, _, blk_put (blk_put HB5.out 2 (.slice Ap 0 cp) rfl) 3 (.int .i64 0) rfl, ?_, ?_⟩, (HK5.out.setCell (p := ⟨g, 2, none⟩) HG.out _).setCell (p := ⟨g, 3, none⟩) HG.out _⟩
 ·
  rw [hfl]
  exact Kd.R_set (Kd.R_set HO5.out HB5.out ne70_99 2 _) (blk_put HB5.out 2 (.slice Ap 0 cp) rfl) ne70_99 3 _
 ·
  exact Kd.R_take (m := 0) (Kd.R_set (Kd.R_set HP5.out HB5.out ne5_99 2 _) (blk_put HB5.out 2 (.slice Ap 0 cp) rfl) ne5_99 3 _) (Nat.zero_le _)
set_option maxHeartbeats 4000000 in
set_option maxRecDepth 100000 in
theorem flush_tf (w : World) (base g : Nat) (P : Nat → Prop) (b : Bs) (hb : IsB w base P g b) (hbase : base ≤ w.heap.size) (hP : ∀ k, w.heap.size ≤ k → P k) (hl : b.out.length ≤ 4000000000000)
  (h1 : 0 < b.put.size) (h2 : ¬ 0 < b.drop) :
  Calls Try.prog 97 #[.pointer (some ⟨g, 0, none⟩)] w fun e w' => e = .returned (.tuple #[]) ∧ IsB w' base P g b.flush ∧ Kp P w w' := by
 obtain ⟨hg, vo, vp, hblk, ho, hp⟩ := hb
 obtain ⟨Ap, cp, rfl, hpc, hpC⟩ := Kd.R_reads hp
 obtain ⟨Ao, co, hvo, hoc, hoC⟩ := Kd.R_reads ho
 subst hvo
 obtain ⟨vo, hvo⟩ : ∃ v, v = Value.slice Ao b.out.length co := ⟨_, rfl⟩
 rw [← hvo] at hblk ho
 have HVO := Aside0.mk hvo
 clear hvo hoc hoC
 have hlen : (bytesOf b.put).length = b.put.size := bytesOf_length _
 have h1b : decide (0 < (bytesOf b.put).length) = true := by rw [hlen]; simpa using h1
 have h1i : decide (0 < ((bytesOf b.put).length : Int)) = true := by rw [hlen]; simpa using h1
 have h2b : decide (0 < b.drop) = false := by simpa using h2
 have HL := Aside0.mk hlen
 have H1 := Aside0.mk h1
 have H2 := Aside0.mk h2
 clear hlen h1 h2
 have HBLK := Aside0.mk hblk
 have HO := Aside0.mk ho
 have HP := Aside0.mk hp
 have HNE := Aside0.mk (Kd.R_ne ho hblk (by decide))
 have HOK := Aside0.mk ho.1
 have HG := Aside0.mk hg
 have HPC := Aside0.mk hpc
 clear hblk ho hp hpC hpc hg
 have c0 : w.cell? ⟨g, 0, none⟩ = some vo := (blk_cell HBLK.out 0).trans rfl
 have c2 : w.cell? ⟨g, 2, none⟩ = some (.slice Ap (bytesOf b.put).length cp) := (blk_cell HBLK.out 2).trans rfl
 have c3 : w.cell? ⟨g, 3, none⟩ = some (.int .i64 b.drop) := (blk_cell HBLK.out 3).trans rfl
 have f0 := blk_frozen HBLK.out 0
 have f2 := blk_frozen HBLK.out 2
 have f3 := blk_frozen HBLK.out 3
 obtain ⟨i0, hi0, hz0, hz1, hz2⟩ := info_parts info5
 have hct := cut_to (P := Try.prog) 23 5 .i64 Try.underlying23 hi0 Ap (bytesOf b.put).length cp 0 (Int.le_refl 0) (by omega) HPC.out
 clear hi0 hz0 hz1 hz2
 go_enter Try.func97, Try.ntmps97
 go_wp2
 refine start_ (n := 16) (S := fun w' => w'.cell? ⟨g, 0, none⟩ = some vo ∧ w'.cell? ⟨g, 2, none⟩ = some (.slice Ap (bytesOf b.put).length cp) ∧ (convert 23 9 (.slice Ap (bytesOf b.put).length cp)).run Try.prog w' = .ok (.string (strOfNums (bytesOf b.put))) w') (ds := [15]) #[false, false, false, false, false, false, false, false, false, false, false, false, false, false, false, false] (by kernel_rfl) rfl rfl ⟨c0, c2, conv_at (Kd.R_drew HP.out)⟩ (fun hHeld => ?_)
 refine pure_ (i := 0) (N := some 8) (v := ?_) (a' := ?_) #[true, false, false, false, false, false, false, false, false, false, false, false, false, false, false, false] rfl rfl (by kernel_rfl) (fun _ _ _ h => h) (Or.inl ⟨by rfl, ?_⟩) ?_ ?_
 rotate_left
 ·
  intro w'
  go_simp
  with_reducible rfl
 rotate_left
 ·
  simp only [Act.put, List.setIfInBounds_toArray, List.set_cons_zero, List.set_cons_succ, i64_w, i32_w]
  rfl
 refine pure_ (i := 1) (N := some 9) (v := ?_) (a' := ?_) #[true, true, false, false, false, false, false, false, false, false, false, false, false, false, false, false] rfl rfl (by kernel_rfl) (fun _ _ _ h => h) (Or.inl ⟨by rfl, ?_⟩) ?_ ?_
 rotate_left
 ·
  intro w'
  go_simp
  with_reducible rfl
 rotate_left
 ·
  simp only [Act.put, List.setIfInBounds_toArray, List.set_cons_zero, List.set_cons_succ, i64_w, i32_w]
  rfl
 refine pure_ (i := 2) (N := some 10) (v := ?_) (a' := ?_) #[true, true, true, false, false, false, false, false, false, false, false, false, false, false, false, false] rfl rfl (by kernel_rfl) (fun _ _ _ h => h) (Or.inl ⟨by rfl, ?_⟩) ?_ ?_
 rotate_left
 ·
  intro w'
  go_simp
  with_reducible rfl
 rotate_left
 ·
  simp only [Act.put, List.setIfInBounds_toArray, List.set_cons_zero, List.set_cons_succ, i64_w, i32_w]
  rfl
 refine pure_ (i := 3) (N := some 11) (v := ?_) (a' := ?_) #[true, true, true, true, false, false, false, false, false, false, false, false, false, false, false, false] rfl rfl (by kernel_rfl) (fun _ _ _ h => h) (Or.inl ⟨by rfl, ?_⟩) ?_ ?_
 rotate_left
 ·
  intro w'
  go_simp
  with_reducible rfl
 rotate_left
 ·
  simp only [Act.put, List.setIfInBounds_toArray, List.set_cons_zero, List.set_cons_succ, i64_w, i32_w]
  rfl
 refine pure_ (i := 5) (N := some 13) (v := ?_) (a' := ?_) #[true, true, true, true, false, true, false, false, false, false, false, false, false, false, false, false] rfl rfl (by kernel_rfl) (fun _ _ _ h => h) (Or.inl ⟨by rfl, ?_⟩) ?_ ?_
 rotate_left
 ·
  intro w'
  go_simp
  with_reducible rfl
 rotate_left
 ·
  simp only [Act.put, List.setIfInBounds_toArray, List.set_cons_zero, List.set_cons_succ, i64_w, i32_w]
  rfl
 refine pure_ (i := 6) (N := some 14) (v := ?_) (a' := ?_) #[true, true, true, true, false, true, true, false, false, false, false, false, false, false, false, false] rfl rfl (by kernel_rfl) (fun _ _ _ h => h) (Or.inl ⟨by rfl, ?_⟩) ?_ ?_
 rotate_left
 ·
  intro w'
  go_simp
  with_reducible rfl
 rotate_left
 ·
  simp only [Act.put, List.setIfInBounds_toArray, List.set_cons_zero, List.set_cons_succ, i64_w, i32_w]
  rfl
 refine pure_ (i := 7) (N := some 15) (v := ?_) (a' := ?_) #[true, true, true, true, false, true, true, true, false, false, false, false, false, false, false, false] rfl rfl (by kernel_rfl) (fun _ _ _ h => h) (Or.inl ⟨by rfl, ?_⟩) ?_ ?_
 rotate_left
 ·
  intro w'
  go_simp
  with_reducible rfl
 rotate_left
 ·
  simp only [Act.put, List.setIfInBounds_toArray, List.set_cons_zero, List.set_cons_succ, i64_w, i32_w]
  rfl
 refine take_ (i := 4) (N := some 12) (v := ?_) (a' := ?_) #[true, true, true, true, true, true, true, true, false, false, false, false, false, false, false, false] rfl rfl (by kernel_rfl) (fun _ _ _ h => h) (Or.inl ⟨by rfl, ?_⟩) hHeld ?_ ?_
 rotate_left
 ·
  rintro w' ⟨s0, s1, s2⟩
  go_simp
  with_reducible rfl
 rotate_left
 ·
  simp only [Act.put, List.setIfInBounds_toArray, List.set_cons_zero, List.set_cons_succ, i64_w, i32_w]
  rfl
 refine take_ (i := 8) (N := some 16) (v := ?_) (a' := ?_) #[true, true, true, true, true, true, true, true, true, false, false, false, false, false, false, false] rfl rfl (by kernel_rfl) (fun _ _ _ h => h) (Or.inl ⟨by rfl, ?_⟩) hHeld ?_ ?_
 rotate_left
 ·
  rintro w' ⟨s0, s1, s2⟩
  go_simp
  with_reducible rfl
 rotate_left
 ·
  simp only [Act.put, List.setIfInBounds_toArray, List.set_cons_zero, List.set_cons_succ, i64_w, i32_w]
  rfl
 refine take_ (i := 9) (N := some 17) (v := ?_) (a' := ?_) #[true, true, true, true, true, true, true, true, true, true, false, false, false, false, false, false] rfl rfl (by kernel_rfl) (fun _ _ _ h => h) (Or.inl ⟨by rfl, ?_⟩) hHeld ?_ ?_
 rotate_left
 ·
  rintro w' ⟨s0, s1, s2⟩
  go_simp
  with_reducible rfl
 rotate_left
 ·
  simp only [Act.put, List.setIfInBounds_toArray, List.set_cons_zero, List.set_cons_succ, i64_w, i32_w]
  rfl
 refine pure_ (i := 10) (N := some 18) (v := ?_) (a' := ?_) #[true, true, true, true, true, true, true, true, true, true, true, false, false, false, false, false] rfl rfl (by kernel_rfl) (fun _ _ _ h => h) (Or.inl ⟨by rfl, ?_⟩) ?_ ?_
 rotate_left
 ·
  intro w'
  go_simp
  with_reducible rfl
 rotate_left
 ·
  simp only [Act.put, List.setIfInBounds_toArray, List.set_cons_zero, List.set_cons_succ, i64_w, i32_w]
  rfl
 refine one_ (i := 11) (N := some 19) #[true, true, true, true, true, true, true, true, true, true, true, true, false, false, false, false] rfl rfl (by kernel_rfl) (by decide) (fun K hK => ?_)
 refine value_ (w1 := ?_) (v := ?_) (by rfl) rfl ?_ ?_
 rotate_left 2
 ·
  go_simp
  constructor
  ·
   rfl
  ·
   rfl
 refine hK.out _ _ ⟨(World.cell?_alloc_lt _ _ _ (World.block_lt_of_cell? _ _ (hHeld.1))).trans (hHeld.1), (World.cell?_alloc_lt _ _ _ (World.block_lt_of_cell? _ _ (hHeld.2.1))).trans (hHeld.2.1), conv_at (Kd.R_alloc (Kd.R_drew HP.out) _)⟩ (fun hHeld => ?_)
 clear hK K
 refine norm_ (a' := ?_) ?_ ?_
 rotate_left
 ·
  show Act.put _ (some 19) _ = _
  simp only [Act.put, List.setIfInBounds_toArray, List.set_cons_zero, List.set_cons_succ, i64_w, i32_w]
  rfl
 refine one_ (i := 12) (N := some 20) #[true, true, true, true, true, true, true, true, true, true, true, true, true, false, false, false] rfl rfl (by kernel_rfl) (by decide) (fun K hK => ?_)
 refine Kd.R_append_step k70 (w0 := w) (W := w.drew) base (by rfl) (.tmp 12) (.tmp 19) 25 70 (.agg #[.int .i64 0, .int .i64 0, .string ⟨#[]⟩]) 32 (by rfl) Try.underlying25 info70' (by rfl) (by decide) (by omega) vo b.out ⟨2, 0, strOfNums (bytesOf b.put)⟩ [.int .i64 2, .int .i64 0, .string (strOfNums (bytesOf b.put))] P (fun _ => False) (by rfl) (by rfl) (k70_mkM _ _ _ _) (fun _ h => h.elim) hP (Kd.R_drew HO.out) ((Below.refl _ _).drew) hbase (by omega) ?_
 intro v1 w1 ho1 hb1 hg1 hat1
 have HB1 := Aside0.mk (blk_grown (w := w.drew) HBLK.out hg1 HNE.out)
 have HP1 := Aside0.mk (Kd.R_over (Kd.R_drew HP.out) (Kd.R_drew HO.out) ne5_70 hg1)
 have HO1 := Aside0.mk ho1
 have HK1 := Aside0.mk (((Kp.refl P w).drew).grown hg1 (fun k e _ => HOK.out k e))
 clear ho1 hb1 hat1
 have d0 : w1.cell? ⟨g, 0, none⟩ = some vo := (blk_cell HB1.out 0).trans rfl
 have e0 := blk_frozen HB1.out 0
 obtain ⟨A1, k1, hv1⟩ := Kd.R_slice HO1.out
 rw [List.length_append, List.length_singleton] at hv1
 subst hv1
 refine hK.out _ _ ⟨d0, (blk_cell HB1.out 2).trans rfl, conv_at HP1.out⟩ (fun hHeld => ?_)
 clear hK K
 refine norm_ (a' := ?_) ?_ ?_
 rotate_left
 ·
  show Act.put _ (some 20) _ = _
  simp only [Act.put, List.setIfInBounds_toArray, List.set_cons_zero, List.set_cons_succ, i64_w, i32_w]
  rfl
 refine pure_ (i := 13) (N := some 21) (v := ?_) (a' := ?_) #[true, true, true, true, true, true, true, true, true, true, true, true, true, true, false, false] rfl rfl (by kernel_rfl) (fun _ _ _ h => h) (Or.inl ⟨by rfl, ?_⟩) ?_ ?_
 rotate_left
 ·
  intro w'
  go_simp
  with_reducible rfl
 rotate_left
 ·
  simp only [Act.put, List.setIfInBounds_toArray, List.set_cons_zero, List.set_cons_succ, i64_w, i32_w]
  rfl
 refine pure_ (i := 14) (N := some 22) (v := ?_) (a' := ?_) #[true, true, true, true, true, true, true, true, true, true, true, true, true, true, true, false] rfl rfl (by kernel_rfl) (fun _ _ _ h => h) (Or.inl ⟨by rfl, ?_⟩) ?_ ?_
 rotate_left
 ·
  intro w'
  go_simp
  with_reducible rfl
 rotate_left
 ·
  simp only [Act.put, List.setIfInBounds_toArray, List.set_cons_zero, List.set_cons_succ, i64_w, i32_w]
  rfl
 refine last_ (i := 15) (N := none) #[true, true, true, true, true, true, true, true, true, true, true, true, true, true, true, true] rfl rfl (by kernel_rfl) (by decide) (fun K hK => ?_)
 refine skip_ (w1 := ?_) (by rfl) rfl ?_ ?_
 rotate_left
 ·
  go_simp
  rfl
 refine hK.out _ _ ?_
 clear hK K
 refine done_ (by kernel_rfl) ?_
 have HB2 := Aside0.mk (blk_put HB1.out 0 (.slice A1 (b.out.length + 1) k1) rfl)
 have HP2 := Aside0.mk (Kd.R_set HP1.out HB1.out ne5_99 0 (.slice A1 (b.out.length + 1) k1))
 have HO2 := Aside0.mk (Kd.R_set HO1.out HB1.out ne70_99 0 (.slice A1 (b.out.length + 1) k1))
 have HK2 := Aside0.mk (HK1.out.setCell (p := ⟨g, 0, none⟩) HG.out (.slice A1 (b.out.length + 1) k1))
 clear d0 e0 c0 c2 c3 f0 f2 f3 hg1
 generalize w1.setCell ⟨g, 0, none⟩ _ = w2 at HB2 HP2 HO2 HK2 ⊢
 clear HB1 HP1 HO1 HK1
 have c3 : w2.cell? ⟨g, 3, none⟩ = some (.int .i64 b.drop) := (blk_cell HB2.out 3).trans rfl
 have c0 : w2.cell? ⟨g, 0, none⟩ = some (.slice A1 (b.out.length + 1) k1) := (blk_cell HB2.out 0).trans rfl
 have c2 : w2.cell? ⟨g, 2, none⟩ = some (.slice Ap (bytesOf b.put).length cp) := (blk_cell HB2.out 2).trans rfl
 have f0 := blk_frozen HB2.out 0
 have f2 := blk_frozen HB2.out 2
 have f3 := blk_frozen HB2.out 3
 go_wp2
 have hfl : b.flush.out = (b.out ++ [(⟨2, 0, strOfNums (bytesOf b.put)⟩ : S70)]) := by simp [Bs.flush, H1.out, H2.out, str_bytes, noText]
 go_end0
 refine ⟨rfl, ⟨HG.out, _, _, blk_put (blk_put HB2.out 2 (.slice Ap 0 cp) rfl) 3 (.int .i64 0) rfl, ?_, ?_⟩, (HK2.out.setCell (p := ⟨g, 2, none⟩) HG.out _).setCell (p := ⟨g, 3, none⟩) HG.out _⟩
 ·
  rw [hfl]
  exact Kd.R_set (Kd.R_set HO2.out HB2.out ne70_99 2 _) (blk_put HB2.out 2 (.slice Ap 0 cp) rfl) ne70_99 3 _
 ·
  exact Kd.R_take (m := 0) (Kd.R_set (Kd.R_set HP2.out HB2.out ne5_99 2 _) (blk_put HB2.out 2 (.slice Ap 0 cp) rfl) ne5_99 3 _) (Nat.zero_le _)
set_option maxHeartbeats 4000000 in
set_option maxRecDepth 100000 in
theorem flush_ft (w : World) (base g : Nat) (P : Nat → Prop) (b : Bs) (hb : IsB w base P g b) (hbase : base ≤ w.heap.size) (hP : ∀ k, w.heap.size ≤ k → P k) (hl : b.out.length ≤ 4000000000000)
  (h1 : ¬ 0 < b.put.size) (h2 : 0 < b.drop) :
  Calls Try.prog 97 #[.pointer (some ⟨g, 0, none⟩)] w fun e w' => e = .returned (.tuple #[]) ∧ IsB w' base P g b.flush ∧ Kp P w w' := by
 obtain ⟨hg, vo, vp, hblk, ho, hp⟩ := hb
 obtain ⟨Ap, cp, rfl, hpc, hpC⟩ := Kd.R_reads hp
 obtain ⟨Ao, co, hvo, hoc, hoC⟩ := Kd.R_reads ho
 subst hvo
 obtain ⟨vo, hvo⟩ : ∃ v, v = Value.slice Ao b.out.length co := ⟨_, rfl⟩
 rw [← hvo] at hblk ho
 have HVO := Aside0.mk hvo
 clear hvo hoc hoC
 have hlen : (bytesOf b.put).length = b.put.size := bytesOf_length _
 have h1b : decide (0 < (bytesOf b.put).length) = false := by rw [hlen]; simpa using h1
 have h1i : decide (0 < ((bytesOf b.put).length : Int)) = false := by rw [hlen]; simpa using h1
 have h2b : decide (0 < b.drop) = true := by simpa using h2
 have HL := Aside0.mk hlen
 have H1 := Aside0.mk h1
 have H2 := Aside0.mk h2
 clear hlen h1 h2
 have HBLK := Aside0.mk hblk
 have HO := Aside0.mk ho
 have HP := Aside0.mk hp
 have HNE := Aside0.mk (Kd.R_ne ho hblk (by decide))
 have HOK := Aside0.mk ho.1
 have HG := Aside0.mk hg
 have HPC := Aside0.mk hpc
 clear hblk ho hp hpC hpc hg
 have c0 : w.cell? ⟨g, 0, none⟩ = some vo := (blk_cell HBLK.out 0).trans rfl
 have c2 : w.cell? ⟨g, 2, none⟩ = some (.slice Ap (bytesOf b.put).length cp) := (blk_cell HBLK.out 2).trans rfl
 have c3 : w.cell? ⟨g, 3, none⟩ = some (.int .i64 b.drop) := (blk_cell HBLK.out 3).trans rfl
 have f0 := blk_frozen HBLK.out 0
 have f2 := blk_frozen HBLK.out 2
 have f3 := blk_frozen HBLK.out 3
 obtain ⟨i0, hi0, hz0, hz1, hz2⟩ := info_parts info5
 have hct := cut_to (P := Try.prog) 23 5 .i64 Try.underlying23 hi0 Ap (bytesOf b.put).length cp 0 (Int.le_refl 0) (by omega) HPC.out
 clear hi0 hz0 hz1 hz2
 go_enter Try.func97, Try.ntmps97
 go_wp2
 have HK0 := Aside0.mk (Kp.refl P w)
 refine start_ (n := 15) (S := fun w' => w'.cell? ⟨g, 0, none⟩ = some (vo) ∧ w'.cell? ⟨g, 3, none⟩ = some (.int .i64 b.drop)) (ds := [14]) #[false, false, false, false, false, false, false, false, false, false, false, false, false, false, false] (by kernel_rfl) rfl rfl ⟨(blk_cell HBLK.out 0).trans rfl, (blk_cell HBLK.out 3).trans rfl⟩ (fun hHeld => ?_)
 refine pure_ (i := 0) (N := some 28) (v := ?_) (a' := ?_) #[true, false, false, false, false, false, false, false, false, false, false, false, false, false, false] rfl rfl (by kernel_rfl) (fun _ _ _ h => h) (Or.inl ⟨by rfl, ?_⟩) ?_ ?_
 rotate_left
 ·
  intro w'
  go_simp
  with_reducible rfl
 rotate_left
 ·
  simp only [Act.put, List.setIfInBounds_toArray, List.set_cons_zero, List.set_cons_succ, i64_w, i32_w]
  rfl
 refine pure_ (i := 1) (N := some 29) (v := ?_) (a' := ?_) #[true, true, false, false, false, false, false, false, false, false, false, false, false, false, false] rfl rfl (by kernel_rfl) (fun _ _ _ h => h) (Or.inl ⟨by rfl, ?_⟩) ?_ ?_
 rotate_left
 ·
  intro w'
  go_simp
  with_reducible rfl
 rotate_left
 ·
  simp only [Act.put, List.setIfInBounds_toArray, List.set_cons_zero, List.set_cons_succ, i64_w, i32_w]
  rfl
 refine pure_ (i := 2) (N := some 30) (v := ?_) (a' := ?_) #[true, true, true, false, false, false, false, false, false, false, false, false, false, false, false] rfl rfl (by kernel_rfl) (fun _ _ _ h => h) (Or.inl ⟨by rfl, ?_⟩) ?_ ?_
 rotate_left
 ·
  intro w'
  go_simp
  with_reducible rfl
 rotate_left
 ·
  simp only [Act.put, List.setIfInBounds_toArray, List.set_cons_zero, List.set_cons_succ, i64_w, i32_w]
  rfl
 refine pure_ (i := 3) (N := some 31) (v := ?_) (a' := ?_) #[true, true, true, true, false, false, false, false, false, false, false, false, false, false, false] rfl rfl (by kernel_rfl) (fun _ _ _ h => h) (Or.inl ⟨by rfl, ?_⟩) ?_ ?_
 rotate_left
 ·
  intro w'
  go_simp
  with_reducible rfl
 rotate_left
 ·
  simp only [Act.put, List.setIfInBounds_toArray, List.set_cons_zero, List.set_cons_succ, i64_w, i32_w]
  rfl
 refine pure_ (i := 5) (N := some 33) (v := ?_) (a' := ?_) #[true, true, true, true, false, true, false, false, false, false, false, false, false, false, false] rfl rfl (by kernel_rfl) (fun _ _ _ h => h) (Or.inl ⟨by rfl, ?_⟩) ?_ ?_
 rotate_left
 ·
  intro w'
  go_simp
  with_reducible rfl
 rotate_left
 ·
  simp only [Act.put, List.setIfInBounds_toArray, List.set_cons_zero, List.set_cons_succ, i64_w, i32_w]
  rfl
 refine pure_ (i := 6) (N := some 34) (v := ?_) (a' := ?_) #[true, true, true, true, false, true, true, false, false, false, false, false, false, false, false] rfl rfl (by kernel_rfl) (fun _ _ _ h => h) (Or.inl ⟨by rfl, ?_⟩) ?_ ?_
 rotate_left
 ·
  intro w'
  go_simp
  with_reducible rfl
 rotate_left
 ·
  simp only [Act.put, List.setIfInBounds_toArray, List.set_cons_zero, List.set_cons_succ, i64_w, i32_w]
  rfl
 refine pure_ (i := 7) (N := some 35) (v := ?_) (a' := ?_) #[true, true, true, true, false, true, true, true, false, false, false, false, false, false, false] rfl rfl (by kernel_rfl) (fun _ _ _ h => h) (Or.inl ⟨by rfl, ?_⟩) ?_ ?_
 rotate_left
 ·
  intro w'
  go_simp
  with_reducible rfl
 rotate_left
 ·
  simp only [Act.put, List.setIfInBounds_toArray, List.set_cons_zero, List.set_cons_succ, i64_w, i32_w]
  rfl
 refine take_ (i := 4) (N := some 32) (v := ?_) (a' := ?_) #[true, true, true, true, true, true, true, true, false, false, false, false, false, false, false] rfl rfl (by kernel_rfl) (fun _ _ _ h => h) (Or.inl ⟨by rfl, ?_⟩) hHeld ?_ ?_
 rotate_left
 ·
  rintro w' ⟨s0, s1⟩
  go_simp
  with_reducible rfl
 rotate_left
 ·
  simp only [Act.put, List.setIfInBounds_toArray, List.set_cons_zero, List.set_cons_succ, i64_w, i32_w]
  rfl
 refine take_ (i := 8) (N := some 36) (v := ?_) (a' := ?_) #[true, true, true, true, true, true, true, true, true, false, false, false, false, false, false] rfl rfl (by kernel_rfl) (fun _ _ _ h => h) (Or.inl ⟨by rfl, ?_⟩) hHeld ?_ ?_
 rotate_left
 ·
  rintro w' ⟨s0, s1⟩
  go_simp
  with_reducible rfl
 rotate_left
 ·
  simp only [Act.put, List.setIfInBounds_toArray, List.set_cons_zero, List.set_cons_succ, i64_w, i32_w]
  rfl
 refine pure_ (i := 9) (N := some 37) (v := ?_) (a' := ?_) #[true, true, true, true, true, true, true, true, true, true, false, false, false, false, false] rfl rfl (by kernel_rfl) (fun _ _ _ h => h) (Or.inl ⟨by rfl, ?_⟩) ?_ ?_
 rotate_left
 ·
  intro w'
  go_simp
  with_reducible rfl
 rotate_left
 ·
  simp only [Act.put, List.setIfInBounds_toArray, List.set_cons_zero, List.set_cons_succ, i64_w, i32_w]
  rfl
 refine one_ (i := 10) (N := some 38) #[true, true, true, true, true, true, true, true, true, true, true, false, false, false, false] rfl rfl (by kernel_rfl) (by decide) (fun K hK => ?_)
 refine value_ (w1 := ?_) (v := ?_) (by rfl) rfl ?_ ?_
 rotate_left 2
 ·
  go_simp
  constructor
  ·
   rfl
  ·
   rfl
 refine hK.out _ _ ⟨(World.cell?_alloc_lt _ _ _ (World.block_lt_of_cell? _ _ (hHeld.1))).trans (hHeld.1), (World.cell?_alloc_lt _ _ _ (World.block_lt_of_cell? _ _ (hHeld.2))).trans (hHeld.2)⟩ (fun hHeld => ?_)
 clear hK K
 refine norm_ (a' := ?_) ?_ ?_
 rotate_left
 ·
  show Act.put _ (some 38) _ = _
  simp only [Act.put, List.setIfInBounds_toArray, List.set_cons_zero, List.set_cons_succ, i64_w, i32_w]
  rfl
 refine one_ (i := 11) (N := some 39) #[true, true, true, true, true, true, true, true, true, true, true, true, false, false, false] rfl rfl (by kernel_rfl) (by decide) (fun K hK => ?_)
 refine Kd.R_append_step k70 (w0 := w) (W := w.drew) base (by rfl) (.tmp 32) (.tmp 38) 25 70 (.agg #[.int .i64 0, .int .i64 0, .string ⟨#[]⟩]) 32 (by rfl) Try.underlying25 info70' (by rfl) (by decide) (by omega) (vo) (b.out) ⟨3, b.drop, ⟨#[]⟩⟩ [.int .i64 3, .int .i64 b.drop, .string ⟨#[]⟩] P (fun _ => False) (by rfl) (by rfl) (k70_mkM _ _ _ _) (fun _ h => h.elim) (fun k hk => hP k (Nat.le_trans HK0.out.size hk)) (Kd.R_drew HO.out) ((Below.refl _ _).drew) (Nat.le_trans hbase HK0.out.size) (by first | omega | (simp; omega)) ?_
 intro v4 w4 ho4 hb4 hg4 hat4
 have HB4 := Aside0.mk (blk_grown (w := w.drew) HBLK.out hg4 (Kd.R_ne HO.out HBLK.out (by decide)))
 have HP4 := Aside0.mk (Kd.R_over (Kd.R_drew HP.out) (Kd.R_drew HO.out) ne5_70 hg4)
 have HO4 := Aside0.mk ho4
 have HK4 := Aside0.mk ((HK0.out.drew).grown hg4 (fun k e _ => HO.out.1 k e))
 clear ho4 hb4 hat4
 have d4 : w4.cell? ⟨g, 0, none⟩ = some (vo) := (blk_cell HB4.out 0).trans rfl
 have e4 := blk_frozen HB4.out 0
 obtain ⟨A4, k4, hv4⟩ := Kd.R_slice HO4.out
 simp only [List.length_append, List.length_singleton] at hv4
 subst hv4
 refine hK.out _ _ ⟨d4, (blk_cell HB4.out 3).trans rfl⟩ (fun hHeld => ?_)
 clear hK K
 refine norm_ (a' := ?_) ?_ ?_
 rotate_left
 ·
  show Act.put _ (some 39) _ = _
  simp only [Act.put, List.setIfInBounds_toArray, List.set_cons_zero, List.set_cons_succ, i64_w, i32_w]
  rfl
 refine pure_ (i := 12) (N := some 40) (v := ?_) (a' := ?_) #[true, true, true, true, true, true, true, true, true, true, true, true, true, false, false] rfl rfl (by kernel_rfl) (fun _ _ _ h => h) (Or.inl ⟨by rfl, ?_⟩) ?_ ?_
 rotate_left
 ·
  intro w'
  go_simp
  with_reducible rfl
 rotate_left
 ·
  simp only [Act.put, List.setIfInBounds_toArray, List.set_cons_zero, List.set_cons_succ, i64_w, i32_w]
  rfl
 refine pure_ (i := 13) (N := some 41) (v := ?_) (a' := ?_) #[true, true, true, true, true, true, true, true, true, true, true, true, true, true, false] rfl rfl (by kernel_rfl) (fun _ _ _ h => h) (Or.inl ⟨by rfl, ?_⟩) ?_ ?_
 rotate_left
 ·
  intro w'
  go_simp
  with_reducible rfl
 rotate_left
 ·
  simp only [Act.put, List.setIfInBounds_toArray, List.set_cons_zero, List.set_cons_succ, i64_w, i32_w]
  rfl
 refine last_ (i := 14) (N := none) #[true, true, true, true, true, true, true, true, true, true, true, true, true, true, true] rfl rfl (by kernel_rfl) (by decide) (fun K hK => ?_)
 refine skip_ (w1 := ?_) (by rfl) rfl ?_ ?_
 rotate_left
 ·
  go_simp
  rfl
 refine hK.out _ _ ?_
 clear hK K
 refine done_ (by kernel_rfl) ?_
 have HB5 := Aside0.mk (blk_put HB4.out 0 (.slice A4 (b.out.length + 1) k4) rfl)
 have HP5 := Aside0.mk (Kd.R_set HP4.out HB4.out ne5_99 0 (.slice A4 (b.out.length + 1) k4))
 have HO5 := Aside0.mk (Kd.R_set HO4.out HB4.out ne70_99 0 (.slice A4 (b.out.length + 1) k4))
 have HK5 := Aside0.mk (HK4.out.setCell (p := ⟨g, 0, none⟩) HG.out (.slice A4 (b.out.length + 1) k4))
 clear d4 e4 c0 c2 c3 f0 f2 f3 hg4
 generalize w4.setCell ⟨g, 0, none⟩ _ = w5 at HB5 HP5 HO5 HK5 ⊢
 clear HB4 HP4 HO4 HK4
 have c2 : w5.cell? ⟨g, 2, none⟩ = some (.slice Ap (bytesOf b.put).length cp) := (blk_cell HB5.out 2).trans rfl
 have c3 : w5.cell? ⟨g, 3, none⟩ = some (.int .i64 b.drop) := (blk_cell HB5.out 3).trans rfl
 have f2 := blk_frozen HB5.out 2
 have f3 := blk_frozen HB5.out 3
 go_wp2
 have hfl : b.flush.out = (b.out ++ [(⟨3, b.drop, ⟨#[]⟩⟩ : S70)]) := by simp [Bs.flush, H1.out, H2.out, str_bytes, noText]
 go_end0
 refine ⟨rfl, ⟨HG.out, _, _, blk_put (blk_put HB5.out 2 (.slice Ap 0 cp) rfl) 3 (.int .i64 0) rfl, ?_, ?_⟩, (HK5.out.setCell (p := ⟨g, 2, none⟩) HG.out _).setCell (p := ⟨g, 3, none⟩) HG.out _⟩
 ·
  rw [hfl]
  exact Kd.R_set (Kd.R_set HO5.out HB5.out ne70_99 2 _) (blk_put HB5.out 2 (.slice Ap 0 cp) rfl) ne70_99 3 _
 ·
  exact Kd.R_take (m := 0) (Kd.R_set (Kd.R_set HP5.out HB5.out ne5_99 2 _) (blk_put HB5.out 2 (.slice Ap 0 cp) rfl) ne5_99 3 _) (Nat.zero_le _)
set_option maxHeartbeats 4000000 in
set_option maxRecDepth 100000 in
theorem flush_ff (w : World) (base g : Nat) (P : Nat → Prop) (b : Bs) (hb : IsB w base P g b) (hbase : base ≤ w.heap.size) (hP : ∀ k, w.heap.size ≤ k → P k) (hl : b.out.length ≤ 4000000000000)
  (h1 : ¬ 0 < b.put.size) (h2 : ¬ 0 < b.drop) :
  Calls Try.prog 97 #[.pointer (some ⟨g, 0, none⟩)] w fun e w' => e = .returned (.tuple #[]) ∧ IsB w' base P g b.flush ∧ Kp P w w' := by
 obtain ⟨hg, vo, vp, hblk, ho, hp⟩ := hb
 obtain ⟨Ap, cp, rfl, hpc, hpC⟩ := Kd.R_reads hp
 obtain ⟨Ao, co, hvo, hoc, hoC⟩ := Kd.R_reads ho
 subst hvo
 obtain ⟨vo, hvo⟩ : ∃ v, v = Value.slice Ao b.out.length co := ⟨_, rfl⟩
 rw [← hvo] at hblk ho
 have HVO := Aside0.mk hvo
 clear hvo hoc hoC
 have hlen : (bytesOf b.put).length = b.put.size := bytesOf_length _
 have h1b : decide (0 < (bytesOf b.put).length) = false := by rw [hlen]; simpa using h1
 have h1i : decide (0 < ((bytesOf b.put).length : Int)) = false := by rw [hlen]; simpa using h1
 have h2b : decide (0 < b.drop) = false := by simpa using h2
 have HL := Aside0.mk hlen
 have H1 := Aside0.mk h1
 have H2 := Aside0.mk h2
 clear hlen h1 h2
 have HBLK := Aside0.mk hblk
 have HO := Aside0.mk ho
 have HP := Aside0.mk hp
 have HNE := Aside0.mk (Kd.R_ne ho hblk (by decide))
 have HOK := Aside0.mk ho.1
 have HG := Aside0.mk hg
 have HPC := Aside0.mk hpc
 clear hblk ho hp hpC hpc hg
 have c0 : w.cell? ⟨g, 0, none⟩ = some vo := (blk_cell HBLK.out 0).trans rfl
 have c2 : w.cell? ⟨g, 2, none⟩ = some (.slice Ap (bytesOf b.put).length cp) := (blk_cell HBLK.out 2).trans rfl
 have c3 : w.cell? ⟨g, 3, none⟩ = some (.int .i64 b.drop) := (blk_cell HBLK.out 3).trans rfl
 have f0 := blk_frozen HBLK.out 0
 have f2 := blk_frozen HBLK.out 2
 have f3 := blk_frozen HBLK.out 3
 obtain ⟨i0, hi0, hz0, hz1, hz2⟩ := info_parts info5
 have hct := cut_to (P := Try.prog) 23 5 .i64 Try.underlying23 hi0 Ap (bytesOf b.put).length cp 0 (Int.le_refl 0) (by omega) HPC.out
 clear hi0 hz0 hz1 hz2
 go_enter Try.func97, Try.ntmps97
 go_wp2
 have HK0 := Aside0.mk (Kp.refl P w)
 have hfl : b.flush.out = (b.out) := by simp [Bs.flush, H1.out, H2.out, str_bytes, noText]
 go_end0
 refine ⟨rfl, ⟨HG.out, _, _, blk_put (blk_put HBLK.out 2 (.slice Ap 0 cp) rfl) 3 (.int .i64 0) rfl, ?_, ?_⟩, (HK0.out.setCell (p := ⟨g, 2, none⟩) HG.out _).setCell (p := ⟨g, 3, none⟩) HG.out _⟩
 ·
  rw [hfl]
  exact Kd.R_set (Kd.R_set HO.out HBLK.out ne70_99 2 _) (blk_put HBLK.out 2 (.slice Ap 0 cp) rfl) ne70_99 3 _
 ·
  exact Kd.R_take (m := 0) (Kd.R_set (Kd.R_set HP.out HBLK.out ne5_99 2 _) (blk_put HBLK.out 2 (.slice Ap 0 cp) rfl) ne5_99 3 _) (Nat.zero_le _)
theorem flush_calls (w : World) (base g : Nat) (P : Nat → Prop) (b : Bs) (hb : IsB w base P g b) (hbase : base ≤ w.heap.size) (hP : ∀ k, w.heap.size ≤ k → P k) (hl : b.out.length ≤ 4000000000000) :
  Calls Try.prog 97 #[.pointer (some ⟨g, 0, none⟩)] w fun e w' => e = .returned (.tuple #[]) ∧ IsB w' base P g b.flush ∧ Kp P w w' := by
 by_cases h1 : 0 < b.put.size
 ·
  by_cases h2 : 0 < b.drop
  ·
   exact flush_tt w base g P b hb hbase hP hl h1 h2
  ·
   exact flush_tf w base g P b hb hbase hP hl h1 h2
 ·
  by_cases h2 : 0 < b.drop
  ·
   exact flush_ft w base g P b hb hbase hP hl h1 h2
  ·
   exact flush_ff w base g P b hb hbase hP hl h1 h2
end Go.Proofs.Ytidihnnkcmeaeaa.A
