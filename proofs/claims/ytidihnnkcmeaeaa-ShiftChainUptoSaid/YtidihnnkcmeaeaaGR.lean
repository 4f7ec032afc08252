/- The reference's Build: its cells, and flush: what is put and gone stands in the list. No condition but room for what grows. -/
import Derived.Test.YtidihnnkcmeaeaaH
namespace Go.Proofs.Ytidihnnkcmeaeaa.A
open Go.RowKit Go.Proofs.YtidihnnkcmeaeaaW.PrintWords Go.Proofs.YtidihnnkcmeaeaaW.PrintLast Go.Proofs.YtidihnnkcmeaeaaW.PrintMore
set_option linter.unusedVariables false
set_option linter.unusedSimpArgs false
structure Rb where
 out : List S70
 text : ByteArray
 gone : Int
def Rb.flush (b : Rb) : Rb := ⟨(if 0 < b.text.size then b.out ++ [(⟨2, 0, b.text⟩ : S70)] else b.out) ++ (if 0 < b.gone then [(⟨3, b.gone, noText⟩ : S70)] else []), noText, 0⟩
def Rb.keep (b : Rb) (n : Int) : Rb :=
 if n = 0 then b
 else if b.flush.out ≠ [] ∧ (rd_T70 b.flush.out ((b.flush.out.length - 1 : Nat) : Int)).f0 = 1 then ⟨growLast b.flush.out n, noText, 0⟩
 else ⟨b.flush.out ++ [(⟨1, n, noText⟩ : S70)], noText, 0⟩
def Rb.put (b : Rb) (s : ByteArray) : Rb := ⟨b.out, b.text ++ s, b.gone⟩
def Rb.dropN (b : Rb) (n : Int) : Rb := ⟨b.out, b.text, b.gone + n⟩
def Rb.done (b : Rb) : List S70 := b.flush.out
def IsR (w : World) (base : Nat) (P : Nat → Prop) (g : Nat) (b : Rb) : Prop :=
 P g ∧ ∃ vo, w.heap[g]? = some (.cells #[vo, .string b.text, .int .i64 b.gone] 116 (0, 0)) ∧ Kd.R k70 70 w base P vo b.out
theorem IsR.below {w w' : World} {base : Nat} {P : Nat → Prop} {g : Nat} {b : Rb} (h : IsR w base P g b) (hb : Below w.heap.size w w') : IsR w' base P g b := by
 obtain ⟨hg, vo, h1, h2⟩ := h
 exact ⟨hg, vo, blk_below h1 hb, Kd.R_below h2 hb⟩
theorem IsR.mono {w : World} {base : Nat} {P P' : Nat → Prop} {g : Nat} {b : Rb} (h : IsR w base P g b) (hP : ∀ k, P k → P' k) : IsR w base P' g b := by
 obtain ⟨hg, vo, h1, h2⟩ := h
 exact ⟨hP _ hg, vo, h1, Kd.R_mono h2 hP⟩
theorem ne70_116 : ∀ q, q ∈ 70 :: k70.E → q ≠ 116 := by intro q h; rw [E70] at h; simp at h; omega
set_option maxHeartbeats 4000000 in
set_option maxRecDepth 100000 in
theorem rflush_tt (w : World) (base g : Nat) (P : Nat → Prop) (b : Rb) (hb : IsR w base P g b) (hbase : base ≤ w.heap.size) (hP : ∀ k, w.heap.size ≤ k → P k) (hl : b.out.length ≤ 4000000000000)
  (h1 : 0 < b.text.size) (h2 : 0 < b.gone) :
  Calls Try.prog 98 #[.pointer (some ⟨g, 0, none⟩)] w fun e w' => e = .returned (.tuple #[]) ∧ IsR w' base P g b.flush ∧ Kp P w w' := by
 obtain ⟨hg, vo, hblk, ho⟩ := hb
 have h1c : (b.text.toList != []) = true := by simpa using toList_ne (s := b.text) (by omega)
 have h1d : b.text.toList.isEmpty = false := by simpa using toList_ne (s := b.text) (by omega)
 have h2b : decide (0 < b.gone) = true := by simpa using h2
 have H1 := Aside0.mk h1
 have H2 := Aside0.mk h2
 have HBLK := Aside0.mk hblk
 have HO := Aside0.mk ho
 have HNE := Aside0.mk (Kd.R_ne ho hblk (by decide))
 have HOK := Aside0.mk ho.1
 have HG := Aside0.mk hg
 clear hblk ho hg h1 h2
 have c0 : w.cell? ⟨g, 0, none⟩ = some vo := (blk_cell HBLK.out 0).trans rfl
 have c1 : w.cell? ⟨g, 1, none⟩ = some (.string b.text) := (blk_cell HBLK.out 1).trans rfl
 have c2 : w.cell? ⟨g, 2, none⟩ = some (.int .i64 b.gone) := (blk_cell HBLK.out 2).trans rfl
 have f0 := blk_frozen HBLK.out 0
 have f1 := blk_frozen HBLK.out 1
 have f2 := blk_frozen HBLK.out 2
 go_enter Try.func98, Try.ntmps98
 go_wp2
 refine start_ (n := 15) (S := fun w' => w'.cell? ⟨g, 0, none⟩ = some vo ∧ w'.cell? ⟨g, 1, none⟩ = some (.string b.text)) (ds := [14]) #[false, false, false, false, false, false, false, false, false, false, false, false, false, false, false] (by kernel_rfl) rfl rfl ⟨c0, c1⟩ (fun hHeld => ?_)
 refine pure_ (i := 0) (N := some 7) (v := ?_) (a' := ?_) #[true, false, false, false, false, false, false, false, false, false, false, false, false, false, false] rfl rfl (by kernel_rfl) (fun _ _ _ h => h) (Or.inl ⟨by rfl, ?_⟩) ?_ ?_
 rotate_left
 ·
  intro w'
  go_simp
  with_reducible rfl
 rotate_left
 ·
  simp only [Act.put, List.setIfInBounds_toArray, List.set_cons_zero, List.set_cons_succ, i64_w, i32_w]
  rfl
 refine pure_ (i := 1) (N := some 8) (v := ?_) (a' := ?_) #[true, true, false, false, false, false, false, false, false, false, false, false, false, false, false] rfl rfl (by kernel_rfl) (fun _ _ _ h => h) (Or.inl ⟨by rfl, ?_⟩) ?_ ?_
 rotate_left
 ·
  intro w'
  go_simp
  with_reducible rfl
 rotate_left
 ·
  simp only [Act.put, List.setIfInBounds_toArray, List.set_cons_zero, List.set_cons_succ, i64_w, i32_w]
  rfl
 refine pure_ (i := 2) (N := some 9) (v := ?_) (a' := ?_) #[true, true, true, false, false, false, false, false, false, false, false, false, false, false, false] rfl rfl (by kernel_rfl) (fun _ _ _ h => h) (Or.inl ⟨by rfl, ?_⟩) ?_ ?_
 rotate_left
 ·
  intro w'
  go_simp
  with_reducible rfl
 rotate_left
 ·
  simp only [Act.put, List.setIfInBounds_toArray, List.set_cons_zero, List.set_cons_succ, i64_w, i32_w]
  rfl
 refine pure_ (i := 3) (N := some 10) (v := ?_) (a' := ?_) #[true, true, true, true, false, false, false, false, false, false, false, false, false, false, false] rfl rfl (by kernel_rfl) (fun _ _ _ h => h) (Or.inl ⟨by rfl, ?_⟩) ?_ ?_
 rotate_left
 ·
  intro w'
  go_simp
  with_reducible rfl
 rotate_left
 ·
  simp only [Act.put, List.setIfInBounds_toArray, List.set_cons_zero, List.set_cons_succ, i64_w, i32_w]
  rfl
 refine pure_ (i := 5) (N := some 12) (v := ?_) (a' := ?_) #[true, true, true, true, false, true, false, false, false, false, false, false, false, false, false] rfl rfl (by kernel_rfl) (fun _ _ _ h => h) (Or.inl ⟨by rfl, ?_⟩) ?_ ?_
 rotate_left
 ·
  intro w'
  go_simp
  with_reducible rfl
 rotate_left
 ·
  simp only [Act.put, List.setIfInBounds_toArray, List.set_cons_zero, List.set_cons_succ, i64_w, i32_w]
  rfl
 refine pure_ (i := 6) (N := some 13) (v := ?_) (a' := ?_) #[true, true, true, true, false, true, true, false, false, false, false, false, false, false, false] rfl rfl (by kernel_rfl) (fun _ _ _ h => h) (Or.inl ⟨by rfl, ?_⟩) ?_ ?_
 rotate_left
 ·
  intro w'
  go_simp
  with_reducible rfl
 rotate_left
 ·
  simp only [Act.put, List.setIfInBounds_toArray, List.set_cons_zero, List.set_cons_succ, i64_w, i32_w]
  rfl
 refine pure_ (i := 7) (N := some 14) (v := ?_) (a' := ?_) #[true, true, true, true, false, true, true, true, false, false, false, false, false, false, false] rfl rfl (by kernel_rfl) (fun _ _ _ h => h) (Or.inl ⟨by rfl, ?_⟩) ?_ ?_
 rotate_left
 ·
  intro w'
  go_simp
  with_reducible rfl
 rotate_left
 ·
  simp only [Act.put, List.setIfInBounds_toArray, List.set_cons_zero, List.set_cons_succ, i64_w, i32_w]
  rfl
 refine take_ (i := 4) (N := some 11) (v := ?_) (a' := ?_) #[true, true, true, true, true, true, true, true, false, false, false, false, false, false, false] rfl rfl (by kernel_rfl) (fun _ _ _ h => h) (Or.inl ⟨by rfl, ?_⟩) hHeld ?_ ?_
 rotate_left
 ·
  rintro w' ⟨s0, s1⟩
  go_simp
  with_reducible rfl
 rotate_left
 ·
  simp only [Act.put, List.setIfInBounds_toArray, List.set_cons_zero, List.set_cons_succ, i64_w, i32_w]
  rfl
 refine take_ (i := 8) (N := some 15) (v := ?_) (a' := ?_) #[true, true, true, true, true, true, true, true, true, false, false, false, false, false, false] rfl rfl (by kernel_rfl) (fun _ _ _ h => h) (Or.inl ⟨by rfl, ?_⟩) hHeld ?_ ?_
 rotate_left
 ·
  rintro w' ⟨s0, s1⟩
  go_simp
  with_reducible rfl
 rotate_left
 ·
  simp only [Act.put, List.setIfInBounds_toArray, List.set_cons_zero, List.set_cons_succ, i64_w, i32_w]
  rfl
 refine pure_ (i := 9) (N := some 16) (v := ?_) (a' := ?_) #[true, true, true, true, true, true, true, true, true, true, false, false, false, false, false] rfl rfl (by kernel_rfl) (fun _ _ _ h => h) (Or.inl ⟨by rfl, ?_⟩) ?_ ?_
 rotate_left
 ·
  intro w'
  go_simp
  with_reducible rfl
 rotate_left
 ·
  simp only [Act.put, List.setIfInBounds_toArray, List.set_cons_zero, List.set_cons_succ, i64_w, i32_w]
  rfl
 refine one_ (i := 10) (N := some 17) #[true, true, true, true, true, true, true, true, true, true, true, false, false, false, false] rfl rfl (by kernel_rfl) (by decide) (fun K hK => ?_)
 refine value_ (w1 := ?_) (v := ?_) (by rfl) rfl ?_ ?_
 rotate_left 2
 ·
  go_simp
  constructor
  ·
   rfl
  ·
   rfl
 refine hK.out _ _ ⟨(World.cell?_alloc_lt _ _ _ (World.block_lt_of_cell? _ _ (hHeld.1))).trans (hHeld.1), (World.cell?_alloc_lt _ _ _ (World.block_lt_of_cell? _ _ (hHeld.2))).trans (hHeld.2)⟩ (fun hHeld => ?_)
 clear hK K
 refine norm_ (a' := ?_) ?_ ?_
 rotate_left
 ·
  show Act.put _ (some 17) _ = _
  simp only [Act.put, List.setIfInBounds_toArray, List.set_cons_zero, List.set_cons_succ, i64_w, i32_w]
  rfl
 refine one_ (i := 11) (N := some 18) #[true, true, true, true, true, true, true, true, true, true, true, true, false, false, false] rfl rfl (by kernel_rfl) (by decide) (fun K hK => ?_)
 refine Kd.R_append_step k70 (w0 := w) (W := w.drew) base (by rfl) (.tmp 11) (.tmp 17) 24 70 (.agg #[.int .i64 0, .int .i64 0, .string ⟨#[]⟩]) 32 (by rfl) Try.underlying24 info70' (by rfl) (by decide) (by omega) vo b.out ⟨2, 0, b.text⟩ [.int .i64 2, .int .i64 0, .string b.text] P (fun _ => False) (by rfl) (by rfl) (k70_mkM _ _ _ _) (fun _ h => h.elim) hP (Kd.R_drew HO.out) ((Below.refl _ _).drew) hbase (by omega) ?_
 intro v1 w1 ho1 hb1 hg1 hat1
 have HB1 := Aside0.mk (blk_grown (w := w.drew) HBLK.out hg1 HNE.out)
 have HO1 := Aside0.mk ho1
 have HK1 := Aside0.mk (((Kp.refl P w).drew).grown hg1 (fun k e _ => HOK.out k e))
 clear ho1 hb1 hat1
 have d0 : w1.cell? ⟨g, 0, none⟩ = some vo := (blk_cell HB1.out 0).trans rfl
 have e0 := blk_frozen HB1.out 0
 obtain ⟨A1, k1, hv1⟩ := Kd.R_slice HO1.out
 rw [List.length_append, List.length_singleton] at hv1
 subst hv1
 refine hK.out _ _ ⟨d0, (blk_cell HB1.out 1).trans rfl⟩ (fun hHeld => ?_)
 clear hK K
 refine norm_ (a' := ?_) ?_ ?_
 rotate_left
 ·
  show Act.put _ (some 18) _ = _
  simp only [Act.put, List.setIfInBounds_toArray, List.set_cons_zero, List.set_cons_succ, i64_w, i32_w]
  rfl
 refine pure_ (i := 12) (N := some 19) (v := ?_) (a' := ?_) #[true, true, true, true, true, true, true, true, true, true, true, true, true, false, false] rfl rfl (by kernel_rfl) (fun _ _ _ h => h) (Or.inl ⟨by rfl, ?_⟩) ?_ ?_
 rotate_left
 ·
  intro w'
  go_simp
  with_reducible rfl
 rotate_left
 ·
  simp only [Act.put, List.setIfInBounds_toArray, List.set_cons_zero, List.set_cons_succ, i64_w, i32_w]
  rfl
 refine pure_ (i := 13) (N := some 20) (v := ?_) (a' := ?_) #[true, true, true, true, true, true, true, true, true, true, true, true, true, true, false] rfl rfl (by kernel_rfl) (fun _ _ _ h => h) (Or.inl ⟨by rfl, ?_⟩) ?_ ?_
 rotate_left
 ·
  intro w'
  go_simp
  with_reducible rfl
 rotate_left
 ·
  simp only [Act.put, List.setIfInBounds_toArray, List.set_cons_zero, List.set_cons_succ, i64_w, i32_w]
  rfl
 refine last_ (i := 14) (N := none) #[true, true, true, true, true, true, true, true, true, true, true, true, true, true, true] rfl rfl (by kernel_rfl) (by decide) (fun K hK => ?_)
 refine skip_ (w1 := ?_) (by rfl) rfl ?_ ?_
 rotate_left
 ·
  go_simp
  rfl
 refine hK.out _ _ ?_
 clear hK K
 refine done_ (by kernel_rfl) ?_
 have HB2 := Aside0.mk (blk_put HB1.out 0 (.slice A1 (b.out.length + 1) k1) rfl)
 have HO2 := Aside0.mk (Kd.R_set HO1.out HB1.out ne70_116 0 (.slice A1 (b.out.length + 1) k1))
 have HK2 := Aside0.mk (HK1.out.setCell (p := ⟨g, 0, none⟩) HG.out (.slice A1 (b.out.length + 1) k1))
 clear d0 e0 c0 c1 c2 f0 f1 f2 hg1
 generalize w1.setCell ⟨g, 0, none⟩ _ = w2 at HB2 HO2 HK2 ⊢
 clear HB1 HO1 HK1
 have c0 : w2.cell? ⟨g, 0, none⟩ = some (.slice A1 (b.out.length + 1) k1) := (blk_cell HB2.out 0).trans rfl
 have c1 : w2.cell? ⟨g, 1, none⟩ = some (.string b.text) := (blk_cell HB2.out 1).trans rfl
 have c2 : w2.cell? ⟨g, 2, none⟩ = some (.int .i64 b.gone) := (blk_cell HB2.out 2).trans rfl
 have f0 := blk_frozen HB2.out 0
 have f1 := blk_frozen HB2.out 1
 have f2 := blk_frozen HB2.out 2
 go_wp2
 refine start_ (n := 15) (S := fun w' => w'.cell? ⟨g, 0, none⟩ = some (.slice A1 (b.out.length + 1) k1) ∧ w'.cell? ⟨g, 2, none⟩ = some (.int .i64 b.gone)) (ds := [14]) #[false, false, false, false, false, false, false, false, false, false, false, false, false, false, false] (by kernel_rfl) rfl rfl ⟨(blk_cell HB2.out 0).trans rfl, (blk_cell HB2.out 2).trans rfl⟩ (fun hHeld => ?_)
 refine pure_ (i := 0) (N := some 26) (v := ?_) (a' := ?_) #[true, false, false, false, false, false, false, false, false, false, false, false, false, false, false] rfl rfl (by kernel_rfl) (fun _ _ _ h => h) (Or.inl ⟨by rfl, ?_⟩) ?_ ?_
 rotate_left
 ·
  intro w'
  go_simp
  with_reducible rfl
 rotate_left
 ·
  simp only [Act.put, List.setIfInBounds_toArray, List.set_cons_zero, List.set_cons_succ, i64_w, i32_w]
  rfl
 refine pure_ (i := 1) (N := some 27) (v := ?_) (a' := ?_) #[true, true, false, false, false, false, false, false, false, false, false, false, false, false, false] rfl rfl (by kernel_rfl) (fun _ _ _ h => h) (Or.inl ⟨by rfl, ?_⟩) ?_ ?_
 rotate_left
 ·
  intro w'
  go_simp
  with_reducible rfl
 rotate_left
 ·
  simp only [Act.put, List.setIfInBounds_toArray, List.set_cons_zero, List.set_cons_succ, i64_w, i32_w]
  rfl
 refine pure_ (i := 2) (N := some 28) (v := ?_) (a' := ?_) #[true, true, true, false, false, false, false, false, false, false, false, false, false, false, false] rfl rfl (by kernel_rfl) (fun _ _ _ h => h) (Or.inl ⟨by rfl, ?_⟩) ?_ ?_
 rotate_left
 ·
  intro w'
  go_simp
  with_reducible rfl
 rotate_left
 ·
  simp only [Act.put, List.setIfInBounds_toArray, List.set_cons_zero, List.set_cons_succ, i64_w, i32_w]
  rfl
 refine pure_ (i := 3) (N := some 29) (v := ?_) (a' := ?_) #[true, true, true, true, false, false, false, false, false, false, false, false, false, false, false] rfl rfl (by kernel_rfl) (fun _ _ _ h => h) (Or.inl ⟨by rfl, ?_⟩) ?_ ?_
 rotate_left
 ·
  intro w'
  go_simp
  with_reducible rfl
 rotate_left
 ·
  simp only [Act.put, List.setIfInBounds_toArray, List.set_cons_zero, List.set_cons_succ, i64_w, i32_w]
  rfl
 refine pure_ (i := 5) (N := some 31) (v := ?_) (a' := ?_) #[true, true, true, true, false, true, false, false, false, false, false, false, false, false, false] rfl rfl (by kernel_rfl) (fun _ _ _ h => h) (Or.inl ⟨by rfl, ?_⟩) ?_ ?_
 rotate_left
 ·
  intro w'
  go_simp
  with_reducible rfl
 rotate_left
 ·
  simp only [Act.put, List.setIfInBounds_toArray, List.set_cons_zero, List.set_cons_succ, i64_w, i32_w]
  rfl
 refine pure_ (i := 6) (N := some 32) (v := ?_) (a' := ?_) #[true, true, true, true, false, true, true, false, false, false, false, false, false, false, false] rfl rfl (by kernel_rfl) (fun _ _ _ h => h) (Or.inl ⟨by rfl, ?_⟩) ?_ ?_
 rotate_left
 ·
  intro w'
  go_simp
  with_reducible rfl
 rotate_left
 ·
  simp only [Act.put, List.setIfInBounds_toArray, List.set_cons_zero, List.set_cons_succ, i64_w, i32_w]
  rfl
 refine pure_ (i := 7) (N := some 33) (v := ?_) (a' := ?_) #[true, true, true, true, false, true, true, true, false, false, false, false, false, false, false] rfl rfl (by kernel_rfl) (fun _ _ _ h => h) (Or.inl ⟨by rfl, ?_⟩) ?_ ?_
 rotate_left
 ·
  intro w'
  go_simp
  with_reducible rfl
 rotate_left
 ·
  simp only [Act.put, List.setIfInBounds_toArray, List.set_cons_zero, List.set_cons_succ, i64_w, i32_w]
  rfl
 refine take_ (i := 4) (N := some 30) (v := ?_) (a' := ?_) #[true, true, true, true, true, true, true, true, false, false, false, false, false, false, false] rfl rfl (by kernel_rfl) (fun _ _ _ h => h) (Or.inl ⟨by rfl, ?_⟩) hHeld ?_ ?_
 rotate_left
 ·
  rintro w' ⟨s0, s1⟩
  go_simp
  with_reducible rfl
 rotate_left
 ·
  simp only [Act.put, List.setIfInBounds_toArray, List.set_cons_zero, List.set_cons_succ, i64_w, i32_w]
  rfl
 refine take_ (i := 8) (N := some 34) (v := ?_) (a' := ?_) #[true, true, true, true, true, true, true, true, true, false, false, false, false, false, false] rfl rfl (by kernel_rfl) (fun _ _ _ h => h) (Or.inl ⟨by rfl, ?_⟩) hHeld ?_ ?_
 rotate_left
 ·
  rintro w' ⟨s0, s1⟩
  go_simp
  with_reducible rfl
 rotate_left
 ·
  simp only [Act.put, List.setIfInBounds_toArray, List.set_cons_zero, List.set_cons_succ, i64_w, i32_w]
  rfl
 refine pure_ (i := 9) (N := some 35) (v := ?_) (a' := ?_) #[true, true, true, true, true, true, true, true, true, true, false, false, false, false, false] rfl rfl (by kernel_rfl) (fun _ _ _ h => h) (Or.inl ⟨by rfl, ?_⟩) ?_ ?_
 rotate_left
 ·
  intro w'
  go_simp
  with_reducible rfl
 rotate_left
 ·
  simp only [Act.put, List.setIfInBounds_toArray, List.set_cons_zero, List.set_cons_succ, i64_w, i32_w]
  rfl
 refine one_ (i := 10) (N := some 36) #[true, true, true, true, true, true, true, true, true, true, true, false, false, false, false] rfl rfl (by kernel_rfl) (by decide) (fun K hK => ?_)
 refine value_ (w1 := ?_) (v := ?_) (by rfl) rfl ?_ ?_
 rotate_left 2
 ·
  go_simp
  constructor
  ·
   rfl
  ·
   rfl
 refine hK.out _ _ ⟨(World.cell?_alloc_lt _ _ _ (World.block_lt_of_cell? _ _ (hHeld.1))).trans (hHeld.1), (World.cell?_alloc_lt _ _ _ (World.block_lt_of_cell? _ _ (hHeld.2))).trans (hHeld.2)⟩ (fun hHeld => ?_)
 clear hK K
 refine norm_ (a' := ?_) ?_ ?_
 rotate_left
 ·
  show Act.put _ (some 36) _ = _
  simp only [Act.put, List.setIfInBounds_toArray, List.set_cons_zero, List.set_cons_succ, i64_w, i32_w]
  rfl
 refine one_ (i := 11) (N := some 37) #[true, true, true, true, true, true, true, true, true, true, true, true, false, false, false] rfl rfl (by kernel_rfl) (by decide) (fun K hK => ?_)
 refine Kd.R_append_step k70 (w0 := w2) (W := w2.drew) base (by rfl) (.tmp 30) (.tmp 36) 24 70 (.agg #[.int .i64 0, .int .i64 0, .string ⟨#[]⟩]) 32 (by rfl) Try.underlying24 info70' (by rfl) (by decide) (by omega) (.slice A1 (b.out.length + 1) k1) (b.out ++ [(⟨2, 0, b.text⟩ : S70)]) ⟨3, b.gone, ⟨#[]⟩⟩ [.int .i64 3, .int .i64 b.gone, .string ⟨#[]⟩] P (fun _ => False) (by rfl) (by rfl) (k70_mkM _ _ _ _) (fun _ h => h.elim) (fun k hk => hP k (Nat.le_trans HK2.out.size hk)) (Kd.R_drew HO2.out) ((Below.refl _ _).drew) (Nat.le_trans hbase HK2.out.size) (by first | omega | (simp; omega)) ?_
 intro v4 w4 ho4 hb4 hg4 hat4
 have HB4 := Aside0.mk (blk_grown (w := w2.drew) HB2.out hg4 (Kd.R_ne HO2.out HB2.out (by decide)))
 have HO4 := Aside0.mk ho4
 have HK4 := Aside0.mk ((HK2.out.drew).grown hg4 (fun k e _ => HO2.out.1 k e))
 clear ho4 hb4 hat4
 have d4 : w4.cell? ⟨g, 0, none⟩ = some (.slice A1 (b.out.length + 1) k1) := (blk_cell HB4.out 0).trans rfl
 have e4 := blk_frozen HB4.out 0
 obtain ⟨A4, k4, hv4⟩ := Kd.R_slice HO4.out
 simp only [List.length_append, List.length_singleton] at hv4
 subst hv4
 refine hK.out _ _ ⟨d4, (blk_cell HB4.out 2).trans rfl⟩ (fun hHeld => ?_)
 clear hK K
 refine norm_ (a' := ?_) ?_ ?_
 rotate_left
 ·
  show Act.put _ (some 37) _ = _
  simp only [Act.put, List.setIfInBounds_toArray, List.set_cons_zero, List.set_cons_succ, i64_w, i32_w]
  rfl
 refine pure_ (i := 12) (N := some 38) (v := ?_) (a' := ?_) #[true, true, true, true, true, true, true, true, true, true, true, true, true, false, false] rfl rfl (by kernel_rfl) (fun _ _ _ h => h) (Or.inl ⟨by rfl, ?_⟩) ?_ ?_
 rotate_left
 ·
  intro w'
  go_simp
  with_reducible rfl
 rotate_left
 ·
  simp only [Act.put, List.setIfInBounds_toArray, List.set_cons_zero, List.set_cons_succ, i64_w, i32_w]
  rfl
 refine pure_ (i := 13) (N := some 39) (v := ?_) (a' := ?_) #[true, true, true, true, true, true, true, true, true, true, true, true, true, true, false] rfl rfl (by kernel_rfl) (fun _ _ _ h => h) (Or.inl ⟨by rfl, ?_⟩) ?_ ?_
 rotate_left
 ·
  intro w'
  go_simp
  with_reducible rfl
 rotate_left
 ·
  simp only [Act.put, List.setIfInBounds_toArray, List.set_cons_zero, List.set_cons_succ, i64_w, i32_w]
  rfl
 refine last_ (i := 14) (N := none) #[true, true, true, true, true, true, true, true, true, true, true, true, true, true, true] rfl rfl (by kernel_rfl) (by decide) (fun K hK => ?_)
 refine skip_ (w1 := ?_) (by rfl) rfl ?_ ?_
 rotate_left
 ·
  go_simp
  rfl
 refine hK.out _ _ ?_
 clear hK K
 refine done_ (by kernel_rfl) ?_
 have HB5 := Aside0.mk (blk_put HB4.out 0 (.slice A4 (b.out.length + 1 + 1) k4) rfl)
 have HO5 := Aside0.mk (Kd.R_set HO4.out HB4.out ne70_116 0 (.slice A4 (b.out.length + 1 + 1) k4))
 have HK5 := Aside0.mk (HK4.out.setCell (p := ⟨g, 0, none⟩) HG.out (.slice A4 (b.out.length + 1 + 1) k4))
 clear d4 e4 c0 c1 c2 f0 f1 f2 hg4
 generalize w4.setCell ⟨g, 0, none⟩ _ = w5 at HB5 HO5 HK5 ⊢
 clear HB4 HO4 HK4
 have c1 : w5.cell? ⟨g, 1, none⟩ = some (.string b.text) := (blk_cell HB5.out 1).trans rfl
 have c2 : w5.cell? ⟨g, 2, none⟩ = some (.int .i64 b.gone) := (blk_cell HB5.out 2).trans rfl
 have f1 := blk_frozen HB5.out 1
 have f2 := blk_frozen HB5.out 2
 go_wp2
 have hfl : b.flush.out = (b.out ++ [(⟨2, 0, b.text⟩ : S70)] ++ [(⟨3, b.gone, ⟨#[]⟩⟩ : S70)]) := by simp [Rb.flush, H1.out, H2.out, noText]
 go_end0
 refine ⟨rfl, ⟨HG.out, _, blk_put (blk_put HB5.out 1 (.string ⟨#[]⟩) rfl) 2 (.int .i64 0) rfl, ?_⟩, (HK5.out.setCell (p := ⟨g, 1, none⟩) HG.out _).setCell (p := ⟨g, 2, none⟩) HG.out _⟩
 rw [hfl]
 exact Kd.R_set (Kd.R_set HO5.out HB5.out ne70_116 1 _) (blk_put HB5.out 1 (.string ⟨#[]⟩) rfl) ne70_116 2 _
set_option maxHeartbeats 4000000 in
set_option maxRecDepth 100000 in
theorem rflush_tf (w : World) (base g : Nat) (P : Nat → Prop) (b : Rb) (hb : IsR w base P g b) (hbase : base ≤ w.heap.size) (hP : ∀ k, w.heap.size ≤ k → P k) (hl : b.out.length ≤ 4000000000000)
  (h1 : 0 < b.text.size) (h2 : ¬ 0 < b.gone) :
  Calls Try.prog 98 #[.pointer (some ⟨g, 0, none⟩)] w fun e w' => e = .returned (.tuple #[]) ∧ IsR w' base P g b.flush ∧ Kp P w w' := by
 obtain ⟨hg, vo, hblk, ho⟩ := hb
 have h1c : (b.text.toList != []) = true := by simpa using toList_ne (s := b.text) (by omega)
 have h1d : b.text.toList.isEmpty = false := by simpa using toList_ne (s := b.text) (by omega)
 have h2b : decide (0 < b.gone) = false := by simpa using h2
 have H1 := Aside0.mk h1
 have H2 := Aside0.mk h2
 have HBLK := Aside0.mk hblk
 have HO := Aside0.mk ho
 have HNE := Aside0.mk (Kd.R_ne ho hblk (by decide))
 have HOK := Aside0.mk ho.1
 have HG := Aside0.mk hg
 clear hblk ho hg h1 h2
 have c0 : w.cell? ⟨g, 0, none⟩ = some vo := (blk_cell HBLK.out 0).trans rfl
 have c1 : w.cell? ⟨g, 1, none⟩ = some (.string b.text) := (blk_cell HBLK.out 1).trans rfl
 have c2 : w.cell? ⟨g, 2, none⟩ = some (.int .i64 b.gone) := (blk_cell HBLK.out 2).trans rfl
 have f0 := blk_frozen HBLK.out 0
 have f1 := blk_frozen HBLK.out 1
 have f2 := blk_frozen HBLK.out 2
 go_enter Try.func98, Try.ntmps98
 go_wp2
 refine start_ (n := 15) (S := fun w' => w'.cell? ⟨g, 0, none⟩ = some vo ∧ w'.cell? ⟨g, 1, none⟩ = some (.string b.text)) (ds := [14]) #[false, false, false, false, false, false, false, false, false, false, false, false, false, false, false] (by kernel_rfl) rfl rfl ⟨c0, c1⟩ (fun hHeld => ?_)
 refine pure_ (i := 0) (N := some 7) (v := ?_) (a' := ?_) #[true, false, false, false, false, false, false, false, false, false, false, false, false, false, false] rfl rfl (by kernel_rfl) (fun _ _ _ h => h) (Or.inl ⟨by rfl, ?_⟩) ?_ ?_
 rotate_left
 ·
  intro w'
  go_simp
  with_reducible rfl
 rotate_left
 ·
  simp only [Act.put, List.setIfInBounds_toArray, List.set_cons_zero, List.set_cons_succ, i64_w, i32_w]
  rfl
 refine pure_ (i := 1) (N := some 8) (v := ?_) (a' := ?_) #[true, true, false, false, false, false, false, false, false, false, false, false, false, false, false] rfl rfl (by kernel_rfl) (fun _ _ _ h => h) (Or.inl ⟨by rfl, ?_⟩) ?_ ?_
 rotate_left
 ·
  intro w'
  go_simp
  with_reducible rfl
 rotate_left
 ·
  simp only [Act.put, List.setIfInBounds_toArray, List.set_cons_zero, List.set_cons_succ, i64_w, i32_w]
  rfl
 refine pure_ (i := 2) (N := some 9) (v := ?_) (a' := ?_) #[true, true, true, false, false, false, false, false, false, false, false, false, false, false, false] rfl rfl (by kernel_rfl) (fun _ _ _ h => h) (Or.inl ⟨by rfl, ?_⟩) ?_ ?_
 rotate_left
 ·
  intro w'
  go_simp
  with_reducible rfl
 rotate_left
 ·
  simp only [Act.put, List.setIfInBounds_toArray, List.set_cons_zero, List.set_cons_succ, i64_w, i32_w]
  rfl
 refine pure_ (i := 3) (N := some 10) (v := ?_) (a' := ?_) #[true, true, true, true, false, false, false, false, false, false, false, false, false, false, false] rfl rfl (by kernel_rfl) (fun _ _ _ h => h) (Or.inl ⟨by rfl, ?_⟩) ?_ ?_
 rotate_left
 ·
  intro w'
  go_simp
  with_reducible rfl
 rotate_left
 ·
  simp only [Act.put, List.setIfInBounds_toArray, List.set_cons_zero, List.set_cons_succ, i64_w, i32_w]
  rfl
 refine pure_ (i := 5) (N := some 12) (v := ?_) (a' := ?_) #[true, true, true, true, false, true, false, false, false, false, false, false, false, false, false] rfl rfl (by kernel_rfl) (fun _ _ _ h => h) (Or.inl ⟨by rfl, ?_⟩) ?_ ?_
 rotate_left
 ·
  intro w'
  go_simp
  with_reducible rfl
 rotate_left
 ·
  simp only [Act.put, List.setIfInBounds_toArray, List.set_cons_zero, List.set_cons_succ, i64_w, i32_w]
  rfl
 refine pure_ (i := 6) (N := some 13) (v := ?_) (a' := ?_) #[true, true, true, true, false, true, true, false, false, false, false, false, false, false, false] rfl rfl (by kernel_rfl) (fun _ _ _ h => h) (Or.inl ⟨by rfl, ?_⟩) ?_ ?_
 rotate_left
 ·
  intro w'
  go_simp
  with_reducible rfl
 rotate_left
 ·
  simp only [Act.put, List.setIfInBounds_toArray, List.set_cons_zero, List.set_cons_succ, i64_w, i32_w]
  rfl
 refine pure_ (i := 7) (N := some 14) (v := ?_) (a' := ?_) #[true, true, true, true, false, true, true, true, false, false, false, false, false, false, false] rfl rfl (by kernel_rfl) (fun _ _ _ h => h) (Or.inl ⟨by rfl, ?_⟩) ?_ ?_
 rotate_left
 ·
  intro w'
  go_simp
  with_reducible rfl
 rotate_left
 ·
  simp only [Act.put, List.setIfInBounds_toArray, List.set_cons_zero, List.set_cons_succ, i64_w, i32_w]
  rfl
 refine take_ (i := 4) (N := some 11) (v := ?_) (a' := ?_) #[true, true, true, true, true, true, true, true, false, false, false, false, false, false, false] rfl rfl (by kernel_rfl) (fun _ _ _ h => h) (Or.inl ⟨by rfl, ?_⟩) hHeld ?_ ?_
 rotate_left
 ·
  rintro w' ⟨s0, s1⟩
  go_simp
  with_reducible rfl
 rotate_left
 ·
  simp only [Act.put, List.setIfInBounds_toArray, List.set_cons_zero, List.set_cons_succ, i64_w, i32_w]
  rfl
 refine take_ (i := 8) (N := some 15) (v := ?_) (a' := ?_) #[true, true, true, true, true, true, true, true, true, false, false, false, false, false, false] rfl rfl (by kernel_rfl) (fun _ _ _ h => h) (Or.inl ⟨by rfl, ?_⟩) hHeld ?_ ?_
 rotate_left
 ·
  rintro w' ⟨s0, s1⟩
  go_simp
  with_reducible rfl
 rotate_left
 ·
  simp only [Act.put, List.setIfInBounds_toArray, List.set_cons_zero, List.set_cons_succ, i64_w, i32_w]
  rfl
 refine pure_ (i := 9) (N := some 16) (v := ?_) (a' := ?_) #[true, true, true, true, true, true, true, true, true, true, false, false, false, false, false] rfl rfl (by kernel_rfl) (fun _ _ _ h => h) (Or.inl ⟨by rfl, ?_⟩) ?_ ?_
 rotate_left
 ·
  intro w'
  go_simp
  with_reducible rfl
 rotate_left
 ·
  simp only [Act.put, List.setIfInBounds_toArray, List.set_cons_zero, List.set_cons_succ, i64_w, i32_w]
  rfl
 refine one_ (i := 10) (N := some 17) #[true, true, true, true, true, true, true, true, true, true, true, false, false, false, false] rfl rfl (by kernel_rfl) (by decide) (fun K hK => ?_)
 refine value_ (w1 := ?_) (v := ?_) (by rfl) rfl ?_ ?_
 rotate_left 2
 ·
  go_simp
  constructor
  ·
   rfl
  ·
   rfl
 refine hK.out _ _ ⟨(World.cell?_alloc_lt _ _ _ (World.block_lt_of_cell? _ _ (hHeld.1))).trans (hHeld.1), (World.cell?_alloc_lt _ _ _ (World.block_lt_of_cell? _ _ (hHeld.2))).trans (hHeld.2)⟩ (fun hHeld => ?_)
 clear hK K
 refine norm_ (a' := ?_) ?_ ?_
 rotate_left
 ·
  show Act.put _ (some 17) _ = _
  simp only [Act.put, List.setIfInBounds_toArray, List.set_cons_zero, List.set_cons_succ, i64_w, i32_w]
  rfl
 refine one_ (i := 11) (N := some 18) #[true, true, true, true, true, true, true, true, true, true, true, true, false, false, false] rfl rfl (by kernel_rfl) (by decide) (fun K hK => ?_)
 refine Kd.R_append_step k70 (w0 := w) (W := w.drew) base (by rfl) (.tmp 11) (.tmp 17) 24 70 (.agg #[.int .i64 0, .int .i64 0, .string ⟨#[]⟩]) 32 (by rfl) Try.underlying24 info70' (by rfl) (by decide) (by omega) vo b.out ⟨2, 0, b.text⟩ [.int .i64 2, .int .i64 0, .string b.text] P (fun _ => False) (by rfl) (by rfl) (k70_mkM _ _ _ _) (fun _ h => h.elim) hP (Kd.R_drew HO.out) ((Below.refl _ _).drew) hbase (by omega) ?_
 intro v1 w1 ho1 hb1 hg1 hat1
 have HB1 := Aside0.mk (blk_grown (w := w.drew) HBLK.out hg1 HNE.out)
 have HO1 := Aside0.mk ho1
 have HK1 := Aside0.mk (((Kp.refl P w).drew).grown hg1 (fun k e _ => HOK.out k e))
 clear ho1 hb1 hat1
 have d0 : w1.cell? ⟨g, 0, none⟩ = some vo := (blk_cell HB1.out 0).trans rfl
 have e0 := blk_frozen HB1.out 0
 obtain ⟨A1, k1, hv1⟩ := Kd.R_slice HO1.out
 rw [List.length_append, List.length_singleton] at hv1
 subst hv1
 refine hK.out _ _ ⟨d0, (blk_cell HB1.out 1).trans rfl⟩ (fun hHeld => ?_)
 clear hK K
 refine norm_ (a' := ?_) ?_ ?_
 rotate_left
 ·
  show Act.put _ (some 18) _ = _
  simp only [Act.put, List.setIfInBounds_toArray, List.set_cons_zero, List.set_cons_succ, i64_w, i32_w]
  rfl
 refine pure_ (i := 12) (N := some 19) (v := ?_) (a' := ?_) #[true, true, true, true, true, true, true, true, true, true, true, true, true, false, false] rfl rfl (by kernel_rfl) (fun _ _ _ h => h) (Or.inl ⟨by rfl, ?_⟩) ?_ ?_
 rotate_left
 ·
  intro w'
  go_simp
  with_reducible rfl
 rotate_left
 ·
  simp only [Act.put, List.setIfInBounds_toArray, List.set_cons_zero, List.set_cons_succ, i64_w, i32_w]
  rfl
 refine pure_ (i := 13) (N := some 20) (v := ?_) (a' := ?_) #[true, true, true, true, true, true, true, true, true, true, true, true, true, true, false] rfl rfl (by kernel_rfl) (fun _ _ _ h => h) (Or.inl ⟨by rfl, ?_⟩) ?_ ?_
 rotate_left
 ·
  intro w'
  go_simp
  with_reducible rfl
 rotate_left
 ·
  simp only [Act.put, List.setIfInBounds_toArray, List.set_cons_zero, List.set_cons_succ, i64_w, i32_w]
  rfl
 refine last_ (i := 14) (N := none) #[true, true, true, true, true, true, true, true, true, true, true, true, true, true, true] rfl rfl (by kernel_rfl) (by decide) (fun K hK => ?_)
 refine skip_ (w1 := ?_) (by rfl) rfl ?_ ?_
 rotate_left
 ·
  go_simp
  rfl
 refine hK.out _ _ ?_
 clear hK K
 refine done_ (by kernel_rfl) ?_
 have HB2 := Aside0.mk (blk_put HB1.out 0 (.slice A1 (b.out.length + 1) k1) rfl)
 have HO2 := Aside0.mk (Kd.R_set HO1.out HB1.out ne70_116 0 (.slice A1 (b.out.length + 1) k1))
 have HK2 := Aside0.mk (HK1.out.setCell (p := ⟨g, 0, none⟩) HG.out (.slice A1 (b.out.length + 1) k1))
 clear d0 e0 c0 c1 c2 f0 f1 f2 hg1
 generalize w1.setCell ⟨g, 0, none⟩ _ = w2 at HB2 HO2 HK2 ⊢
 clear HB1 HO1 HK1
 have c0 : w2.cell? ⟨g, 0, none⟩ = some (.slice A1 (b.out.length + 1) k1) := (blk_cell HB2.out 0).trans rfl
 have c1 : w2.cell? ⟨g, 1, none⟩ = some (.string b.text) := (blk_cell HB2.out 1).trans rfl
 have c2 : w2.cell? ⟨g, 2, none⟩ = some (.int .i64 b.gone) := (blk_cell HB2.out 2).trans rfl
 have f0 := blk_frozen HB2.out 0
 have f1 := blk_frozen HB2.out 1
 have f2 := blk_frozen HB2.out 2
 go_wp2
 have hfl : b.flush.out = (b.out ++ [(⟨2, 0, b.text⟩ : S70)]) := by simp [Rb.flush, H1.out, H2.out, noText]
 go_end0
 refine ⟨rfl, ⟨HG.out, _, blk_put (blk_put HB2.out 1 (.string ⟨#[]⟩) rfl) 2 (.int .i64 0) rfl, ?_⟩, (HK2.out.setCell (p := ⟨g, 1, none⟩) HG.out _).setCell (p := ⟨g, 2, none⟩) HG.out _⟩
 rw [hfl]
 exact Kd.R_set (Kd.R_set HO2.out HB2.out ne70_116 1 _) (blk_put HB2.out 1 (.string ⟨#[]⟩) rfl) ne70_116 2 _
set_option maxHeartbeats 4000000 in
set_option maxRecDepth 100000 in
theorem rflush_ft (w : World) (base g : Nat) (P : Nat → Prop) (b : Rb) (hb : IsR w base P g b) (hbase : base ≤ w.heap.size) (hP : ∀ k, w.heap.size ≤ k → P k) (hl : b.out.length ≤ 4000000000000)
  (h1 : ¬ 0 < b.text.size) (h2 : 0 < b.gone) :
  Calls Try.prog 98 #[.pointer (some ⟨g, 0, none⟩)] w fun e w' => e = .returned (.tuple #[]) ∧ IsR w' base P g b.flush ∧ Kp P w w' := by
 obtain ⟨hg, vo, hblk, ho⟩ := hb
 have h1c : (b.text.toList != []) = false := by rw [toList_nil (s := b.text) (by omega)]; rfl
 have h1d : b.text.toList.isEmpty = true := by rw [toList_nil (s := b.text) (by omega)]; rfl
 have h2b : decide (0 < b.gone) = true := by simpa using h2
 have H1 := Aside0.mk h1
 have H2 := Aside0.mk h2
 have HBLK := Aside0.mk hblk
 have HO := Aside0.mk ho
 have HNE := Aside0.mk (Kd.R_ne ho hblk (by decide))
 have HOK := Aside0.mk ho.1
 have HG := Aside0.mk hg
 clear hblk ho hg h1 h2
 have c0 : w.cell? ⟨g, 0, none⟩ = some vo := (blk_cell HBLK.out 0).trans rfl
 have c1 : w.cell? ⟨g, 1, none⟩ = some (.string b.text) := (blk_cell HBLK.out 1).trans rfl
 have c2 : w.cell? ⟨g, 2, none⟩ = some (.int .i64 b.gone) := (blk_cell HBLK.out 2).trans rfl
 have f0 := blk_frozen HBLK.out 0
 have f1 := blk_frozen HBLK.out 1
 have f2 := blk_frozen HBLK.out 2
 go_enter Try.func98, Try.ntmps98
 go_wp2
 have HK0 := Aside0.mk (Kp.refl P w)
 refine start_ (n := 15) (S := fun w' => w'.cell? ⟨g, 0, none⟩ = some (vo) ∧ w'.cell? ⟨g, 2, none⟩ = some (.int .i64 b.gone)) (ds := [14]) #[false, false, false, false, false, false, false, false, false, false, false, false, false, false, false] (by kernel_rfl) rfl rfl ⟨(blk_cell HBLK.out 0).trans rfl, (blk_cell HBLK.out 2).trans rfl⟩ (fun hHeld => ?_)
 refine pure_ (i := 0) (N := some 26) (v := ?_) (a' := ?_) #[true, false, false, false, false, false, false, false, false, false, false, false, false, false, false] rfl rfl (by kernel_rfl) (fun _ _ _ h => h) (Or.inl ⟨by rfl, ?_⟩) ?_ ?_
 rotate_left
 ·
  intro w'
  go_simp
  with_reducible rfl
 rotate_left
 ·
  simp only [Act.put, List.setIfInBounds_toArray, List.set_cons_zero, List.set_cons_succ, i64_w, i32_w]
  rfl
 refine pure_ (i := 1) (N := some 27) (v := ?_) (a' := ?_) #[true, true, false, false, false, false, false, false, false, false, false, false, false, false, false] rfl rfl (by kernel_rfl) (fun _ _ _ h => h) (Or.inl ⟨by rfl, ?_⟩) ?_ ?_
 rotate_left
 ·
  intro w'
  go_simp
  with_reducible rfl
 rotate_left
 ·
  simp only [Act.put, List.setIfInBounds_toArray, List.set_cons_zero, List.set_cons_succ, i64_w, i32_w]
  rfl
 refine pure_ (i := 2) (N := some 28) (v := ?_) (a' := ?_) #[true, true, true, false, false, false, false, false, false, false, false, false, false, false, false] rfl rfl (by kernel_rfl) (fun _ _ _ h => h) (Or.inl ⟨by rfl, ?_⟩) ?_ ?_
 rotate_left
 ·
  intro w'
  go_simp
  with_reducible rfl
 rotate_left
 ·
  simp only [Act.put, List.setIfInBounds_toArray, List.set_cons_zero, List.set_cons_succ, i64_w, i32_w]
  rfl
 refine pure_ (i := 3) (N := some 29) (v := ?_) (a' := ?_) #[true, true, true, true, false, false, false, false, false, false, false, false, false, false, false] rfl rfl (by kernel_rfl) (fun _ _ _ h => h) (Or.inl ⟨by rfl, ?_⟩) ?_ ?_
 rotate_left
 ·
  intro w'
  go_simp
  with_reducible rfl
 rotate_left
 ·
  simp only [Act.put, List.setIfInBounds_toArray, List.set_cons_zero, List.set_cons_succ, i64_w, i32_w]
  rfl
 refine pure_ (i := 5) (N := some 31) (v := ?_) (a' := ?_) #[true, true, true, true, false, true, false, false, false, false, false, false, false, false, false] rfl rfl (by kernel_rfl) (fun _ _ _ h => h) (Or.inl ⟨by rfl, ?_⟩) ?_ ?_
 rotate_left
 ·
  intro w'
  go_simp
  with_reducible rfl
 rotate_left
 ·
  simp only [Act.put, List.setIfInBounds_toArray, List.set_cons_zero, List.set_cons_succ, i64_w, i32_w]
  rfl
 refine pure_ (i := 6) (N := some 32) (v := ?_) (a' := ?_) #[true, true, true, true, false, true, true, false, false, false, false, false, false, false, false] rfl rfl (by kernel_rfl) (fun _ _ _ h => h) (Or.inl ⟨by rfl, ?_⟩) ?_ ?_
 rotate_left
 ·
  intro w'
  go_simp
  with_reducible rfl
 rotate_left
 ·
  simp only [Act.put, List.setIfInBounds_toArray, List.set_cons_zero, List.set_cons_succ, i64_w, i32_w]
  rfl
 refine pure_ (i := 7) (N := some 33) (v := ?_) (a' := ?_) #[true, true, true, true, false, true, true, true, false, false, false, false, false, false, false] rfl rfl (by kernel_rfl) (fun _ _ _ h => h) (Or.inl ⟨by rfl, ?_⟩) ?_ ?_
 rotate_left
 ·
  intro w'
  go_simp
  with_reducible rfl
 rotate_left
 ·
  simp only [Act.put, List.setIfInBounds_toArray, List.set_cons_zero, List.set_cons_succ, i64_w, i32_w]
  rfl
 refine take_ (i := 4) (N := some 30) (v := ?_) (a' := ?_) #[true, true, true, true, true, true, true, true, false, false, false, false, false, false, false] rfl rfl (by kernel_rfl) (fun _ _ _ h => h) (Or.inl ⟨by rfl, ?_⟩) hHeld ?_ ?_
 rotate_left
 ·
  rintro w' ⟨s0, s1⟩
  go_simp
  with_reducible rfl
 rotate_left
 ·
  simp only [Act.put, List.setIfInBounds_toArray, List.set_cons_zero, List.set_cons_succ, i64_w, i32_w]
  rfl
 refine take_ (i := 8) (N := some 34) (v := ?_) (a' := ?_) #[true, true, true, true, true, true, true, true, true, false, false, false, false, false, false] rfl rfl (by kernel_rfl) (fun _ _ _ h => h) (Or.inl ⟨by rfl, ?_⟩) hHeld ?_ ?_
 rotate_left
 ·
  rintro w' ⟨s0, s1⟩
  go_simp
  with_reducible rfl
 rotate_left
 ·
  simp only [Act.put, List.setIfInBounds_toArray, List.set_cons_zero, List.set_cons_succ, i64_w, i32_w]
  rfl
 refine pure_ (i := 9) (N := some 35) (v := ?_) (a' := ?_) #[true, true, true, true, true, true, true, true, true, true, false, false, false, false, false] rfl rfl (by kernel_rfl) (fun _ _ _ h => h) (Or.inl ⟨by rfl, ?_⟩) ?_ ?_
 rotate_left
 ·
  intro w'
  go_simp
  with_reducible rfl
 rotate_left
 ·
  simp only [Act.put, List.setIfInBounds_toArray, List.set_cons_zero, List.set_cons_succ, i64_w, i32_w]
  rfl
 refine one_ (i := 10) (N := some 36) #[true, true, true, true, true, true, true, true, true, true, true, false, false, false, false] rfl rfl (by kernel_rfl) (by decide) (fun K hK => ?_)
 refine value_ (w1 := ?_) (v := ?_) (by rfl) rfl ?_ ?_
 rotate_left 2
 ·
  go_simp
  constructor
  ·
   rfl
  ·
   rfl
 refine hK.out _ _ ⟨(World.cell?_alloc_lt _ _ _ (World.block_lt_of_cell? _ _ (hHeld.1))).trans (hHeld.1), (World.cell?_alloc_lt _ _ _ (World.block_lt_of_cell? _ _ (hHeld.2))).trans (hHeld.2)⟩ (fun hHeld => ?_)
 clear hK K
 refine norm_ (a' := ?_) ?_ ?_
 rotate_left
 ·
  show Act.put _ (some 36) _ = _
  simp only [Act.put, List.setIfInBounds_toArray, List.set_cons_zero, List.set_cons_succ, i64_w, i32_w]
  rfl
 refine one_ (i := 11) (N := some 37) #[true, true, true, true, true, true, true, true, true, true, true, true, false, false, false] rfl rfl (by kernel_rfl) (by decide) (fun K hK => ?_)
 refine Kd.R_append_step k70 (w0 := w) (W := w.drew) base (by rfl) (.tmp 30) (.tmp 36) 24 70 (.agg #[.int .i64 0, .int .i64 0, .string ⟨#[]⟩]) 32 (by rfl) Try.underlying24 info70' (by rfl) (by decide) (by omega) (vo) (b.out) ⟨3, b.gone, ⟨#[]⟩⟩ [.int .i64 3, .int .i64 b.gone, .string ⟨#[]⟩] P (fun _ => False) (by rfl) (by rfl) (k70_mkM _ _ _ _) (fun _ h => h.elim) (fun k hk => hP k (Nat.le_trans HK0.out.size hk)) (Kd.R_drew HO.out) ((Below.refl _ _).drew) (Nat.le_trans hbase HK0.out.size) (by first | omega | (simp; omega)) ?_
 intro v4 w4 ho4 hb4 hg4 hat4
 have HB4 := Aside0.mk (blk_grown (w := w.drew) HBLK.out hg4 (Kd.R_ne HO.out HBLK.out (by decide)))
 have HO4 := Aside0.mk ho4
 have HK4 := Aside0.mk ((HK0.out.drew).grown hg4 (fun k e _ => HO.out.1 k e))
 clear ho4 hb4 hat4
 have d4 : w4.cell? ⟨g, 0, none⟩ = some (vo) := (blk_cell HB4.out 0).trans rfl
 have e4 := blk_frozen HB4.out 0
 obtain ⟨A4, k4, hv4⟩ := Kd.R_slice HO4.out
 simp only [List.length_append, List.length_singleton] at hv4
 subst hv4
 refine hK.out _ _ ⟨d4, (blk_cell HB4.out 2).trans rfl⟩ (fun hHeld => ?_)
 clear hK K
 refine norm_ (a' := ?_) ?_ ?_
 rotate_left
 ·
  show Act.put _ (some 37) _ = _
  simp only [Act.put, List.setIfInBounds_toArray, List.set_cons_zero, List.set_cons_succ, i64_w, i32_w]
  rfl
 refine pure_ (i := 12) (N := some 38) (v := ?_) (a' := ?_) #[true, true, true, true, true, true, true, true, true, true, true, true, true, false, false] rfl rfl (by kernel_rfl) (fun _ _ _ h => h) (Or.inl ⟨by rfl, ?_⟩) ?_ ?_
 rotate_left
 ·
  intro w'
  go_simp
  with_reducible rfl
 rotate_left
 ·
  simp only [Act.put, List.setIfInBounds_toArray, List.set_cons_zero, List.set_cons_succ, i64_w, i32_w]
  rfl
 refine pure_ (i := 13) (N := some 39) (v := ?_) (a' := ?_) #[true, true, true, true, true, true, true, true, true, true, true, true, true, true, false] rfl rfl (by kernel_rfl) (fun _ _ _ h => h) (Or.inl ⟨by rfl, ?_⟩) ?_ ?_
 rotate_left
 ·
  intro w'
  go_simp
  with_reducible rfl
 rotate_left
 ·
  simp only [Act.put, List.setIfInBounds_toArray, List.set_cons_zero, List.set_cons_succ, i64_w, i32_w]
  rfl
 refine last_ (i := 14) (N := none) #[true, true, true, true, true, true, true, true, true, true, true, true, true, true, true] rfl rfl (by kernel_rfl) (by decide) (fun K hK => ?_)
 refine skip_ (w1 := ?_) (by rfl) rfl ?_ ?_
 rotate_left
 ·
  go_simp
  rfl
 refine hK.out _ _ ?_
 clear hK K
 refine done_ (by kernel_rfl) ?_
 have HB5 := Aside0.mk (blk_put HB4.out 0 (.slice A4 (b.out.length + 1) k4) rfl)
 have HO5 := Aside0.mk (Kd.R_set HO4.out HB4.out ne70_116 0 (.slice A4 (b.out.length + 1) k4))
 have HK5 := Aside0.mk (HK4.out.setCell (p := ⟨g, 0, none⟩) HG.out (.slice A4 (b.out.length + 1) k4))
 clear d4 e4 c0 c1 c2 f0 f1 f2 hg4
 generalize w4.setCell ⟨g, 0, none⟩ _ = w5 at HB5 HO5 HK5 ⊢
 clear HB4 HO4 HK4
 have c1 : w5.cell? ⟨g, 1, none⟩ = some (.string b.text) := (blk_cell HB5.out 1).trans rfl
 have c2 : w5.cell? ⟨g, 2, none⟩ = some (.int .i64 b.gone) := (blk_cell HB5.out 2).trans rfl
 have f1 := blk_frozen HB5.out 1
 have f2 := blk_frozen HB5.out 2
 go_wp2
 have hfl : b.flush.out = (b.out ++ [(⟨3, b.gone, ⟨#[]⟩⟩ : S70)]) := by simp [Rb.flush, H1.out, H2.out, noText]
 go_end0
 refine ⟨rfl, ⟨HG.out, _, blk_put (blk_put HB5.out 1 (.string ⟨#[]⟩) rfl) 2 (.int .i64 0) rfl, ?_⟩, (HK5.out.setCell (p := ⟨g, 1, none⟩) HG.out _).setCell (p := ⟨g, 2, none⟩) HG.out _⟩
 rw [hfl]
 exact Kd.R_set (Kd.R_set HO5.out HB5.out ne70_116 1 _) (blk_put HB5.out 1 (.string ⟨#[]⟩) rfl) ne70_116 2 _
set_option maxHeartbeats 4000000 in
set_option maxRecDepth 100000 in
theorem rflush_ff (w : World) (base g : Nat) (P : Nat → Prop) (b : Rb) (hb : IsR w base P g b) (hbase : base ≤ w.heap.size) (hP : ∀ k, w.heap.size ≤ k → P k) (hl : b.out.length ≤ 4000000000000)
  (h1 : ¬ 0 < b.text.size) (h2 : ¬ 0 < b.gone) :
  Calls Try.prog 98 #[.pointer (some ⟨g, 0, none⟩)] w fun e w' => e = .returned (.tuple #[]) ∧ IsR w' base P g b.flush ∧ Kp P w w' := by
 obtain ⟨hg, vo, hblk, ho⟩ := hb
 have h1c : (b.text.toList != []) = false := by rw [toList_nil (s := b.text) (by omega)]; rfl
 have h1d : b.text.toList.isEmpty = true := by rw [toList_nil (s := b.text) (by omega)]; rfl
 have h2b : decide (0 < b.gone) = false := by simpa using h2
 have H1 := Aside0.mk h1
 have H2 := Aside0.mk h2
 have HBLK := Aside0.mk hblk
 have HO := Aside0.mk ho
 have HNE := Aside0.mk (Kd.R_ne ho hblk (by decide))
 have HOK := Aside0.mk ho.1
 have HG := Aside0.mk hg
 clear hblk ho hg h1 h2
 have c0 : w.cell? ⟨g, 0, none⟩ = some vo := (blk_cell HBLK.out 0).trans rfl
 have c1 : w.cell? ⟨g, 1, none⟩ = some (.string b.text) := (blk_cell HBLK.out 1).trans rfl
 have c2 : w.cell? ⟨g, 2, none⟩ = some (.int .i64 b.gone) := (blk_cell HBLK.out 2).trans rfl
 have f0 := blk_frozen HBLK.out 0
 have f1 := blk_frozen HBLK.out 1
 have f2 := blk_frozen HBLK.out 2
 go_enter Try.func98, Try.ntmps98
 go_wp2
 have HK0 := Aside0.mk (Kp.refl P w)
 have hfl : b.flush.out = (b.out) := by simp [Rb.flush, H1.out, H2.out, noText]
 go_end0
 refine ⟨rfl, ⟨HG.out, _, blk_put (blk_put HBLK.out 1 (.string ⟨#[]⟩) rfl) 2 (.int .i64 0) rfl, ?_⟩, (HK0.out.setCell (p := ⟨g, 1, none⟩) HG.out _).setCell (p := ⟨g, 2, none⟩) HG.out _⟩
 rw [hfl]
 exact Kd.R_set (Kd.R_set HO.out HBLK.out ne70_116 1 _) (blk_put HBLK.out 1 (.string ⟨#[]⟩) rfl) ne70_116 2 _
theorem rflush_calls (w : World) (base g : Nat) (P : Nat → Prop) (b : Rb) (hb : IsR w base P g b) (hbase : base ≤ w.heap.size) (hP : ∀ k, w.heap.size ≤ k → P k) (hl : b.out.length ≤ 4000000000000) :
  Calls Try.prog 98 #[.pointer (some ⟨g, 0, none⟩)] w fun e w' => e = .returned (.tuple #[]) ∧ IsR w' base P g b.flush ∧ Kp P w w' := by
 by_cases h1 : 0 < b.text.size
 ·
  by_cases h2 : 0 < b.gone
  ·
   exact rflush_tt w base g P b hb hbase hP hl h1 h2
  ·
   exact rflush_tf w base g P b hb hbase hP hl h1 h2
 ·
  by_cases h2 : 0 < b.gone
  ·
   exact rflush_ft w base g P b hb hbase hP hl h1 h2
  ·
   exact rflush_ff w base g P b hb hbase hP hl h1 h2
end Go.Proofs.Ytidihnnkcmeaeaa.A
