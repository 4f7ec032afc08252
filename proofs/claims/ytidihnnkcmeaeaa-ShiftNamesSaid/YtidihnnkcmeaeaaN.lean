/- delta.Apply's three closures: what each does to the two variables that it holds. No condition but room for what grows. -/
import Derived.Test.YtidihnnkcmeaeaaM
namespace Go.Proofs.Ytidihnnkcmeaeaa.A
open Go.RowKit Go.Proofs.YtidihnnkcmeaeaaW.PrintWords Go.Proofs.YtidihnnkcmeaeaaW.PrintLast Go.Proofs.YtidihnnkcmeaeaaW.PrintMore
set_option linter.unusedVariables false
set_option linter.unusedSimpArgs false

/-- where a cut's cells begin -/
def cutA (A : Option Addr) (c m : Nat) : Option Addr := if c = m then A else A.map (·.add (m * 1))
theorem cutA_C {W : World} {A : Option Addr} {N c m : Nat} {xs : List Int} (h : Kd.C (Kd.int .u8) W A N xs) (hm : m ≤ N) (hc : N ≤ c) : Kd.C (Kd.int .u8) W (cutA A c m) (N - m) (xs.drop m) := by
  have hN := Kd.C_len h
  subst hN
  have := Kd.C_drop (c := c) h hm hc
  rw [List.length_drop] at this
  exact this
theorem takeC {W : World} {A : Option Addr} {N m : Nat} {xs : List Int} (h : Kd.C (Kd.int .u8) W A N xs) (hm : m ≤ N) : Kd.C (Kd.int .u8) W A m (xs.take m) := by
  have hN := Kd.C_len h
  subst hN
  have := Kd.C_take h hm
  rwa [List.length_take, Nat.min_eq_left hm] at this
theorem cutTo {A : Option Addr} {N c m : Nat} {n : Int} (h0 : 0 ≤ n) (hn : n.toNat = m) (hm : m ≤ N) (hc : N ≤ c) : ∀ W : World, (Instr.slice 23 (.slice A N c) none (some (.int .i64 n)) none).run Try.prog W = .ok (.slice A m c) W := by
  obtain ⟨i0, hi0, hz0, hz1, hz2⟩ := info_parts info5
  have h := cut_to (P := Try.prog) 23 5 .i64 Try.underlying23 hi0 A N c n h0 (by omega) hc
  rw [hn] at h
  exact h
theorem cutFrom {A : Option Addr} {N c m : Nat} {n : Int} (h0 : 0 ≤ n) (hn : n.toNat = m) (hm : m ≤ N) : ∀ W : World, (Instr.slice 23 (.slice A N c) (some (.int .i64 n)) none none).run Try.prog W = .ok (.slice (cutA A c m) (N - m) (c - m)) W := by
  obtain ⟨i0, hi0, hz0, hz1, hz2⟩ := info_parts info5
  have h := cut_from (P := Try.prog) 23 5 .i64 Try.underlying23 hi0 1 hz1 A N c n h0 (by omega)
  rw [hn] at h
  exact h

set_option maxHeartbeats 4000000 in
theorem ap3_calls (w : World) (gb : Nat) (A : Option Addr) (N c : Nat) (n : Int) (m : Nat) (s : ByteArray) (hb : w.heap[gb]? = some (.cells #[.slice A N c] 23 (0, 0))) (h0 : 0 ≤ n) (hn : n.toNat = m) (hm : m ≤ N) :
    Calls Try.prog 68 #[.int .i64 n, .string s, .pointer (some ⟨gb, 0, none⟩)] w fun e w' => e = .returned (.tuple #[]) ∧ w'.heap[gb]? = some (.cells #[.slice (cutA A c m) (N - m) (c - m)] 23 (0, 0)) ∧ Kp (fun k => k = gb) w w' := by
  have HB := Aside0.mk hb
  have hcf := cutFrom (A := A) (N := N) (c := c) h0 hn hm
  have c0 : w.cell? ⟨gb, 0, none⟩ = some (.slice A N c) := (blk_cell hb 0).trans rfl
  have f0 := blk_frozen hb 0
  clear hb hn
  generalize cutA A c m = A' at hcf ⊢
  go_enter Try.func68, Try.ntmps68
  go_wp2
  go_end0
  exact ⟨rfl, blk_put HB.out 0 _ rfl, (Kp.refl (fun k => k = gb) w).setCell (p := ⟨gb, 0, none⟩) rfl _⟩

set_option maxHeartbeats 4000000 in
theorem ap2_calls (w : World) (go base : Nat) (P : Nat → Prop) (vo : Value) (outp : List Int) (m : Int) (s : ByteArray) (hb : w.heap[go]? = some (.cells #[vo] 23 (0, 0))) (hr : Kd.R (Kd.int .u8) 5 w base P vo outp) (hbase : base ≤ w.heap.size) (hP : ∀ k, w.heap.size ≤ k → P k) (hg : P go) (hl : outp.length + s.size ≤ 140737488355328) :
    Calls Try.prog 67 #[.int .i64 m, .string s, .pointer (some ⟨go, 0, none⟩)] w fun e w' => e = .returned (.tuple #[]) ∧ ∃ v1, w'.heap[go]? = some (.cells #[v1] 23 (0, 0)) ∧ Kd.R (Kd.int .u8) 5 w' base P v1 (outp ++ bytesOf s) ∧ Kp (fun k => k = go ∨ some k = vo.ownBlock) w w' := by
  obtain ⟨Ao, co, rfl⟩ := Kd.R_slice hr
  have HB := Aside0.mk hb
  have HR := Aside0.mk hr
  have HNE := Aside0.mk (Kd.R_ne hr hb (by decide))
  have c0 : w.cell? ⟨go, 0, none⟩ = some (.slice Ao outp.length co) := (blk_cell hb 0).trans rfl
  clear hb hr
  go_enter Try.func67, Try.ntmps67
  go_wp2_with (at_builtin; refine app_str rfl (.tmp 5) (.tmp 6) rfl (.slice Ao outp.length co) outp s rfl rfl HR.out hbase hl hP ?_; intro v1 w1 hp1 hg1; have HB1 := Aside0.mk (blk_grown HB.out hg1 HNE.out); have HR1 := Aside0.mk hp1; have HK1 := Aside0.mk ((Kp.refl (fun k => k = go ∨ some k = (Value.slice Ao outp.length co).ownBlock) w).grown hg1 (fun k e _ => .inr e.symm)); clear hp1 hg1; have d0 : w1.cell? ⟨go, 0, none⟩ = some (.slice Ao outp.length co) := (blk_cell HB1.out 0).trans rfl; have e0 := blk_frozen HB1.out 0; obtain ⟨A1, k1, hv1⟩ := Kd.R_slice HR1.out; rw [List.length_append, bytesOf_length] at hv1; subst hv1)
  go_end0
  exact ⟨rfl, _, blk_put HB1.out 0 _ rfl, Kd.R_set HR1.out HB1.out ne5_23 0 _, HK1.out.setCell (p := ⟨go, 0, none⟩) (.inl rfl) _⟩

set_option maxHeartbeats 4000000 in
set_option maxRecDepth 100000 in
theorem ap1_calls (w : World) (go gb base : Nat) (P : Nat → Prop) (vo : Value) (outp xs : List Int) (A : Option Addr) (N c : Nat) (n : Int) (m : Nat) (s : ByteArray)
    (hb : w.heap[go]? = some (.cells #[vo] 23 (0, 0))) (hbb : w.heap[gb]? = some (.cells #[.slice A N c] 23 (0, 0))) (hne : go ≠ gb) (hr : Kd.R (Kd.int .u8) 5 w base P vo outp) (hC : Kd.C (Kd.int .u8) w A N xs) (hbase : base ≤ w.heap.size) (hP : ∀ k, w.heap.size ≤ k → P k)
    (h0 : 0 ≤ n) (hn : n.toNat = m) (hm : m ≤ N) (hc : N ≤ c) (hl : outp.length + m ≤ 140737488355328) :
    Calls Try.prog 66 #[.int .i64 n, .string s, .pointer (some ⟨go, 0, none⟩), .pointer (some ⟨gb, 0, none⟩)] w fun e w' => e = .returned (.tuple #[]) ∧ w'.heap[gb]? = some (.cells #[.slice (cutA A c m) (N - m) (c - m)] 23 (0, 0)) ∧ ∃ v1, w'.heap[go]? = some (.cells #[v1] 23 (0, 0)) ∧ Kd.R (Kd.int .u8) 5 w' base P v1 (outp ++ xs.take m) ∧ Kp (fun k => k = gb ∨ k = go ∨ some k = vo.ownBlock) w w' := by
  obtain ⟨Ao, co, rfl⟩ := Kd.R_slice hr
  have HB := Aside0.mk hb
  have HBB := Aside0.mk hbb
  have HR := Aside0.mk hr
  have HNE := Aside0.mk (Kd.R_ne hr hb (by decide))
  have HNB := Aside0.mk (Kd.R_ne hr hbb (by decide))
  have HGG := Aside0.mk hne
  have HT := Aside0.mk (takeC hC hm)
  have HTL := Aside0.mk (show (xs.take m).length = m from Kd.C_len (takeC hC hm))
  have hct := cutTo (A := A) h0 hn hm hc
  have hcf := cutFrom (A := A) (N := N) (c := c) h0 hn hm
  generalize cutA A c m = A' at hcf ⊢
  have c0 : w.cell? ⟨go, 0, none⟩ = some (.slice Ao outp.length co) := (blk_cell hb 0).trans rfl
  have c1 : w.cell? ⟨gb, 0, none⟩ = some (.slice A N c) := (blk_cell hbb 0).trans rfl
  clear hb hbb hr hne hC hn
  go_enter Try.func66, Try.ntmps66
  try go_wp2
  refine start_ (n := 10) (S := fun w' => w'.cell? ⟨gb, 0, none⟩ = some (.slice A N c)) (ds := [9]) #[false, false, false, false, false, false, false, false, false, false] (by kernel_rfl) rfl rfl (c1) (fun hHeld => ?_)
  refine pure_ (i := 2) (N := some 8) (v := ?_) (a' := ?_) #[false, false, true, false, false, false, false, false, false, false] rfl rfl (by kernel_rfl) (fun _ _ _ h => h) (Or.inl ⟨by rfl, ?_⟩) ?_ ?_
  rotate_left
  · intro w'
    go_simp
    with_reducible rfl
  rotate_left
  · simp only [Act.put, List.setIfInBounds_toArray, List.set_cons_zero, List.set_cons_succ, i64_w, i32_w]
    rfl
  refine pure_ (i := 6) (N := some 12) (v := ?_) (a' := ?_) #[false, false, true, false, false, false, true, false, false, false] rfl rfl (by kernel_rfl) (fun _ _ _ h => h) (Or.inl ⟨by rfl, ?_⟩) ?_ ?_
  rotate_left
  · intro w'
    go_simp
    with_reducible rfl
  rotate_left
  · simp only [Act.put, List.setIfInBounds_toArray, List.set_cons_zero, List.set_cons_succ, i64_w, i32_w]
    rfl
  refine take_ (i := 1) (N := some 7) (v := ?_) (a' := ?_) #[false, true, true, false, false, false, true, false, false, false] rfl rfl (by kernel_rfl) (fun _ _ _ h => h) (Or.inl ⟨by rfl, ?_⟩) hHeld ?_ ?_
  rotate_left
  · intro w' s0
    go_simp
    with_reducible rfl
  rotate_left
  · simp only [Act.put, List.setIfInBounds_toArray, List.set_cons_zero, List.set_cons_succ, i64_w, i32_w]
    rfl
  refine pure_ (i := 3) (N := some 9) (v := ?_) (a' := ?_) #[false, true, true, true, false, false, true, false, false, false] rfl rfl (by kernel_rfl) (fun _ _ _ h => h) (Or.inl ⟨by rfl, ?_⟩) ?_ ?_
  rotate_left
  · intro w'
    go_simp
    with_reducible rfl
  rotate_left
  · simp only [Act.put, List.setIfInBounds_toArray, List.set_cons_zero, List.set_cons_succ, i64_w, i32_w]
    rfl
  refine take_ (i := 5) (N := some 11) (v := ?_) (a' := ?_) #[false, true, true, true, false, true, true, false, false, false] rfl rfl (by kernel_rfl) (fun _ _ _ h => h) (Or.inl ⟨by rfl, ?_⟩) hHeld ?_ ?_
  rotate_left
  · intro w' s0
    go_simp
    with_reducible rfl
  rotate_left
  · simp only [Act.put, List.setIfInBounds_toArray, List.set_cons_zero, List.set_cons_succ, i64_w, i32_w]
    rfl
  refine pure_ (i := 7) (N := some 13) (v := ?_) (a' := ?_) #[false, true, true, true, false, true, true, true, false, false] rfl rfl (by kernel_rfl) (fun _ _ _ h => h) (Or.inl ⟨by rfl, ?_⟩) ?_ ?_
  rotate_left
  · intro w'
    go_simp
    with_reducible rfl
  rotate_left
  · simp only [Act.put, List.setIfInBounds_toArray, List.set_cons_zero, List.set_cons_succ, i64_w, i32_w]
    rfl
  refine one_ (i := 0) (N := some 6) #[true, true, true, true, false, true, true, true, false, false] rfl rfl (by kernel_rfl) (by decide) (fun K hK => ?_)
  refine value_ (w1 := ?_) (v := ?_) (by rfl) rfl ?_ ?_
  rotate_left 2
  · go_simp
    constructor
    · rfl
    · rfl
  refine hK.out _ _ (c1) (fun hHeld => ?_)
  clear hK K
  refine norm_ (a' := ?_) ?_ ?_
  rotate_left
  · show Act.put _ (some 6) _ = _
    simp only [Act.put, List.setIfInBounds_toArray, List.set_cons_zero, List.set_cons_succ, i64_w, i32_w]
    rfl
  refine one_ (i := 4) (N := some 10) #[true, true, true, true, true, true, true, true, false, false] rfl rfl (by kernel_rfl) (by decide) (fun K hK => ?_)
  refine Kd.R_append_rows_step (Kd.int .u8) (w0 := w) (W := w.drew) (Rr := (Kd.int .u8).K w.drew) base (by rfl) (.tmp 6) (.tmp 9) 23 5 (.int .u8 0) 1 (by rfl) Try.underlying23 info5 (by rfl) (by decide) (by omega) (.slice Ao outp.length co) outp (xs.take m) A m c P (fun _ => False) (by rfl) (by rfl) (Kd.R_drew HR.out) (Kd.C_drew HT.out) (fun _ _ h => h) (fun _ h => h.elim) hP ((Below.refl _ _).drew) hbase (by omega) ?_
  intro v1 w1 ho1 hb1 hg1 hat1
  have HB1 := Aside0.mk (blk_grown (w := w.drew) HB.out hg1 HNE.out)
  have HBB1 := Aside0.mk (blk_grown (w := w.drew) HBB.out hg1 HNB.out)
  have HR1 := Aside0.mk ho1
  have HK1 := Aside0.mk (((Kp.refl (fun k => k = gb ∨ k = go ∨ some k = (Value.slice Ao outp.length co).ownBlock) w).drew).grown hg1 (fun k e _ => .inr (.inr e.symm)))
  clear ho1 hb1 hg1 hat1
  have d0 : w1.cell? ⟨go, 0, none⟩ = some (.slice Ao outp.length co) := (blk_cell HB1.out 0).trans rfl
  have d1 : w1.cell? ⟨gb, 0, none⟩ = some (.slice A N c) := (blk_cell HBB1.out 0).trans rfl
  have e0 := blk_frozen HB1.out 0
  have e1 := blk_frozen HBB1.out 0
  obtain ⟨A1, k1, hv1⟩ := Kd.R_slice HR1.out
  rw [List.length_append, HTL.out] at hv1
  subst hv1
  refine hK.out _ _ (d1) (fun hHeld => ?_)
  clear hK K
  refine norm_ (a' := ?_) ?_ ?_
  rotate_left
  · show Act.put _ (some 10) _ = _
    simp only [Act.put, List.setIfInBounds_toArray, List.set_cons_zero, List.set_cons_succ, i64_w, i32_w]
    rfl
  refine one_ (i := 8) (N := none) #[true, true, true, true, true, true, true, true, true, false] rfl rfl (by kernel_rfl) (by decide) (fun K hK => ?_)
  have HBB2 := Aside0.mk (blk_far HBB1.out (p := ⟨go, 0, none⟩) (fun e => HGG.out e.symm) (.slice A1 (outp.length + m) k1))
  have HB2 := Aside0.mk (blk_put HB1.out 0 (.slice A1 (outp.length + m) k1) rfl)
  have HR2 := Aside0.mk (Kd.R_set HR1.out HB1.out ne5_23 0 (.slice A1 (outp.length + m) k1))
  have HK2 := Aside0.mk (HK1.out.setCell (p := ⟨go, 0, none⟩) (.inr (.inl rfl)) (.slice A1 (outp.length + m) k1))
  have d3 : (w1.setCell ⟨go, 0, none⟩ (.slice A1 (outp.length + m) k1)).cell? ⟨gb, 0, none⟩ = some (.slice A N c) := (blk_cell HBB2.out 0).trans rfl
  have e3 := blk_frozen HBB2.out 0
  refine skip_ (w1 := ?_) (by rfl) rfl ?_ ?_
  rotate_left
  · go_simp
    rfl
  refine hK.out _ _ (d3) (fun hHeld => ?_)
  clear hK K
  refine last_ (i := 9) (N := none) #[true, true, true, true, true, true, true, true, true, true] rfl rfl (by kernel_rfl) (by decide) (fun K hK => ?_)
  refine skip_ (w1 := ?_) (by rfl) rfl ?_ ?_
  rotate_left
  · go_simp
    rfl
  refine hK.out _ _ ?_
  clear hK K
  refine done_ (by kernel_rfl) ?_
  go_end0
  refine ⟨rfl, blk_put HBB2.out 0 _ rfl, _, blk_far HB2.out (p := ⟨gb, 0, none⟩) HGG.out _, Kd.R_set HR2.out HBB2.out ne5_23 0 _, HK2.out.setCell (p := ⟨gb, 0, none⟩) (.inl rfl) _⟩

end Go.Proofs.Ytidihnnkcmeaeaa.A
