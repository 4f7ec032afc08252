/- delta.Invert's three closures: what each does to the builder and to the bytes that are left. No condition but bounds on the builder. -/
import Derived.Test.YtidihnnkcmeaeaaN
namespace Go.Proofs.Ytidihnnkcmeaeaa.A
open Go.RowKit Go.Proofs.YtidihnnkcmeaeaaW.PrintWords Go.Proofs.YtidihnnkcmeaeaaW.PrintLast Go.Proofs.YtidihnnkcmeaeaaW.PrintMore
set_option linter.unusedVariables false
set_option linter.unusedSimpArgs false

/-- a builder is not touched by what is written elsewhere -/
theorem IsB.kp {w w' : World} {base : Nat} {P P' : Nat → Prop} {g : Nat} {b : Bs} (h : IsB w base P g b) (hk : Kp P' w w') (hn : ∀ k, P k → ¬ P' k) : IsB w' base P g b := by
  obtain ⟨hg, vo, vp, h1, h2, h3⟩ := h
  exact ⟨hg, vo, vp, hk.blk h1 (hn g hg), hk.row h2 hn, hk.row h3 hn⟩
theorem IsB.drew {w : World} {base : Nat} {P : Nat → Prop} {g : Nat} {b : Bs} (h : IsB w base P g b) : IsB w.drew base P g b := h.below ((Below.refl _ _).drew)

set_option maxHeartbeats 4000000 in
theorem inv2_calls (w : World) (gp g base : Nat) (P : Nat → Prop) (b : Bs) (m : Int) (s : ByteArray) (hp : w.heap[gp]? = some (.cells #[.pointer (some ⟨g, 0, none⟩)] 97 (0, 0))) (hb : IsB w base P g b) (h0 : 0 ≤ b.drop) (h1 : b.drop ≤ 1000000000000) (h2 : s.size ≤ 1000000000000) :
    Calls Try.prog 72 #[.int .i64 m, .string s, .pointer (some ⟨gp, 0, none⟩)] w fun e w' => e = .returned (.tuple #[]) ∧ IsB w' base P g (b.onDrop (s.size : Int)) ∧ Kp P w w' := by
  have HB := Aside0.mk hb
  have c0 : w.cell? ⟨gp, 0, none⟩ = some (.pointer (some ⟨g, 0, none⟩)) := (blk_cell hp 0).trans rfl
  clear hb hp
  go_enter Try.func72, Try.ntmps72
  go_wp2_with (go_at_call 73; refine (onDrop_calls _ base g P b (s.size : Int) _ HB.out h0 h1 (by omega) (by omega)).mono ?_; rintro e w1 ⟨rfl, hb1, hk1⟩; have HB1 := Aside0.mk hb1; have HK1 := Aside0.mk hk1; clear hb1 hk1)
  go_end0
  exact ⟨rfl, HB1.out, HK1.out⟩

set_option maxHeartbeats 4000000 in
theorem inv1_calls (w : World) (gp gb g base : Nat) (P : Nat → Prop) (b : Bs) (A : Option Addr) (N c : Nat) (n : Int) (m : Nat) (s : ByteArray) (hp : w.heap[gp]? = some (.cells #[.pointer (some ⟨g, 0, none⟩)] 97 (0, 0))) (hbb : w.heap[gb]? = some (.cells #[.slice A N c] 23 (0, 0))) (hb : IsB w base P g b) (hPb : ¬ P gb) (hbase : base ≤ w.heap.size) (hPf : ∀ k, w.heap.size ≤ k → P k) (hl : b.out.length ≤ 3000000000000)
    (hk : b.last = 1 → b.out ≠ [] ∧ -1000000000000 ≤ (rd_T70 b.out ((b.out.length - 1 : Nat) : Int)).f1 ∧ (rd_T70 b.out ((b.out.length - 1 : Nat) : Int)).f1 ≤ 1000000000000) (h2 : n ≤ 1000000000000) (h0 : 0 ≤ n) (hn : n.toNat = m) (hm : m ≤ N) :
    Calls Try.prog 70 #[.int .i64 n, .string s, .pointer (some ⟨gp, 0, none⟩), .pointer (some ⟨gb, 0, none⟩)] w fun e w' => e = .returned (.tuple #[]) ∧ IsB w' base P g (b.onKeep n) ∧ w'.heap[gb]? = some (.cells #[.slice (cutA A c m) (N - m) (c - m)] 23 (0, 0)) ∧ Kp (fun k => P k ∨ k = gb) w w' := by
  have HB := Aside0.mk hb
  have HBB := Aside0.mk hbb
  have HK := Aside0.mk hk
  have HPB := Aside0.mk hPb
  have hcf := cutFrom (A := A) (N := N) (c := c) h0 hn hm
  generalize cutA A c m = A' at hcf ⊢
  have c0 : w.cell? ⟨gp, 0, none⟩ = some (.pointer (some ⟨g, 0, none⟩)) := (blk_cell hp 0).trans rfl
  clear hb hbb hp hk hPb hn
  go_enter Try.func70, Try.ntmps70
  go_wp2_with (go_at_call 71; refine (onKeep_calls _ base g P b n _ HB.out hbase hPf hl HK.out h2 (by omega)).mono ?_; rintro e w1 ⟨rfl, hb1, hk1⟩; have HB1 := Aside0.mk hb1; have HK1 := Aside0.mk hk1; have HBB1 := Aside0.mk (hk1.blk HBB.out HPB.out); clear hb1 hk1; have d0 : w1.cell? ⟨gb, 0, none⟩ = some (.slice A N c) := (blk_cell HBB1.out 0).trans rfl; have e0 := blk_frozen HBB1.out 0)
  go_end0
  refine ⟨rfl, HB1.out.kp (P' := fun k => k = gb) ((Kp.refl (fun k => k = gb) _).setCell (p := ⟨gb, 0, none⟩) rfl _) (fun k hk e => HPB.out (e ▸ hk)), blk_put HBB1.out 0 _ rfl, (HK1.out.mono (fun _ h => .inl h)).setCell (p := ⟨gb, 0, none⟩) (.inr rfl) _⟩

set_option maxHeartbeats 4000000 in
set_option maxRecDepth 100000 in
theorem inv3_calls (w : World) (gp gb g base : Nat) (P : Nat → Prop) (b : Bs) (xs : List Int) (A : Option Addr) (N c : Nat) (n : Int) (m : Nat) (s : ByteArray) (hp : w.heap[gp]? = some (.cells #[.pointer (some ⟨g, 0, none⟩)] 97 (0, 0))) (hbb : w.heap[gb]? = some (.cells #[.slice A N c] 23 (0, 0))) (hb : IsB w base P g b) (hC : Kd.C (Kd.int .u8) w A N xs) (hPb : ¬ P gb) (hbase : base ≤ w.heap.size) (hPf : ∀ k, w.heap.size ≤ k → P k)
    (hl : b.put.size + (strOfNums (xs.take m)).size ≤ 140737488355328) (h0 : 0 ≤ n) (hn : n.toNat = m) (hm : m ≤ N) (hc : N ≤ c) :
    Calls Try.prog 74 #[.int .i64 n, .string s, .pointer (some ⟨gp, 0, none⟩), .pointer (some ⟨gb, 0, none⟩)] w fun e w' => e = .returned (.tuple #[]) ∧ IsB w' base P g (b.onPut (strOfNums (xs.take m))) ∧ w'.heap[gb]? = some (.cells #[.slice (cutA A c m) (N - m) (c - m)] 23 (0, 0)) ∧ Kp (fun k => P k ∨ k = gb) w w' := by
  have HB := Aside0.mk hb
  have HBB := Aside0.mk hbb
  have HPB := Aside0.mk hPb
  have hcf := cutFrom (A := A) (N := N) (c := c) h0 hn hm
  have hct := cutTo (A := A) h0 hn hm hc
  have HCV := Aside0.mk (Kd.C_string (P := Try.prog) (A := A) (c := c) Try.underlying23 Try.underlying5 Try.underlying9 (Kd.C_drew (takeC hC hm)))
  generalize cutA A c m = A' at hcf ⊢
  have c0 : w.cell? ⟨gp, 0, none⟩ = some (.pointer (some ⟨g, 0, none⟩)) := (blk_cell hp 0).trans rfl
  have c1 : w.cell? ⟨gb, 0, none⟩ = some (.slice A N c) := (blk_cell hbb 0).trans rfl
  have hbase' : base ≤ w.drew.heap.size := hbase
  have hPf' : ∀ k, w.drew.heap.size ≤ k → P k := hPf
  clear hb hbb hp hPb hn hC
  go_enter Try.func74, Try.ntmps74
  try go_wp2
  refine start_ (n := 6) (S := fun w' => w'.cell? ⟨gp, 0, none⟩ = some (.pointer (some ⟨g, 0, none⟩)) ∧ w'.cell? ⟨gb, 0, none⟩ = some (.slice A N c) ∧ (convert 23 9 (.slice A m c)).run Try.prog w' = .ok (.string (strOfNums (xs.take m))) w') (ds := [5]) #[false, false, false, false, false, false] (by kernel_rfl) rfl rfl ⟨c0, c1, HCV.out⟩ (fun hHeld => ?_)
  refine pure_ (i := 2) (N := some 8) (v := ?_) (a' := ?_) #[false, false, true, false, false, false] rfl rfl (by kernel_rfl) (fun _ _ _ h => h) (Or.inl ⟨by rfl, ?_⟩) ?_ ?_
  rotate_left
  · intro w'
    go_simp
    with_reducible rfl
  rotate_left
  · simp only [Act.put, List.setIfInBounds_toArray, List.set_cons_zero, List.set_cons_succ, i64_w, i32_w]
    rfl
  refine take_ (i := 0) (N := some 6) (v := ?_) (a' := ?_) #[true, false, true, false, false, false] rfl rfl (by kernel_rfl) (fun _ _ _ h => h) (Or.inl ⟨by rfl, ?_⟩) hHeld ?_ ?_
  rotate_left
  · rintro w' ⟨s0, s1, s2⟩
    go_simp
    with_reducible rfl
  rotate_left
  · simp only [Act.put, List.setIfInBounds_toArray, List.set_cons_zero, List.set_cons_succ, i64_w, i32_w]
    rfl
  refine take_ (i := 1) (N := some 7) (v := ?_) (a' := ?_) #[true, true, true, false, false, false] rfl rfl (by kernel_rfl) (fun _ _ _ h => h) (Or.inl ⟨by rfl, ?_⟩) hHeld ?_ ?_
  rotate_left
  · rintro w' ⟨s0, s1, s2⟩
    go_simp
    with_reducible rfl
  rotate_left
  · simp only [Act.put, List.setIfInBounds_toArray, List.set_cons_zero, List.set_cons_succ, i64_w, i32_w]
    rfl
  refine pure_ (i := 3) (N := some 9) (v := ?_) (a' := ?_) #[true, true, true, true, false, false] rfl rfl (by kernel_rfl) (fun _ _ _ h => h) (Or.inl ⟨by rfl, ?_⟩) ?_ ?_
  rotate_left
  · intro w'
    go_simp
    with_reducible rfl
  rotate_left
  · simp only [Act.put, List.setIfInBounds_toArray, List.set_cons_zero, List.set_cons_succ, i64_w, i32_w]
    rfl
  refine take_ (i := 4) (N := some 10) (v := ?_) (a' := ?_) #[true, true, true, true, true, false] rfl rfl (by kernel_rfl) (fun _ _ _ h => h) (Or.inl ⟨by rfl, ?_⟩) hHeld ?_ ?_
  rotate_left
  · rintro w' ⟨s0, s1, s2⟩
    go_simp
    with_reducible rfl
  rotate_left
  · simp only [Act.put, List.setIfInBounds_toArray, List.set_cons_zero, List.set_cons_succ, i64_w, i32_w]
    rfl
  refine last_ (i := 5) (N := some 11) #[true, true, true, true, true, true] rfl rfl (by kernel_rfl) (by decide) (fun K hK => ?_)
  refine goes_ Try.func75 (by kernel_rfl) rfl #[.pointer (some ⟨g, 0, none⟩), .int .i64 0, .string (strOfNums (xs.take m))] (by rfl) rfl rfl (by simp only [List.map_toArray, List.map_cons, List.map_nil]; rfl) ?_
  with_reducible refine (onPut_calls _ base g P b 0 (strOfNums (xs.take m)) HB.out.drew hbase' hPf' hl).mono ?_
  rintro e w1 ⟨rfl, hb1, hk1⟩
  refine ⟨_, rfl, ?_⟩
  have HB1 := Aside0.mk hb1
  have HK1 := Aside0.mk (((Kp.refl P w).drew).trans hk1 (fun _ h _ => h))
  have HBB1 := Aside0.mk (HK1.out.blk HBB.out HPB.out)
  clear hb1 hk1
  have d0 : w1.cell? ⟨gb, 0, none⟩ = some (.slice A N c) := (blk_cell HBB1.out 0).trans rfl
  have e0 := blk_frozen HBB1.out 0
  refine hK.out _ _ ?_
  clear hK K
  refine norm_ (a' := ?_) ?_ ?_
  rotate_left
  · show Act.put _ (some 11) _ = _
    simp only [Act.put, List.setIfInBounds_toArray, List.set_cons_zero, List.set_cons_succ, i64_w, i32_w]
    rfl
  refine done_ (by kernel_rfl) ?_
  go_wp2
  go_end0
  refine ⟨rfl, HB1.out.kp (P' := fun k => k = gb) ((Kp.refl (fun k => k = gb) _).setCell (p := ⟨gb, 0, none⟩) rfl _) (fun k hk e => HPB.out (e ▸ hk)), blk_put HBB1.out 0 _ rfl, (HK1.out.mono (fun _ h => .inl h)).setCell (p := ⟨gb, 0, none⟩) (.inr rfl) _⟩

end Go.Proofs.Ytidihnnkcmeaeaa.A
