/- The builder's onPut, onDrop and done: what each does to the builder. No condition but room for what grows. -/
import Derived.Test.YtidihnnkcmeaeaaG
namespace Go.Proofs.Ytidihnnkcmeaeaa.A
open Go.RowKit Go.Proofs.YtidihnnkcmeaeaaW.PrintWords Go.Proofs.YtidihnnkcmeaeaaW.PrintLast Go.Proofs.YtidihnnkcmeaeaaW.PrintMore
set_option linter.unusedVariables false
set_option linter.unusedSimpArgs false
theorem app_str_run {W : World} {base : Nat} {v : Value} {xs : List Int} {pr : Nat → Prop} (ty : TypeId) (y : ByteArray) (HO : Kd.R (Kd.int .u8) 5 W base pr v xs) (hbase : base ≤ W.heap.size) (hl : xs.length + y.size ≤ 140737488355328) (hfresh : ∀ k, W.heap.size ≤ k → pr k) :
  ∃ v1 w1, (Builtin.append_ #[23, 9] ty #[v, .string y]).run Try.prog W = .ok v1 w1 ∧ Kd.R (Kd.int .u8) 5 w1 base pr v1 (xs ++ bytesOf y) ∧ W.grownBy w1 v.ownBlock := by
 obtain ⟨i0, hi, hz0, hz1, hz2⟩ := info_parts info5
 have hown := Kd.own_of_R HO
 have hxl : (encs (Value.int .u8) xs).length = xs.length := encs_length _
 obtain ⟨v1, w1, hr, ho1, hg1, hn1⟩ := Lib.run_append_own_string (P := Try.prog) W base 23 9 ty 5 i0 Try.underlying23 Try.underlying9 hi hz0 hz1 hz2 v xs.length (encs (Value.int .u8) xs) hown y (by simp only [maxLen]; omega) hl hbase
 have hc : encs (Value.int .u8) xs ++ Lib.strCells y = encs (Value.int .u8) (xs ++ bytesOf y) := by
  simp [encs, bytesOf, Lib.strCells]
 have hl2 : (xs ++ bytesOf y).length = xs.length + y.size := by rw [List.length_append, bytesOf_length]
 refine ⟨v1, w1, hr, ?_, hg1⟩
 rw [hc, ← hl2] at ho1
 refine Kd.R_of_own ho1 (fun k hk => ?_)
 rcases hown.2 with ⟨hv, hx0⟩ | ⟨g, cap, cur, hv, hbg, hg, hnc, hcm, hcs, htake⟩
 ·
  by_cases hm : y.size = 0
  ·
   rw [hn1.2 ⟨hv, hm⟩] at hk
   simp [Value.ownBlock] at hk
  ·
   have hx : xs = [] := List.eq_nil_of_length_eq_zero hx0
   subst hv
   have hr2 := run_append_nil_string (P := Try.prog) W 23 9 ty 5 i0 (.int .u8 0) Try.underlying23 Try.underlying9 hi hz0 y (by omega) (by omega) (by rw [hz2]; omega)
   rw [hr2] at hr
   injection hr with hv1 _
   rw [← hv1] at hk
   have : W.heap.size = k := by simpa [Value.ownBlock] using hk
   exact hfresh k (by omega)
 ·
  subst hv
  have hcs' : cur.size = cap := by simpa using hcs
  by_cases hroom : xs.length + y.size ≤ cap
  ·
   have hr2 := Lib.run_append_room_string (P := Try.prog) W 23 9 ty 5 i0 Try.underlying23 Try.underlying9 hi hz1 g xs.length cap cur hg y hroom (by omega)
   rw [hr2] at hr
   injection hr with hv1 _
   rw [← hv1] at hk
   exact HO.1 k (by simpa [Value.ownBlock] using hk)
  ·
   have holds : ∀ j u, (encs (Value.int .u8) xs)[j]? = some u → W.cell? ((⟨g, 0, none⟩ : Addr).add j) = some u := hown.cells (g := g) rfl
   have hr2 := Lib.run_append_grow_string (P := Try.prog) W 23 9 ty 5 i0 (.int .u8 0) Try.underlying23 Try.underlying9 hi hz0 ⟨g, 0, none⟩ xs.length cap (encs (Value.int .u8) xs) (by rw [hz1, hxl, Nat.mul_one]) holds y (by omega) (by omega) (by rw [hz2]; exact growslice_fits (by omega) (by omega))
   rw [hr2] at hr
   injection hr with hv1 _
   rw [← hv1] at hk
   have : W.heap.size = k := by simpa [Value.ownBlock] using hk
   exact hfresh k (by omega)
theorem app_str {ops : Array Oper} {rest : List Oper} {o : Oper} {a : Act} {Q : Exit → Act → World → Prop} {W : World} {base : Nat} {pr : Nat → Prop} (hgd : o.guard = none) (s x : Operand)
  (ho : o.op = .call { callee := .builtin .append, args := #[s, x], argTypes := #[23, 9] }) (v : Value) (xs : List Int) (y : ByteArray) (hs : a.eval s = v) (hx : a.eval x = .string y)
  (HO : Kd.R (Kd.int .u8) 5 W base pr v xs) (hbase : base ≤ W.heap.size) (hl : xs.length + y.size ≤ 140737488355328) (hfresh : ∀ k, W.heap.size ≤ k → pr k)
  (h : ∀ v1 w1, Kd.R (Kd.int .u8) 5 w1 base pr v1 (xs ++ bytesOf y) → W.grownBy w1 v.ownBlock → wpList Try.prog ops Q rest (a.put o.dst v1) w1) : wpList Try.prog ops Q (o :: rest) a W := by
 refine wpList_plain hgd fun K hK => ?_
 obtain ⟨v1, w1, hr, h2, h3⟩ := app_str_run o.type y HO hbase hl hfresh
 unfold Oper.wp execOp
 simp only [ho, resolve, invoke, builtin, Sem.run_bind, Sem.run_pure, Result.andThen_ok, List.map_toArray, List.map_cons, List.map_nil, hs, hx, hr]
 exact hK _ _ (h v1 w1 h2 h3)
theorem toList_nil {s : ByteArray} (h : s.size = 0) : s.toList = [] := by
 have : s = ByteArray.empty := by
  apply ByteArray.ext
  exact Array.eq_empty_of_size_eq_zero h
 subst this
 rw [ByteArray.toList_eq]
 rfl
theorem toList_ne {s : ByteArray} (h : ¬ s.size = 0) : ¬ s.toList = [] := by
 intro h1
 rw [ByteArray.toList_eq] at h1
 exact h (by have := congrArg List.length h1; simpa using this)
set_option maxHeartbeats 4000000 in
set_option maxRecDepth 100000 in
theorem onPut_calls (w : World) (base g : Nat) (P : Nat → Prop) (b : Bs) (m : Int) (s : ByteArray) (hb : IsB w base P g b) (hbase : base ≤ w.heap.size) (hP : ∀ k, w.heap.size ≤ k → P k) (hl : b.put.size + s.size ≤ 140737488355328) :
  Calls Try.prog 75 #[.pointer (some ⟨g, 0, none⟩), .int .i64 m, .string s] w fun e w' => e = .returned (.tuple #[]) ∧ IsB w' base P g (b.onPut s) ∧ Kp P w w' := by
 obtain ⟨hg, vo, vp, hblk, ho, hp⟩ := hb
 by_cases h1 : s.size = 0
 ·
  have h1l := toList_nil h1
  have h1b : s.toList.isEmpty = true := by rw [h1l]; rfl
  have h1c : (s.toList != []) = false := by rw [h1l]; rfl
  have hfin := Aside0.mk (show IsB w base P g (b.onPut s) by rw [show b.onPut s = b from by simp [Bs.onPut, h1]]; exact ⟨hg, vo, vp, hblk, ho, hp⟩)
  clear hblk ho hp h1 h1l
  go_enter Try.func75, Try.ntmps75
  go_wp2
  go_end0
  exact ⟨rfl, hfin.out, Kp.refl _ _⟩
 ·
  obtain ⟨Ap, cp, rfl⟩ := Kd.R_slice hp
  have h1l := toList_ne h1
  have h1b : s.toList.isEmpty = false := by simpa using h1l
  have h1c : (s.toList != []) = true := by simpa using h1l
  have hfin := Aside0.mk (show b.onPut s = ⟨b.out, 2, b.put ++ s, b.drop⟩ by simp [Bs.onPut, h1])
  have HBLK := Aside0.mk hblk
  have HO := Aside0.mk ho
  have HP := Aside0.mk hp
  have HG := Aside0.mk hg
  have HNE := Aside0.mk (Kd.R_ne hp hblk (by decide))
  have HLL := Aside0.mk (show (bytesOf b.put).length + s.size ≤ 140737488355328 by rw [bytesOf_length]; exact hl)
  clear hblk ho hp h1 h1l hg
  have c2 : w.cell? ⟨g, 2, none⟩ = some (.slice Ap (bytesOf b.put).length cp) := (blk_cell HBLK.out 2).trans rfl
  go_enter Try.func75, Try.ntmps75
  go_wp2_with (at_builtin; refine app_str rfl (.tmp 13) (.tmp 14) rfl (.slice Ap (bytesOf b.put).length cp) (bytesOf b.put) s rfl rfl HP.out hbase HLL.out hP ?_; intro v1 w1 hp1 hg1; have HB1 := Aside0.mk (blk_grown HBLK.out hg1 HNE.out); have HP1 := Aside0.mk hp1; have HO1 := Aside0.mk (Kd.R_over HO.out HP.out ne70_5 hg1); have HK1 := Aside0.mk ((Kp.refl P w).grown hg1 (fun k e _ => HP.out.1 k e)); clear hp1 hg1; have d2 : w1.cell? ⟨g, 2, none⟩ = some (.slice Ap (bytesOf b.put).length cp) := (blk_cell HB1.out 2).trans rfl; have e2 := blk_frozen HB1.out 2; have d1 : w1.cell? ⟨g, 1, none⟩ = some (.int .i64 b.last) := (blk_cell HB1.out 1).trans rfl; have e1 := blk_frozen HB1.out 1; obtain ⟨A1, k1, hv1⟩ := Kd.R_slice HP1.out; rw [List.length_append, bytesOf_length, bytesOf_length] at hv1; subst hv1)
  go_end0
  refine ⟨rfl, ?_, (HK1.out.setCell (p := ⟨g, 2, none⟩) HG.out _).setCell (p := ⟨g, 1, none⟩) HG.out _⟩
  rw [hfin.out]
  refine ⟨HG.out, _, _, blk_put (blk_put HB1.out 2 (.slice A1 (b.put.size + s.size) k1) rfl) 1 (.int .i64 2) rfl, ?_, ?_⟩
  ·
   exact Kd.R_set (Kd.R_set HO1.out HB1.out ne70_99 2 _) (blk_put HB1.out 2 (.slice A1 (b.put.size + s.size) k1) rfl) ne70_99 1 _
  ·
   rw [show bytesOf (b.put ++ s) = bytesOf b.put ++ bytesOf s by simp [bytesOf]]
   exact Kd.R_set (Kd.R_set HP1.out HB1.out ne5_99 2 _) (blk_put HB1.out 2 (.slice A1 (b.put.size + s.size) k1) rfl) ne5_99 1 _
set_option maxHeartbeats 4000000 in
set_option maxRecDepth 100000 in
theorem onDrop_calls (w : World) (base g : Nat) (P : Nat → Prop) (b : Bs) (n : Int) (s : ByteArray) (hb : IsB w base P g b) (h0 : 0 ≤ b.drop) (h1 : b.drop ≤ 1000000000000) (h2 : n ≤ 1000000000000) (h3 : -1000000000000 ≤ n) :
  Calls Try.prog 73 #[.pointer (some ⟨g, 0, none⟩), .int .i64 n, .string s] w fun e w' => e = .returned (.tuple #[]) ∧ IsB w' base P g (b.onDrop n) ∧ Kp P w w' := by
 obtain ⟨hg, vo, vp, hblk, ho, hp⟩ := hb
 by_cases hn : 0 < n
 ·
  have hfin := Aside0.mk (show b.onDrop n = ⟨b.out, 2, b.put, b.drop + n⟩ by simp [Bs.onDrop, hn])
  have HBLK := Aside0.mk hblk
  have HO := Aside0.mk ho
  have HP := Aside0.mk hp
  have HG := Aside0.mk hg
  clear hblk ho hp hg
  have c3 : w.cell? ⟨g, 3, none⟩ = some (.int .i64 b.drop) := (blk_cell HBLK.out 3).trans rfl
  have c1 : w.cell? ⟨g, 1, none⟩ = some (.int .i64 b.last) := (blk_cell HBLK.out 1).trans rfl
  have f1 := blk_frozen HBLK.out 1
  have f3 := blk_frozen HBLK.out 3
  go_enter Try.func73, Try.ntmps73
  go_wp2
  go_end0
  refine ⟨rfl, ?_, ((Kp.refl P w).setCell (p := ⟨g, 3, none⟩) HG.out _).setCell (p := ⟨g, 1, none⟩) HG.out _⟩
  rw [hfin.out]
  refine ⟨HG.out, _, _, blk_put (blk_put HBLK.out 3 (.int .i64 (b.drop + n)) rfl) 1 (.int .i64 2) rfl, ?_, ?_⟩
  ·
   exact Kd.R_set (Kd.R_set HO.out HBLK.out ne70_99 3 _) (blk_put HBLK.out 3 (.int .i64 (b.drop + n)) rfl) ne70_99 1 _
  ·
   exact Kd.R_set (Kd.R_set HP.out HBLK.out ne5_99 3 _) (blk_put HBLK.out 3 (.int .i64 (b.drop + n)) rfl) ne5_99 1 _
 ·
  have hfin := Aside0.mk (show IsB w base P g (b.onDrop n) by rw [show b.onDrop n = b from by simp [Bs.onDrop, hn]]; exact ⟨hg, vo, vp, hblk, ho, hp⟩)
  clear hblk ho hp
  go_enter Try.func73, Try.ntmps73
  go_wp2
  go_end0
  exact ⟨rfl, hfin.out, Kp.refl _ _⟩
set_option maxHeartbeats 4000000 in
set_option maxRecDepth 100000 in
theorem done_calls (w : World) (base g : Nat) (P : Nat → Prop) (b : Bs) (hb : IsB w base P g b) (hbase : base ≤ w.heap.size) (hP : ∀ k, w.heap.size ≤ k → P k) (hl : b.out.length ≤ 4000000000000) :
  Calls Try.prog 76 #[.pointer (some ⟨g, 0, none⟩)] w fun e w' => ∃ v, e = .returned v ∧ Kd.R k70 70 w' base P v b.done ∧ Kp P w w' := by
 go_enter Try.func76, Try.ntmps76
 go_wp2_with (go_at_call 97; refine (flush_calls _ base g P b hb hbase hP hl).mono ?_; rintro e w1 ⟨rfl, hb1, hk1⟩; obtain ⟨hg, vo, vp, hblk, ho, hp⟩ := hb1; have HBLK := Aside0.mk hblk; have HO := Aside0.mk ho; have HK := Aside0.mk hk1; clear hblk ho hp hk1; have c0 : w1.cell? ⟨g, 0, none⟩ = some vo := (blk_cell HBLK.out 0).trans rfl)
 go_ret
 exact ⟨_, rfl, HO.out, HK.out⟩
end Go.Proofs.Ytidihnnkcmeaeaa.A
