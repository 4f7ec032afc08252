/- delta.Changes' closures: what each does to the list of changes, to the place and to whether the last change is open. No condition but room for what grows. -/
import Derived.Test.YtidihnnkcmeaeaaMG2
namespace Go.Proofs.Ytidihnnkcmeaeaa.A
open Go.RowKit Go.Proofs.YtidihnnkcmeaeaaW.PrintWords Go.Proofs.YtidihnnkcmeaeaaW.PrintLast Go.Proofs.YtidihnnkcmeaeaaW.PrintMore
set_option linter.unusedVariables false
set_option linter.unusedSimpArgs false
theorem ne91_3 : ∀ q, q ∈ 91 :: k91.E → q ≠ 3 := by intro q h; rw [E91] at h; simp at h; omega
theorem ne91_4 : ∀ q, q ∈ 91 :: k91.E → q ≠ 4 := by intro q h; rw [E91] at h; simp at h; omega
theorem info91' : (Try.prog.info? 91).map (fun i => (i.zero, i.size, i.bytes)) = some (some (.agg #[.int .i64 0, .int .i64 0, .string ⟨#[]⟩]), k91.sz, 32) := info91
structure IsC (w : World) (base : Nat) (P : Nat → Prop) (go ga gq : Nat) (vo : Value) (out : List S91) (x : Int) (op : Bool) : Prop where
 o : P go
 a : P ga
 q : P gq
 bo : w.heap[go]? = some (.cells #[vo] 40 (0, 0))
 row : Kd.R k91 91 w base P vo out
 ba : w.heap[ga]? = some (.cells #[.int .i64 x] 3 (0, 0))
 bq : w.heap[gq]? = some (.cells #[.bool op] 4 (0, 0))
theorem IsC.below {w w' : World} {base : Nat} {P : Nat → Prop} {go ga gq : Nat} {vo : Value} {out : List S91} {x : Int} {op : Bool} (h : IsC w base P go ga gq vo out x op) (hb : Below w.heap.size w w') : IsC w' base P go ga gq vo out x op :=
 ⟨h.o, h.a, h.q, blk_below h.bo hb, Kd.R_below h.row hb, blk_below h.ba hb, blk_below h.bq hb⟩
theorem blk_ty {w : World} {g g' : Nat} {c c' : Array Value} {t t' : TypeId} (h : w.heap[g]? = some (.cells c t (0, 0))) (h' : w.heap[g']? = some (.cells c' t' (0, 0))) (hne : t ≠ t') : g ≠ g' := by
 intro e
 subst e
 rw [h] at h'
 simp only [Option.some.injEq, Obj.cells.injEq] at h'
 exact hne h'.2.1
theorem IsC.oa {w : World} {base : Nat} {P : Nat → Prop} {go ga gq : Nat} {vo : Value} {out : List S91} {x : Int} {op : Bool} (h : IsC w base P go ga gq vo out x op) : go ≠ ga ∧ go ≠ gq ∧ ga ≠ gq :=
 ⟨blk_ty h.bo h.ba (by decide), blk_ty h.bo h.bq (by decide), blk_ty h.ba h.bq (by decide)⟩
theorem IsC.ne {w : World} {base : Nat} {P : Nat → Prop} {go ga gq : Nat} {vo : Value} {out : List S91} {x : Int} {op : Bool} (h : IsC w base P go ga gq vo out x op) : some go ≠ vo.ownBlock ∧ some ga ≠ vo.ownBlock ∧ some gq ≠ vo.ownBlock :=
 ⟨Kd.R_ne h.row h.bo (by decide), Kd.R_ne h.row h.ba (by decide), Kd.R_ne h.row h.bq (by decide)⟩
theorem IsC.setA {w : World} {base : Nat} {P : Nat → Prop} {go ga gq : Nat} {vo : Value} {out : List S91} {x : Int} {op : Bool} (h : IsC w base P go ga gq vo out x op) (y : Int) : IsC (w.setCell ⟨ga, 0, none⟩ (.int .i64 y)) base P go ga gq vo out y op :=
 ⟨h.o, h.a, h.q, blk_far h.bo (p := ⟨ga, 0, none⟩) h.oa.1 _, Kd.R_set h.row h.ba ne91_3 0 _, blk_put h.ba 0 _ rfl, blk_far h.bq (p := ⟨ga, 0, none⟩) (fun e => h.oa.2.2 e.symm) _⟩
theorem IsC.setQ {w : World} {base : Nat} {P : Nat → Prop} {go ga gq : Nat} {vo : Value} {out : List S91} {x : Int} {op : Bool} (h : IsC w base P go ga gq vo out x op) (y : Bool) : IsC (w.setCell ⟨gq, 0, none⟩ (.bool y)) base P go ga gq vo out x y :=
 ⟨h.o, h.a, h.q, blk_far h.bo (p := ⟨gq, 0, none⟩) h.oa.2.1 _, Kd.R_set h.row h.bq ne91_4 0 _, blk_far h.ba (p := ⟨gq, 0, none⟩) h.oa.2.2 _, blk_put h.bq 0 _ rfl⟩
theorem IsC.setO {w : World} {base : Nat} {P : Nat → Prop} {go ga gq : Nat} {v0 vo : Value} {out : List S91} {x : Int} {op : Bool} (o : P go) (a : P ga) (q : P gq) (bo : w.heap[go]? = some (.cells #[v0] 40 (0, 0))) (row : Kd.R k91 91 w base P vo out)
  (ba : w.heap[ga]? = some (.cells #[.int .i64 x] 3 (0, 0))) (bq : w.heap[gq]? = some (.cells #[.bool op] 4 (0, 0))) : IsC (w.setCell ⟨go, 0, none⟩ vo) base P go ga gq vo out x op :=
 ⟨o, a, q, blk_put bo 0 _ rfl, Kd.R_set row bo ne91_40 0 _, blk_far ba (p := ⟨go, 0, none⟩) (blk_ty ba bo (by decide)) _, blk_far bq (p := ⟨go, 0, none⟩) (blk_ty bq bo (by decide)) _⟩
set_option maxHeartbeats 4000000 in
theorem cg80_calls (w : World) (base go ga gq : Nat) (P : Nat → Prop) (vo : Value) (out : List S91) (x n : Int) (op : Bool) (s : ByteArray) (hb : IsC w base P go ga gq vo out x op) (h1 : 0 ≤ x) (h2 : x ≤ 1000000000) (h3 : 0 ≤ n) (h4 : n ≤ 1000000000) :
  Calls Try.prog 80 #[.int .i64 n, .string s, .pointer (some ⟨ga, 0, none⟩), .pointer (some ⟨gq, 0, none⟩)] w fun e w' => e = .returned (.tuple #[]) ∧ IsC w' base P go ga gq vo out (x + n) false ∧ Kp P w w' := by
 have HB := Aside0.mk hb
 have c0 : w.cell? ⟨ga, 0, none⟩ = some (.int .i64 x) := (blk_cell hb.ba 0).trans rfl
 have f0 := blk_frozen hb.ba 0
 have f1 := blk_frozen ((hb.setA (x + n)).bq) 0
 have c1 : (w.setCell ⟨ga, 0, none⟩ (.int .i64 (x + n))).cell? ⟨gq, 0, none⟩ = some (.bool op) := (blk_cell ((hb.setA (x + n)).bq) 0).trans rfl
 have hw : wrap64 (x + n) = x + n := by unfold wrap64; omega
 clear hb
 go_enter Try.func80, Try.ntmps80
 go_wp2
 go_end0
 exact ⟨rfl, (HB.out.setA (x + n)).setQ false, ((Kp.refl P w).setCell (p := ⟨ga, 0, none⟩) HB.out.a _).setCell (p := ⟨gq, 0, none⟩) HB.out.q _⟩
set_option maxHeartbeats 4000000 in
set_option maxRecDepth 100000 in
theorem change_open (w : World) (base go ga gq : Nat) (P : Nat → Prop) (vo : Value) (out : List S91) (x : Int) (m : Nat) (hb : IsC w base P go ga gq vo out x true) (hm : out.length = m + 1) :
  Calls Try.prog 79 #[.pointer (some ⟨gq, 0, none⟩), .pointer (some ⟨go, 0, none⟩), .pointer (some ⟨ga, 0, none⟩)] w fun e w' => ∃ gr co, e = .returned (.pointer (some ⟨gr, m * 3, none⟩)) ∧ IsC w' base P go ga gq (.slice (some ⟨gr, 0, none⟩) (m + 1) co) out x true ∧ Kp P w w' := by
 obtain ⟨gr, co, hvo, hgb, hgl, cells, hcells⟩ := Kd.R_form hb.row (by omega)
 subst hvo
 rw [hm] at hb
 have HB := Aside0.mk hb
 have hbig : (m : Int) + 1 ≤ 9223372036854775807 := by have := (Kd.R_reads' hb.row).2.2.2.1; omega
 have c0 : w.cell? ⟨gq, 0, none⟩ = some (.bool true) := (blk_cell hb.bq 0).trans rfl
 have c1 : w.cell? ⟨go, 0, none⟩ = some (.slice (some ⟨gr, 0, none⟩) (m + 1) co) := (blk_cell hb.bo 0).trans rfl
 have hltm : (m : Int) < (m : Int) + 1 := by omega
 have hwm : wrap64 (m : Int) = (m : Int) := by unfold wrap64; omega
 clear hb hm hgb hgl hcells
 go_enter Try.func79, Try.ntmps79
 go_wp2
 go_ret
 exact ⟨_, _, rfl, HB.out, Kp.refl _ _⟩
set_option maxHeartbeats 4000000 in
set_option maxRecDepth 100000 in
theorem change_new (w : World) (base go ga gq : Nat) (P : Nat → Prop) (vo : Value) (out : List S91) (x : Int) (hb : IsC w base P go ga gq vo out x false) (hbase : base ≤ w.heap.size) (hPf : ∀ k, w.heap.size ≤ k → P k) (hl : out.length ≤ 4000000000000) :
  Calls Try.prog 79 #[.pointer (some ⟨gq, 0, none⟩), .pointer (some ⟨go, 0, none⟩), .pointer (some ⟨ga, 0, none⟩)] w fun e w' => ∃ gr co, e = .returned (.pointer (some ⟨gr, out.length * 3, none⟩)) ∧ IsC w' base P go ga gq (.slice (some ⟨gr, 0, none⟩) (out.length + 1) co) (out ++ [(⟨x, x, noText⟩ : S91)]) x true ∧ Kp P w w' := by
 obtain ⟨Ao, co, hvo⟩ := Kd.R_slice hb.row
 subst hvo
 have HB := Aside0.mk hb
 have c0 : w.cell? ⟨gq, 0, none⟩ = some (.bool false) := (blk_cell hb.bq 0).trans rfl
 have c1 : w.cell? ⟨go, 0, none⟩ = some (.slice Ao out.length co) := (blk_cell hb.bo 0).trans rfl
 have c2 : w.cell? ⟨ga, 0, none⟩ = some (.int .i64 x) := (blk_cell hb.ba 0).trans rfl
 have hbig : (out.length : Int) + 1 ≤ 9223372036854775807 := by omega
 have hltm : (out.length : Int) < (out.length : Int) + 1 := by omega
 have hwm : wrap64 (out.length : Int) = (out.length : Int) := by unfold wrap64; omega
 clear hb
 go_enter Try.func79, Try.ntmps79
 go_wp2_with (at_builtin; (refine Kd.R_append k91 (w0 := w) (W := w) base rfl (.tmp 6) (.tmp 10) 40 91 (.agg #[.int .i64 0, .int .i64 0, .string ⟨#[]⟩]) 32 rfl Try.underlying40 info91' rfl (by decide) (by omega) (.slice Ao out.length co) out ⟨x, x, ⟨#[]⟩⟩ [.int .i64 x, .int .i64 x, .string ⟨#[]⟩] P (fun _ => False) rfl rfl (k91_mkM _ _ _ _) (fun _ h => h.elim) hPf HB.out.row (Below.refl _ _) hbase (by omega) ?_; intro v4 w4 ho4 hb4 hg4 hat4; have HBO := Aside0.mk (blk_grown HB.out.bo hg4 HB.out.ne.1); have HBA := Aside0.mk (blk_grown HB.out.ba hg4 HB.out.ne.2.1); have HBQ := Aside0.mk (blk_grown HB.out.bq hg4 HB.out.ne.2.2); have HO4 := Aside0.mk ho4; have HK4 := Aside0.mk ((Kp.refl P w).grown hg4 (fun k e _ => HB.out.row.1 k e)); obtain ⟨gr, k4, hv4, _, _, _, _⟩ := Kd.R_form ho4 (by simp); clear ho4 hb4 hat4 hg4; rw [List.length_append, List.length_singleton] at hv4; subst hv4; have HC4 := Aside0.mk (IsC.setO HB.out.o HB.out.a HB.out.q HBO.out HO4.out HBA.out HBQ.out); have HC5 := Aside0.mk (HC4.out.setQ true); have e1 := blk_frozen HBO.out 0; have e2 := blk_frozen HC4.out.bq 0; have d1 : w4.cell? ⟨go, 0, none⟩ = some (.slice Ao out.length co) := (blk_cell HBO.out 0).trans rfl; have d2 : (w4.setCell ⟨go, 0, none⟩ (.slice (some ⟨gr, 0, none⟩) (out.length + 1) k4)).cell? ⟨gq, 0, none⟩ = some (.bool false) := (blk_cell HC4.out.bq 0).trans rfl; have d3 : ((w4.setCell ⟨go, 0, none⟩ (.slice (some ⟨gr, 0, none⟩) (out.length + 1) k4)).setCell ⟨gq, 0, none⟩ (.bool true)).cell? ⟨go, 0, none⟩ = some (.slice (some ⟨gr, 0, none⟩) (out.length + 1) k4) := (blk_cell HC5.out.bo 0).trans rfl))
 go_ret
 exact ⟨_, _, rfl, HC5.out, (HK4.out.setCell (p := ⟨go, 0, none⟩) HB.out.o _).setCell (p := ⟨gq, 0, none⟩) HB.out.q _⟩
def opn (op : Bool) (out : List S91) (x : Int) : List S91 := if op then out else out ++ [(⟨x, x, noText⟩ : S91)]
theorem change_calls (w : World) (base go ga gq : Nat) (P : Nat → Prop) (vo : Value) (out : List S91) (x : Int) (op : Bool) (m : Nat) (hb : IsC w base P go ga gq vo out x op) (hm : (opn op out x).length = m + 1) (hbase : base ≤ w.heap.size) (hPf : ∀ k, w.heap.size ≤ k → P k) (hl : out.length ≤ 4000000000000) :
  Calls Try.prog 79 #[.pointer (some ⟨gq, 0, none⟩), .pointer (some ⟨go, 0, none⟩), .pointer (some ⟨ga, 0, none⟩)] w fun e w' => ∃ gr co, e = .returned (.pointer (some ⟨gr, m * 3, none⟩)) ∧ IsC w' base P go ga gq (.slice (some ⟨gr, 0, none⟩) (m + 1) co) (opn op out x) x true ∧ Kp P w w' := by
 cases op with
 | true => exact change_open w base go ga gq P vo out x m hb hm
 | false =>
  have h1 := change_new w base go ga gq P vo out x hb hbase hPf hl
  simp only [opn, Bool.false_eq_true, if_false, List.length_append, List.length_singleton] at hm
  have : out.length = m := by omega
  subst this
  exact h1
theorem IsC.elem {w : World} {base : Nat} {P : Nat → Prop} {go ga gq gr m co : Nat} {out : List S91} {x : Int} {op : Bool} (h : IsC w base P go ga gq (.slice (some ⟨gr, 0, none⟩) (m + 1) co) out x op) (hm : out.length = m + 1) :
  P gr ∧ w.cell? ⟨gr, m * 3 + 1, none⟩ = some (.int .i64 (rd_T91 out (m : Int)).f1) ∧ w.frozen? ⟨gr, m * 3 + 1, none⟩ = false ∧ w.cell? ⟨gr, m * 3 + 2, none⟩ = some (.string (rd_T91 out (m : Int)).f2) ∧ w.frozen? ⟨gr, m * 3 + 2, none⟩ = false
  ∧ (∀ y : Int, IsC (w.setCell ⟨gr, m * 3 + 1, none⟩ (.int .i64 y)) base P go ga gq (.slice (some ⟨gr, 0, none⟩) (m + 1) co) (out.set m ⟨(rd_T91 out (m : Int)).f0, y, (rd_T91 out (m : Int)).f2⟩) x op)
  ∧ (∀ s : ByteArray, IsC (w.setCell ⟨gr, m * 3 + 2, none⟩ (.string s)) base P go ga gq (.slice (some ⟨gr, 0, none⟩) (m + 1) co) (out.set m ⟨(rd_T91 out (m : Int)).f0, (rd_T91 out (m : Int)).f1, s⟩) x op) := by
 have hne := h.ne
 simp only [Value.ownBlock, ne_eq, Option.some.injEq] at hne
 obtain ⟨ce, hcl, hM, hcc, hfr⟩ := Kd.R_elem h.row z91 (m : Int) (by omega) (by omega)
 have hce : ce = [.int .i64 (rd_T91 out (m : Int)).f0, .int .i64 (rd_T91 out (m : Int)).f1, .string (rd_T91 out (m : Int)).f2] := k91_openM hM
 subst hce
 have hPgr : P gr := h.row.1 gr (by simp [Value.ownBlock])
 have hs3 : ∀ j, ((m : Int).toNat * k91.sz + j) = m * 3 + j := fun j => by rw [Int.toNat_natCast]; rfl
 refine ⟨hPgr, ?_, ?_, ?_, ?_, fun y => ?_, fun s => ?_⟩
 ·
  have h_ := hcc 1 _ rfl; rw [Int.toNat_natCast] at h_; exact h_
 ·
  have h_ := hfr 1; rw [Int.toNat_natCast] at h_; exact h_
 ·
  have h_ := hcc 2 _ rfl; rw [Int.toNat_natCast] at h_; exact h_
 ·
  have h_ := hfr 2; rw [Int.toNat_natCast] at h_; exact h_
 ·
  have h1 := (Kd.R_seg h.row (m : Int) (by omega) (by omega) (seg := [.int .i64 y]) (j := 1) hcl hcc (show 2 ≤ 3 from by decide) (x' := (⟨(rd_T91 out (m : Int)).f0, y, (rd_T91 out (m : Int)).f2⟩ : S91)) (k91_mkM _ _ _ (⟨(rd_T91 out (m : Int)).f0, y, (rd_T91 out (m : Int)).f2⟩ : S91)) (fun _ hk => hk)).1
  rw [hs3, Int.toNat_natCast] at h1
  exact ⟨h.o, h.a, h.q, blk_far h.bo (p := ⟨gr, m * 3 + 1, none⟩) hne.1 _, h1, blk_far h.ba (p := ⟨gr, m * 3 + 1, none⟩) hne.2.1 _, blk_far h.bq (p := ⟨gr, m * 3 + 1, none⟩) hne.2.2 _⟩
 ·
  have h1 := (Kd.R_seg h.row (m : Int) (by omega) (by omega) (seg := [.string s]) (j := 2) hcl hcc (show 3 ≤ 3 from by decide) (x' := (⟨(rd_T91 out (m : Int)).f0, (rd_T91 out (m : Int)).f1, s⟩ : S91)) (k91_mkM _ _ _ (⟨(rd_T91 out (m : Int)).f0, (rd_T91 out (m : Int)).f1, s⟩ : S91)) (fun _ hk => hk)).1
  rw [hs3, Int.toNat_natCast] at h1
  exact ⟨h.o, h.a, h.q, blk_far h.bo (p := ⟨gr, m * 3 + 2, none⟩) hne.1 _, h1, blk_far h.ba (p := ⟨gr, m * 3 + 2, none⟩) hne.2.1 _, blk_far h.bq (p := ⟨gr, m * 3 + 2, none⟩) hne.2.2 _⟩
def cgPut (op : Bool) (out : List S91) (x : Int) (m : Nat) (s : ByteArray) : List S91 := (opn op out x).set m ⟨(rd_T91 (opn op out x) (m : Int)).f0, (rd_T91 (opn op out x) (m : Int)).f1, (rd_T91 (opn op out x) (m : Int)).f2 ++ s⟩
def cgDrop (op : Bool) (out : List S91) (x : Int) (m : Nat) (y : Int) : List S91 := (opn op out x).set m ⟨(rd_T91 (opn op out x) (m : Int)).f0, y, (rd_T91 (opn op out x) (m : Int)).f2⟩
set_option maxHeartbeats 4000000 in
set_option maxRecDepth 100000 in
theorem cg81_calls (w : World) (base go ga gq gc : Nat) (P : Nat → Prop) (vo : Value) (out : List S91) (x n : Int) (op : Bool) (m : Nat) (s : ByteArray) (hb : IsC w base P go ga gq vo out x op) (hm : (opn op out x).length = m + 1) (hbase : base ≤ w.heap.size) (hPf : ∀ k, w.heap.size ≤ k → P k) (hl : out.length ≤ 4000000000000) (hsz : (rd_T91 (opn op out x) (m : Int)).f2.size + s.size ≤ 9223372036854775807)
  (hgc : w.heap[gc]? = some (.cells #[.func (.func 79) #[] #[.pointer (some ⟨gq, 0, none⟩), .pointer (some ⟨go, 0, none⟩), .pointer (some ⟨ga, 0, none⟩)]] 103 (0, 0))) :
  Calls Try.prog 81 #[.int .i64 n, .string s, .pointer (some ⟨gc, 0, none⟩)] w fun e w' => e = .returned (.tuple #[]) ∧ (∃ v1, IsC w' base P go ga gq v1 (cgPut op out x m s) x true) ∧ Kp P w w' := by
 have hsz' : ¬ 9223372036854775807 < (rd_T91 (opn op out x) (m : Int)).f2.size + s.size := by omega
 have HB := Aside0.mk hb
 have HM := Aside0.mk hm
 have c0 : w.cell? ⟨gc, 0, none⟩ = some (.func (.func 79) #[] #[.pointer (some ⟨gq, 0, none⟩), .pointer (some ⟨go, 0, none⟩), .pointer (some ⟨ga, 0, none⟩)]) := (blk_cell hgc 0).trans rfl
 clear hb hgc hm
 go_enter Try.func81, Try.ntmps81
 go_wp2_with (go_at_call 79; refine (change_calls _ base go ga gq P vo out x op m HB.out HM.out hbase hPf hl).mono ?_; rintro e w1 ⟨gr, co, rfl, hb1, hk1⟩; have HB1 := Aside0.mk hb1; have HK1 := Aside0.mk hk1; have HE := Aside0.mk (hb1.elem HM.out); have d1 := HE.out.2.2.2.1; have d2 := HE.out.2.2.2.2.1; clear hb1 hk1)
 go_end0
 exact ⟨rfl, ⟨_, HE.out.2.2.2.2.2.2 _⟩, HK1.out.setCell (p := ⟨gr, m * 3 + 2, none⟩) HE.out.1 _⟩
set_option maxHeartbeats 4000000 in
set_option maxRecDepth 100000 in
theorem cg82_calls (w : World) (base go ga gq gc : Nat) (P : Nat → Prop) (vo : Value) (out : List S91) (x n : Int) (op : Bool) (m : Nat) (s : ByteArray) (hb : IsC w base P go ga gq vo out x op) (hm : (opn op out x).length = m + 1) (hbase : base ≤ w.heap.size) (hPf : ∀ k, w.heap.size ≤ k → P k) (hl : out.length ≤ 4000000000000)
  (hgc : w.heap[gc]? = some (.cells #[.func (.func 79) #[] #[.pointer (some ⟨gq, 0, none⟩), .pointer (some ⟨go, 0, none⟩), .pointer (some ⟨ga, 0, none⟩)]] 103 (0, 0)))
  (h1 : 0 ≤ x) (h2 : x ≤ 1000000000) (h3 : 0 ≤ n) (h4 : n ≤ 1000000000) :
  Calls Try.prog 82 #[.int .i64 n, .string s, .pointer (some ⟨gc, 0, none⟩), .pointer (some ⟨ga, 0, none⟩)] w fun e w' => e = .returned (.tuple #[]) ∧ (∃ v1, IsC w' base P go ga gq v1 (cgDrop op out x m (x + n)) (x + n) true) ∧ Kp P w w' := by
 have HB := Aside0.mk hb
 have HM := Aside0.mk hm
 have c0 : w.cell? ⟨gc, 0, none⟩ = some (.func (.func 79) #[] #[.pointer (some ⟨gq, 0, none⟩), .pointer (some ⟨go, 0, none⟩), .pointer (some ⟨ga, 0, none⟩)]) := (blk_cell hgc 0).trans rfl
 clear hb hgc hm
 go_enter Try.func82, Try.ntmps82
 go_wp2_with (go_at_call 79; refine (change_calls _ base go ga gq P vo out x op m HB.out HM.out hbase hPf hl).mono ?_; rintro e w1 ⟨gr, co, rfl, hb1, hk1⟩; have HB1 := Aside0.mk hb1; have HK1 := Aside0.mk hk1; have d1 : w1.cell? ⟨ga, 0, none⟩ = some (.int .i64 x) := (blk_cell hb1.ba 0).trans rfl; have d2 := blk_frozen hb1.ba 0; have HB2 := Aside0.mk (hb1.setA (x + n)); have HE := Aside0.mk (HB2.out.elem HM.out); have d3 := HE.out.2.1; have d4 := HE.out.2.2.1; have d5 : (w1.setCell ⟨ga, 0, none⟩ (.int .i64 (x + n))).cell? ⟨ga, 0, none⟩ = some (.int .i64 (x + n)) := (blk_cell HB2.out.ba 0).trans rfl; clear hb1 hk1)
 go_end0
 exact ⟨rfl, ⟨_, HE.out.2.2.2.2.2.1 _⟩, (HK1.out.setCell (p := ⟨ga, 0, none⟩) HB1.out.a _).setCell (p := ⟨gr, m * 3 + 1, none⟩) HE.out.1 _⟩
end Go.Proofs.Ytidihnnkcmeaeaa.A
