/- shift.Over: what it answers. No condition but that the lists can be read. -/
import Derived.Test.YtidihnnkcmeaeaaO
import Derived.Test.YtidihnnkcmeaeaaECanon
import Derived.WalkMore
namespace Go.Proofs.Ytidihnnkcmeaeaa.A
open Go.RowKit Go.Proofs.YtidihnnkcmeaeaaW.PrintWords Go.Proofs.YtidihnnkcmeaeaaW.PrintLast Go.Proofs.YtidihnnkcmeaeaaW.PrintMore
attribute [local go_sem] max2_int min2_int max_two min_two max_three min_three max_four min_four
set_option linter.unusedVariables false
set_option linter.unusedSimpArgs false
set_option maxHeartbeats 8000000 in
set_option maxRecDepth 100000 in
theorem over_bad (kf : Nat) (A0 : Option Addr) (c0 : Nat) (l0 : List (S70)) (A1 : Option Addr) (c1 : Nat) (l1 : List (S70)) (a2 : Bool) (code : Int) (w : World) (hr0 : Kd.C k70 w A0 l0.length l0) (hc0 : l0.length ≤ c0) (hr1 : Kd.C k70 w A1 l1.length l1) (hc1 : l1.length ≤ c1) (hf : shift_fits.f kf l0 l1 = some code) (hc : code ≠ 0) :
  Calls Try.prog 54 #[.slice A0 l0.length c0, .slice A1 l1.length c1, .bool a2] w fun e w' => e = .returned (.tuple #[.slice none 0 0, .int .i64 code]) ∧ Below w.heap.size w w' := by
 have HR0 := Aside0.mk hr0
 have HC0 := Aside0.mk hc0
 have HR1 := Aside0.mk hr1
 have HC1 := Aside0.mk hc1
 have HF := Aside0.mk hf
 have hne : (code != 0) = true := bne_iff_ne.mpr hc
 clear hr0 hc0 hr1 hc1 hf hc
 go_enter Try.func54, Try.ntmps54
 go_wp2
 go_step3
 go_wp2_with ((with_reducible refine gate_callee (f := 90) rfl ?_); refine goesL_ (some 19) rfl rfl Try.func90 (by kernel_rfl) rfl #[.slice A0 l0.length c0, .slice A1 l1.length c1] rfl (by (try simp only [List.map_toArray, List.map_cons, List.map_nil]); first | done | rfl | (simp only [List.length_drop, List.length_take]; rfl)) ?_; (with_reducible refine (shift_fits.calls kf _ _ l0 _ _ l1 _ _ ?s1 ?s2 ?s3 ?s4 HF.out).mono ?_); (case s1 => repeat (first | exact HR0.out | (with_reducible refine Kd.C_alloc ?_ _) | (with_reducible refine Kd.C_drewN ?_ _) | (with_reducible refine Kd.C_drew ?_))); (case s2 => exact HC0.out); (case s3 => repeat (first | exact HR1.out | (with_reducible refine Kd.C_alloc ?_ _) | (with_reducible refine Kd.C_drewN ?_ _) | (with_reducible refine Kd.C_drew ?_))); (case s4 => exact HC1.out); rintro e wf ⟨rfl, hbf⟩; refine ⟨_, rfl, ?_⟩; have HB := Aside0.mk hbf; clear hbf)
 try rw [Exit.noGoto_ret]
 go_ret2
 exact ⟨rfl, HB.out⟩
set_option maxHeartbeats 8000000 in
set_option maxRecDepth 100000 in
theorem over_good (kf : Nat) (A0 : Option Addr) (c0 : Nat) (l0 : List (S70)) (A1 : Option Addr) (c1 : Nat) (l1 : List (S70)) (a2 : Bool) (T r1 : List S70) (r2 : Int) (w : World) (hr0 : Kd.C k70 w A0 l0.length l0) (hc0 : l0.length ≤ c0) (hr1 : Kd.C k70 w A1 l1.length l1) (hc1 : l1.length ≤ c1) (hf : shift_fits.f kf l0 l1 = some 0)
  (oka : ∀ o ∈ l0, opOk o = true) (okb : ∀ o ∈ l1, opOk o = true) (hl0 : l0.length ≤ 1000000000) (hl1 : l1.length ≤ 1000000000) (hb0 : ∀ o ∈ l0, opw o ≤ 268435456) (hb1 : ∀ o ∈ l1, opw o ≤ 268435456) (hT : T = overOps a2 (l0.length + l1.length + 1) l0 0 l1 0) (hr : delta_Canon.f T = some (r1, r2)) :
  Calls Try.prog 54 #[.slice A0 l0.length c0, .slice A1 l1.length c1, .bool a2] w fun e w' => ∃ v0_ : Value, e = .returned (.tuple #[v0_, .int .i64 r2]) ∧ Kd.R k70 70 w' w.heap.size (fun _ => True) v0_ r1 ∧ Below w.heap.size w w' := by
 have HR0 := Aside0.mk hr0
 have HC0 := Aside0.mk hc0
 have HR1 := Aside0.mk hr1
 have HC1 := Aside0.mk hc1
 have HF := Aside0.mk hf
 have HOKA := Aside0.mk oka
 have HOKB := Aside0.mk okb
 have HL0 := Aside0.mk hl0
 have HL1 := Aside0.mk hl1
 have HS0 := Aside0.mk hb0
 have HS1 := Aside0.mk hb1
 have HRES := Aside0.mk hr
 have HT := Aside0.mk (hT ▸ OvJ.start a2 l0 l1)
 clear hr0 hc0 hr1 hc1 hf oka okb hl0 hl1 hb0 hb1 hr hT
 go_enter Try.func54, Try.ntmps54
 go_wp2
 go_step3
 go_wp2_with ((with_reducible refine gate_callee (f := 90) rfl ?_); refine goesL_ (some 19) rfl rfl Try.func90 (by kernel_rfl) rfl #[.slice A0 l0.length c0, .slice A1 l1.length c1] rfl (by (try simp only [List.map_toArray, List.map_cons, List.map_nil]); first | done | rfl | (simp only [List.length_drop, List.length_take]; rfl)) ?_; (with_reducible refine (shift_fits.calls kf _ _ l0 _ _ l1 _ _ ?s1 ?s2 ?s3 ?s4 HF.out).mono ?_); (case s1 => repeat (first | exact HR0.out | (with_reducible refine Kd.C_alloc ?_ _) | (with_reducible refine Kd.C_drewN ?_ _) | (with_reducible refine Kd.C_drew ?_))); (case s2 => exact HC0.out); (case s3 => repeat (first | exact HR1.out | (with_reducible refine Kd.C_alloc ?_ _) | (with_reducible refine Kd.C_drewN ?_ _) | (with_reducible refine Kd.C_drew ?_))); (case s4 => exact HC1.out); rintro e wf ⟨rfl, hbf⟩; refine ⟨_, rfl, ?_⟩; have HB := Aside0.mk hbf; clear hbf)
 go_step3
 go_wp2
 go_loopg [9, 10, 11, 12, 13] (ovM l0 l1 0 0) (fun kq v9 v10 v11 v12 v13 w' => ∃ (i j x y : Int) (out : List S70), v10 = .int .i64 i ∧ v11 = .int .i64 j ∧ v12 = .int .i64 x ∧ v13 = .int .i64 y ∧ Aside0 (OvJ a2 l0 l1 T i j x y out) ∧ Aside0 (kq = ovM l0 l1 i j) ∧ Aside0 (Kd.R k70 70 w' w.heap.size (fun _ => True) v9 out) ∧ Aside0 (Below w.heap.size w w'))
 case atStart => exact ⟨0, 0, 0, 0, [], rfl, rfl, rfl, rfl, HT, ⟨rfl⟩, ⟨Kd.R_nil _ _ _ _ _⟩, ⟨by repeat (first | (with_reducible first | exact HB.out | apply below_alloc | apply pw_below_drewN | apply below_drew1) | exact HB.out)⟩⟩
 case round =>
  clear HT HF
  obtain ⟨i, j, x, y, out, rfl, rfl, rfl, rfl, HJ, HK, HO, HB⟩ := hrel
  have HLEN := Aside0.mk (show out.length < 4398046511104 from by have := HJ.out.len; have := HJ.out.small; have := HL0.out; have := HL1.out; omega)
  have hi0 := HJ.out.hi
  have hj0 := HJ.out.hj
  have hwi : wrap64 (i + 1) = i + 1 := by have := HJ.out.small; have := HL0.out; unfold wrap64; omega
  have hwj : wrap64 (j + 1) = j + 1 := by have := HJ.out.small; have := HL1.out; unfold wrap64; omega
  have HWI := Aside0.mk hwi
  have HWJ := Aside0.mk hwj
  clear hwi hwj
  by_cases hil_ : i < (l0.length : Int)
  ·
   have hil := Aside0.mk hil_
   clear hil_
   have hilb : decide (i < (l0.length : Int)) = true := decide_eq_true hil.out
   have hilg : decide ((l0.length : Int) ≤ i) = false := decide_eq_false (by have := hil.out; omega)
   obtain ⟨ad0, ed0, hx0_0, hx0_1, hx0_2⟩ := at_T70 HR0.out i hi0 hil.out
   cases ed0
   replace hx0_0 := (HB.out.cell (World.block_lt_of_cell? w _ hx0_0)).trans hx0_0
   replace hx0_1 := (HB.out.cell (World.block_lt_of_cell? w _ hx0_1)).trans hx0_1
   replace hx0_2 := (HB.out.cell (World.block_lt_of_cell? w _ hx0_2)).trans hx0_2
   by_cases hjl_ : j < (l1.length : Int)
   ·
    have hjl := Aside0.mk hjl_
    clear hjl_
    have hjlb : decide (j < (l1.length : Int)) = true := decide_eq_true hjl.out
    have hjlg : decide ((l1.length : Int) ≤ j) = false := decide_eq_false (by have := hjl.out; omega)
    obtain ⟨ad1, ed1, hx1_0, hx1_1, hx1_2⟩ := at_T70 HR1.out j hj0 hjl.out
    cases ed1
    replace hx1_0 := (HB.out.cell (World.block_lt_of_cell? w _ hx1_0)).trans hx1_0
    replace hx1_1 := (HB.out.cell (World.block_lt_of_cell? w _ hx1_1)).trans hx1_1
    replace hx1_2 := (HB.out.cell (World.block_lt_of_cell? w _ hx1_2)).trans hx1_2
    have hqi : (i.toNat < l0.length) = True := eq_true (by have := hil.out; omega)
    have hti : (i < (l0.length : Int)) = True := eq_true hil.out
    have hqj : (j.toNat < l1.length) = True := eq_true (by have := hjl.out; omega)
    have htj : (j < (l1.length : Int)) = True := eq_true hjl.out
    by_cases p2_ : (rd_T70 l0 i).f0 = 2
    ·
     have p2 := Aside0.mk p2_
     clear p2_
     have p2b : ((rd_T70 l0 i).f0 == 2) = true := beq_iff_eq.mpr p2.out
     by_cases q2_ : (rd_T70 l1 j).f0 = 2
     ·
      have q2 := Aside0.mk q2_
      clear q2_
      have q2b : ((rd_T70 l1 j).f0 == 2) = true := beq_iff_eq.mpr q2.out
      cases a2 with
      | true =>
       go_wp2_with (first | ((with_reducible refine gate_builtin (b := .append) (xs := #[.tmp 56, .tmp 61]) rfl ?_); at_builtin; refine Kd.R_append k70 (w0 := w) w.heap.size rfl (.tmp 56) (.tmp 61) 25 70 (.agg #[(.int .i64 0), (.int .i64 0), (.string ⟨#[]⟩)]) 32 rfl Try.underlying25 info70 rfl (by decide) (by omega) u9 out (⟨(rd_T70 l1 j).f0, (rd_T70 l1 j).f1, (rd_T70 l1 j).f2⟩ : S70) [.int .i64 (rd_T70 l1 j).f0, .int .i64 (rd_T70 l1 j).f1, .string (rd_T70 l1 j).f2] (fun _ => True) (fun _ => False) rfl (by first | rfl | (go_simp; done) | (go_simp; rfl)) ?aP (fun _ hk => hk.elim) ?aF ?aO ?aB ?aS ?aL ?_; (case aP => exact k70_mkM _ _ _ (⟨(rd_T70 l1 j).f0, (rd_T70 l1 j).f1, (rd_T70 l1 j).f2⟩ : S70)); (case aB => exact (by repeat (first | (with_reducible first | exact HB.out | apply below_alloc | apply pw_below_drewN | apply below_drew1) | exact HB.out))); (case aF => exact (fun _ _ => trivial)); (case aO => exact (by (with_reducible repeat (first | apply Kd.R_alloc | apply Kd.R_drewN | apply Kd.R_drew)); exact HO.out)); (case aS => exact (below_size (by repeat (first | (with_reducible first | exact HB.out | apply below_alloc | apply pw_below_drewN | apply below_drew1) | exact HB.out)))); (case aL => have := HLEN.out; omega); intro va wa ho hb hg hat; have n0_ := Aside0.mk hb; have n1_ := Aside0.mk ho; clear HB HO; have HB := n0_; have HO := n1_; clear n0_ n1_ ho hb hg hat))
       have HN := Aside0.mk (HJ.out.put hjl.out q2.out (.inl rfl))
       go_roundg (ovM l0 l1 i (j + 1))
       case measure => have h1 := HN.out.2; have h2 := HK.out; omega
       case rel => exact ⟨i, j + 1, x, y, out ++ [(rd_T70 l1 j)], rfl, (by exact congrArg (Value.int .i64) HWJ.out), rfl, rfl, ⟨HN.out.1⟩, ⟨rfl⟩, ⟨by (with_reducible repeat (first | apply Kd.R_alloc | apply Kd.R_drewN | apply Kd.R_drew)); exact HO.out⟩, ⟨by repeat (first | (with_reducible first | exact HB.out | apply below_alloc | apply pw_below_drewN | apply below_drew1) | exact HB.out)⟩⟩
      | false =>
       go_wp2_with (first | ((with_reducible refine gate_builtin (b := .append) (xs := #[.tmp 67, .tmp 75]) rfl ?_); at_builtin; refine Kd.R_append k70 (w0 := w) w.heap.size rfl (.tmp 67) (.tmp 75) 25 70 (.agg #[(.int .i64 0), (.int .i64 0), (.string ⟨#[]⟩)]) 32 rfl Try.underlying25 info70 rfl (by decide) (by omega) u9 out (⟨1, ((rd_T70 l0 i).f2.size : Int), (⟨#[]⟩ : ByteArray)⟩ : S70) [.int .i64 1, .int .i64 ((rd_T70 l0 i).f2.size : Int), .string (⟨#[]⟩ : ByteArray)] (fun _ => True) (fun _ => False) rfl (by first | rfl | (go_simp; done) | (go_simp; rfl)) ?aP (fun _ hk => hk.elim) ?aF ?aO ?aB ?aS ?aL ?_; (case aP => exact k70_mkM _ _ _ (⟨1, ((rd_T70 l0 i).f2.size : Int), (⟨#[]⟩ : ByteArray)⟩ : S70)); (case aB => exact (by repeat (first | (with_reducible first | exact HB.out | apply below_alloc | apply pw_below_drewN | apply below_drew1) | exact HB.out))); (case aF => exact (fun _ _ => trivial)); (case aO => exact (by (with_reducible repeat (first | apply Kd.R_alloc | apply Kd.R_drewN | apply Kd.R_drew)); exact HO.out)); (case aS => exact (below_size (by repeat (first | (with_reducible first | exact HB.out | apply below_alloc | apply pw_below_drewN | apply below_drew1) | exact HB.out)))); (case aL => have := HLEN.out; omega); intro va wa ho hb hg hat; have n0_ := Aside0.mk hb; have n1_ := Aside0.mk ho; clear HB HO; have HB := n0_; have HO := n1_; clear n0_ n1_ ho hb hg hat))
       have HN := Aside0.mk (HJ.out.keep hil.out p2.out (fun h => absurd h.2.2 (by decide)))
       go_roundg (ovM l0 l1 (i + 1) j)
       case measure => have h1 := HN.out.2; have h2 := HK.out; omega
       case rel => exact ⟨i + 1, j, x, y, out ++ [(⟨1, ((rd_T70 l0 i).f2.size : Int), noText⟩ : S70)], (by exact congrArg (Value.int .i64) HWI.out), rfl, rfl, rfl, ⟨HN.out.1⟩, ⟨rfl⟩, ⟨by (with_reducible repeat (first | apply Kd.R_alloc | apply Kd.R_drewN | apply Kd.R_drew)); exact HO.out⟩, ⟨by repeat (first | (with_reducible first | exact HB.out | apply below_alloc | apply pw_below_drewN | apply below_drew1) | exact HB.out)⟩⟩
     ·
      have q2 := Aside0.mk q2_
      clear q2_
      have q2b : ((rd_T70 l1 j).f0 == 2) = false := beq_eq_false_iff_ne.mpr q2.out
      go_wp2_with (first | ((with_reducible refine gate_builtin (b := .append) (xs := #[.tmp 67, .tmp 75]) rfl ?_); at_builtin; refine Kd.R_append k70 (w0 := w) w.heap.size rfl (.tmp 67) (.tmp 75) 25 70 (.agg #[(.int .i64 0), (.int .i64 0), (.string ⟨#[]⟩)]) 32 rfl Try.underlying25 info70 rfl (by decide) (by omega) u9 out (⟨1, ((rd_T70 l0 i).f2.size : Int), (⟨#[]⟩ : ByteArray)⟩ : S70) [.int .i64 1, .int .i64 ((rd_T70 l0 i).f2.size : Int), .string (⟨#[]⟩ : ByteArray)] (fun _ => True) (fun _ => False) rfl (by first | rfl | (go_simp; done) | (go_simp; rfl)) ?aP (fun _ hk => hk.elim) ?aF ?aO ?aB ?aS ?aL ?_; (case aP => exact k70_mkM _ _ _ (⟨1, ((rd_T70 l0 i).f2.size : Int), (⟨#[]⟩ : ByteArray)⟩ : S70)); (case aB => exact (by repeat (first | (with_reducible first | exact HB.out | apply below_alloc | apply pw_below_drewN | apply below_drew1) | exact HB.out))); (case aF => exact (fun _ _ => trivial)); (case aO => exact (by (with_reducible repeat (first | apply Kd.R_alloc | apply Kd.R_drewN | apply Kd.R_drew)); exact HO.out)); (case aS => exact (below_size (by repeat (first | (with_reducible first | exact HB.out | apply below_alloc | apply pw_below_drewN | apply below_drew1) | exact HB.out)))); (case aL => have := HLEN.out; omega); intro va wa ho hb hg hat; have n0_ := Aside0.mk hb; have n1_ := Aside0.mk ho; clear HB HO; have HB := n0_; have HO := n1_; clear n0_ n1_ ho hb hg hat))
      have HN := Aside0.mk (HJ.out.keep hil.out p2.out (fun h => q2.out h.2.1))
      go_roundg (ovM l0 l1 (i + 1) j)
      case measure => have h1 := HN.out.2; have h2 := HK.out; omega
      case rel => exact ⟨i + 1, j, x, y, out ++ [(⟨1, ((rd_T70 l0 i).f2.size : Int), noText⟩ : S70)], (by exact congrArg (Value.int .i64) HWI.out), rfl, rfl, rfl, ⟨HN.out.1⟩, ⟨rfl⟩, ⟨by (with_reducible repeat (first | apply Kd.R_alloc | apply Kd.R_drewN | apply Kd.R_drew)); exact HO.out⟩, ⟨by repeat (first | (with_reducible first | exact HB.out | apply below_alloc | apply pw_below_drewN | apply below_drew1) | exact HB.out)⟩⟩
    ·
     have p2 := Aside0.mk p2_
     clear p2_
     have p2b : ((rd_T70 l0 i).f0 == 2) = false := beq_eq_false_iff_ne.mpr p2.out
     by_cases q2_ : (rd_T70 l1 j).f0 = 2
     ·
      have q2 := Aside0.mk q2_
      clear q2_
      have q2b : ((rd_T70 l1 j).f0 == 2) = true := beq_iff_eq.mpr q2.out
      cases a2 with
      | true =>
       go_wp2_with (first | ((with_reducible refine gate_builtin (b := .append) (xs := #[.tmp 56, .tmp 61]) rfl ?_); at_builtin; refine Kd.R_append k70 (w0 := w) w.heap.size rfl (.tmp 56) (.tmp 61) 25 70 (.agg #[(.int .i64 0), (.int .i64 0), (.string ⟨#[]⟩)]) 32 rfl Try.underlying25 info70 rfl (by decide) (by omega) u9 out (⟨(rd_T70 l1 j).f0, (rd_T70 l1 j).f1, (rd_T70 l1 j).f2⟩ : S70) [.int .i64 (rd_T70 l1 j).f0, .int .i64 (rd_T70 l1 j).f1, .string (rd_T70 l1 j).f2] (fun _ => True) (fun _ => False) rfl (by first | rfl | (go_simp; done) | (go_simp; rfl)) ?aP (fun _ hk => hk.elim) ?aF ?aO ?aB ?aS ?aL ?_; (case aP => exact k70_mkM _ _ _ (⟨(rd_T70 l1 j).f0, (rd_T70 l1 j).f1, (rd_T70 l1 j).f2⟩ : S70)); (case aB => exact (by repeat (first | (with_reducible first | exact HB.out | apply below_alloc | apply pw_below_drewN | apply below_drew1) | exact HB.out))); (case aF => exact (fun _ _ => trivial)); (case aO => exact (by (with_reducible repeat (first | apply Kd.R_alloc | apply Kd.R_drewN | apply Kd.R_drew)); exact HO.out)); (case aS => exact (below_size (by repeat (first | (with_reducible first | exact HB.out | apply below_alloc | apply pw_below_drewN | apply below_drew1) | exact HB.out)))); (case aL => have := HLEN.out; omega); intro va wa ho hb hg hat; have n0_ := Aside0.mk hb; have n1_ := Aside0.mk ho; clear HB HO; have HB := n0_; have HO := n1_; clear n0_ n1_ ho hb hg hat))
       have HN := Aside0.mk (HJ.out.put hjl.out q2.out (.inl rfl))
       go_roundg (ovM l0 l1 i (j + 1))
       case measure => have h1 := HN.out.2; have h2 := HK.out; omega
       case rel => exact ⟨i, j + 1, x, y, out ++ [(rd_T70 l1 j)], rfl, (by exact congrArg (Value.int .i64) HWJ.out), rfl, rfl, ⟨HN.out.1⟩, ⟨rfl⟩, ⟨by (with_reducible repeat (first | apply Kd.R_alloc | apply Kd.R_drewN | apply Kd.R_drew)); exact HO.out⟩, ⟨by repeat (first | (with_reducible first | exact HB.out | apply below_alloc | apply pw_below_drewN | apply below_drew1) | exact HB.out)⟩⟩
      | false =>
       go_wp2_with (first | ((with_reducible refine gate_builtin (b := .append) (xs := #[.tmp 56, .tmp 61]) rfl ?_); at_builtin; refine Kd.R_append k70 (w0 := w) w.heap.size rfl (.tmp 56) (.tmp 61) 25 70 (.agg #[(.int .i64 0), (.int .i64 0), (.string ⟨#[]⟩)]) 32 rfl Try.underlying25 info70 rfl (by decide) (by omega) u9 out (⟨(rd_T70 l1 j).f0, (rd_T70 l1 j).f1, (rd_T70 l1 j).f2⟩ : S70) [.int .i64 (rd_T70 l1 j).f0, .int .i64 (rd_T70 l1 j).f1, .string (rd_T70 l1 j).f2] (fun _ => True) (fun _ => False) rfl (by first | rfl | (go_simp; done) | (go_simp; rfl)) ?aP (fun _ hk => hk.elim) ?aF ?aO ?aB ?aS ?aL ?_; (case aP => exact k70_mkM _ _ _ (⟨(rd_T70 l1 j).f0, (rd_T70 l1 j).f1, (rd_T70 l1 j).f2⟩ : S70)); (case aB => exact (by repeat (first | (with_reducible first | exact HB.out | apply below_alloc | apply pw_below_drewN | apply below_drew1) | exact HB.out))); (case aF => exact (fun _ _ => trivial)); (case aO => exact (by (with_reducible repeat (first | apply Kd.R_alloc | apply Kd.R_drewN | apply Kd.R_drew)); exact HO.out)); (case aS => exact (below_size (by repeat (first | (with_reducible first | exact HB.out | apply below_alloc | apply pw_below_drewN | apply below_drew1) | exact HB.out)))); (case aL => have := HLEN.out; omega); intro va wa ho hb hg hat; have n0_ := Aside0.mk hb; have n1_ := Aside0.mk ho; clear HB HO; have HB := n0_; have HO := n1_; clear n0_ n1_ ho hb hg hat))
       have HN := Aside0.mk (HJ.out.put hjl.out q2.out (.inr (fun h => p2.out h.2)))
       go_roundg (ovM l0 l1 i (j + 1))
       case measure => have h1 := HN.out.2; have h2 := HK.out; omega
       case rel => exact ⟨i, j + 1, x, y, out ++ [(rd_T70 l1 j)], rfl, (by exact congrArg (Value.int .i64) HWJ.out), rfl, rfl, ⟨HN.out.1⟩, ⟨rfl⟩, ⟨by (with_reducible repeat (first | apply Kd.R_alloc | apply Kd.R_drewN | apply Kd.R_drew)); exact HO.out⟩, ⟨by repeat (first | (with_reducible first | exact HB.out | apply below_alloc | apply pw_below_drewN | apply below_drew1) | exact HB.out)⟩⟩
     ·
      have q2 := Aside0.mk q2_
      clear q2_
      have q2b : ((rd_T70 l1 j).f0 == 2) = false := beq_eq_false_iff_ne.mpr q2.out
      have hbo := HJ.out.both HOKA.out HOKB.out hil.out hjl.out p2.out q2.out
      have hf0 : (rd_T70 l0 i).f1 ≤ 268435456 := by have h_ := HS0.out _ (rdI_in hi0 hil.out); rwa [opw, if_neg p2.out] at h_
      have hf1 : (rd_T70 l1 j).f1 ≤ 268435456 := by have h_ := HS1.out _ (rdI_in hj0 hjl.out); rwa [opw, if_neg q2.out] at h_
      obtain ⟨n, hn⟩ : ∃ n, n = ovN l0 l1 i j x y := ⟨_, rfl⟩
      rw [← hn] at hbo
      have HBO := Aside0.mk hbo
      have HWX := Aside0.mk (show wrap64 (x + n) = x + n from wrap_in (by omega) (by omega))
      have HWY := Aside0.mk (show wrap64 (y + n) = y + n from wrap_in (by omega) (by omega))
      have HNN := Aside0.mk (show (if wrap64 ((rd_T70 l1 j).f1 - y) < wrap64 ((rd_T70 l0 i).f1 - x) then wrap64 ((rd_T70 l1 j).f1 - y) else wrap64 ((rd_T70 l0 i).f1 - x)) = n from by rw [wrap_in (x := (rd_T70 l1 j).f1 - y) (by omega) (by omega), wrap_in (x := (rd_T70 l0 i).f1 - x) (by omega) (by omega), hn]; rfl)
      clear hbo hf0 hf1 hn
      go_upto_region 16 with (fail)
      go_cut [16] (fun v16 wc => v16 = .int .i64 n ∧ Aside0 (Kd.R k70 70 wc w.heap.size (fun _ => True) u9 out) ∧ Aside0 (Below w.heap.size w wc))
      case first =>
       go_wp2
       refine start_ (n := 16) (S := fun w' => w'.cell? ⟨(ad0.add (i.toNat * 3)).block, (ad0.add (i.toNat * 3)).off + 1, none⟩ = some (.int .i64 (rd_T70 l0 i).f1) ∧ w'.cell? ⟨(ad1.add (j.toNat * 3)).block, (ad1.add (j.toNat * 3)).off + 1, none⟩ = some (.int .i64 (rd_T70 l1 j).f1)) (ds := []) #[false, false, false, false, false, false, false, false, false, false, false, false, false, false, false, false] (by kernel_rfl) rfl rfl ⟨hx0_1, hx1_1⟩ (fun hHeld => ?_)
       refine pure_ (i := 0) (N := some 90) (v := ?_) (a' := ?_) #[true, false, false, false, false, false, false, false, false, false, false, false, false, false, false, false] rfl rfl (by kernel_rfl) (fun _ _ _ h => h) (Or.inl ⟨by rfl, ?_⟩) ?_ ?_
       rotate_left
       ·
        intro w'
        go_simp
        with_reducible rfl
       rotate_left
       ·
        simp only [Act.put, List.setIfInBounds_toArray, List.set_cons_zero, List.set_cons_succ, i64_w, i32_w]
        rfl
       refine pure_ (i := 1) (N := some 91) (v := ?_) (a' := ?_) #[true, true, false, false, false, false, false, false, false, false, false, false, false, false, false, false] rfl rfl (by kernel_rfl) (fun _ _ _ h => h) (Or.inl ⟨by rfl, ?_⟩) ?_ ?_
       rotate_left
       ·
        intro w'
        go_simp
        with_reducible rfl
       rotate_left
       ·
        simp only [Act.put, List.setIfInBounds_toArray, List.set_cons_zero, List.set_cons_succ, i64_w, i32_w]
        rfl
       refine pure_ (i := 2) (N := some 92) (v := ?_) (a' := ?_) #[true, true, true, false, false, false, false, false, false, false, false, false, false, false, false, false] rfl rfl (by kernel_rfl) (fun _ _ _ h => h) (Or.inl ⟨by rfl, ?_⟩) ?_ ?_
       rotate_left
       ·
        intro w'
        go_simp
        with_reducible rfl
       rotate_left
       ·
        simp only [Act.put, List.setIfInBounds_toArray, List.set_cons_zero, List.set_cons_succ, i64_w, i32_w]
        rfl
       refine pure_ (i := 3) (N := some 93) (v := ?_) (a' := ?_) #[true, true, true, true, false, false, false, false, false, false, false, false, false, false, false, false] rfl rfl (by kernel_rfl) (fun _ _ _ h => h) (Or.inl ⟨by rfl, ?_⟩) ?_ ?_
       rotate_left
       ·
        intro w'
        go_simp
        with_reducible rfl
       rotate_left
       ·
        simp only [Act.put, List.setIfInBounds_toArray, List.set_cons_zero, List.set_cons_succ, i64_w, i32_w]
        rfl
       refine pure_ (i := 5) (N := some 95) (v := ?_) (a' := ?_) #[true, true, true, true, false, true, false, false, false, false, false, false, false, false, false, false] rfl rfl (by kernel_rfl) (fun _ _ _ h => h) (Or.inl ⟨by rfl, ?_⟩) ?_ ?_
       rotate_left
       ·
        intro w'
        go_simp
        with_reducible rfl
       rotate_left
       ·
        simp only [Act.put, List.setIfInBounds_toArray, List.set_cons_zero, List.set_cons_succ, i64_w, i32_w]
        rfl
       refine pure_ (i := 7) (N := some 97) (v := ?_) (a' := ?_) #[true, true, true, true, false, true, false, true, false, false, false, false, false, false, false, false] rfl rfl (by kernel_rfl) (fun _ _ _ h => h) (Or.inl ⟨by rfl, ?_⟩) ?_ ?_
       rotate_left
       ·
        intro w'
        go_simp
        with_reducible rfl
       rotate_left
       ·
        simp only [Act.put, List.setIfInBounds_toArray, List.set_cons_zero, List.set_cons_succ, i64_w, i32_w]
        rfl
       refine pure_ (i := 8) (N := some 98) (v := ?_) (a' := ?_) #[true, true, true, true, false, true, false, true, true, false, false, false, false, false, false, false] rfl rfl (by kernel_rfl) (fun _ _ _ h => h) (Or.inl ⟨by rfl, ?_⟩) ?_ ?_
       rotate_left
       ·
        intro w'
        go_simp
        with_reducible rfl
       rotate_left
       ·
        simp only [Act.put, List.setIfInBounds_toArray, List.set_cons_zero, List.set_cons_succ, i64_w, i32_w]
        rfl
       refine pure_ (i := 9) (N := some 99) (v := ?_) (a' := ?_) #[true, true, true, true, false, true, false, true, true, true, false, false, false, false, false, false] rfl rfl (by kernel_rfl) (fun _ _ _ h => h) (Or.inl ⟨by rfl, ?_⟩) ?_ ?_
       rotate_left
       ·
        intro w'
        go_simp
        with_reducible rfl
       rotate_left
       ·
        simp only [Act.put, List.setIfInBounds_toArray, List.set_cons_zero, List.set_cons_succ, i64_w, i32_w]
        rfl
       refine pure_ (i := 10) (N := some 100) (v := ?_) (a' := ?_) #[true, true, true, true, false, true, false, true, true, true, true, false, false, false, false, false] rfl rfl (by kernel_rfl) (fun _ _ _ h => h) (Or.inl ⟨by rfl, ?_⟩) ?_ ?_
       rotate_left
       ·
        intro w'
        go_simp
        with_reducible rfl
       rotate_left
       ·
        simp only [Act.put, List.setIfInBounds_toArray, List.set_cons_zero, List.set_cons_succ, i64_w, i32_w]
        rfl
       refine pure_ (i := 12) (N := some 102) (v := ?_) (a' := ?_) #[true, true, true, true, false, true, false, true, true, true, true, false, true, false, false, false] rfl rfl (by kernel_rfl) (fun _ _ _ h => h) (Or.inl ⟨by rfl, ?_⟩) ?_ ?_
       rotate_left
       ·
        intro w'
        go_simp
        with_reducible rfl
       rotate_left
       ·
        simp only [Act.put, List.setIfInBounds_toArray, List.set_cons_zero, List.set_cons_succ, i64_w, i32_w]
        rfl
       refine take_ (i := 4) (N := some 94) (v := ?_) (a' := ?_) #[true, true, true, true, true, true, false, true, true, true, true, false, true, false, false, false] rfl rfl (by kernel_rfl) (fun _ _ _ h => h) (Or.inl ⟨by rfl, ?_⟩) hHeld ?_ ?_
       rotate_left
       ·
        rintro w' ⟨s0, s1⟩
        go_simp
        with_reducible rfl
       rotate_left
       ·
        simp only [Act.put, List.setIfInBounds_toArray, List.set_cons_zero, List.set_cons_succ, i64_w, i32_w]
        rfl
       refine pure_ (i := 6) (N := some 96) (v := ?_) (a' := ?_) #[true, true, true, true, true, true, true, true, true, true, true, false, true, false, false, false] rfl rfl (by kernel_rfl) (fun _ _ _ h => h) (Or.inl ⟨by rfl, ?_⟩) ?_ ?_
       rotate_left
       ·
        intro w'
        go_simp
        with_reducible rfl
       rotate_left
       ·
        simp only [Act.put, List.setIfInBounds_toArray, List.set_cons_zero, List.set_cons_succ, i64_w, i32_w]
        rfl
       refine take_ (i := 11) (N := some 101) (v := ?_) (a' := ?_) #[true, true, true, true, true, true, true, true, true, true, true, true, true, false, false, false] rfl rfl (by kernel_rfl) (fun _ _ _ h => h) (Or.inl ⟨by rfl, ?_⟩) hHeld ?_ ?_
       rotate_left
       ·
        rintro w' ⟨s0, s1⟩
        go_simp
        with_reducible rfl
       rotate_left
       ·
        simp only [Act.put, List.setIfInBounds_toArray, List.set_cons_zero, List.set_cons_succ, i64_w, i32_w]
        rfl
       refine pure_ (i := 13) (N := some 103) (v := ?_) (a' := ?_) #[true, true, true, true, true, true, true, true, true, true, true, true, true, true, false, false] rfl rfl (by kernel_rfl) (fun _ _ _ h => h) (Or.inl ⟨by rfl, ?_⟩) ?_ ?_
       rotate_left
       ·
        intro w'
        go_simp
        with_reducible rfl
       rotate_left
       ·
        simp only [Act.put, List.setIfInBounds_toArray, List.set_cons_zero, List.set_cons_succ, i64_w, i32_w]
        rfl
       refine pure_ (i := 14) (N := some 104) (v := ?_) (a' := ?_) #[true, true, true, true, true, true, true, true, true, true, true, true, true, true, true, false] rfl rfl (by kernel_rfl) (fun _ _ _ h => h) (Or.inl ⟨by rfl, ?_⟩) ?_ ?_
       rotate_left
       ·
        intro w'
        go_simp
        with_reducible rfl
       rotate_left
       ·
        simp only [Act.put, List.setIfInBounds_toArray, List.set_cons_zero, List.set_cons_succ, i64_w, i32_w]
        rfl
       refine pure_ (i := 15) (N := some 16) (v := ?_) (a' := ?_) #[true, true, true, true, true, true, true, true, true, true, true, true, true, true, true, true] rfl rfl (by kernel_rfl) (fun _ _ _ h => h) (Or.inl ⟨by rfl, ?_⟩) ?_ ?_
       rotate_left
       ·
        intro w'
        go_simp
        with_reducible rfl
       rotate_left
       ·
        simp only [Act.put, List.setIfInBounds_toArray, List.set_cons_zero, List.set_cons_succ, i64_w, i32_w]
        rfl
       refine done_ (by kernel_rfl) ?_
       rw [HNN.out]
       go_wp2
       go_meet
       case rel => exact ⟨rfl, ⟨by (with_reducible repeat (first | apply Kd.R_alloc | apply Kd.R_drewN | apply Kd.R_drew)); exact HO.out⟩, ⟨by repeat (first | (with_reducible first | exact HB.out | apply below_alloc | apply pw_below_drewN | apply below_drew1) | exact HB.out)⟩⟩
      case rest =>
       clear hx0_0 hx0_1 hx0_2 hx1_0 hx1_1 hx1_2 HO HB
       obtain ⟨rfl, HO, HB⟩ := hcut
       obtain ⟨ad2, ed2, hx2_0, hx2_1, hx2_2⟩ := at_T70 HR0.out i hi0 hil.out
       obtain rfl : ad0 = ad2 := (by injection ed2)
       have HXW2 := Aside0.mk hx2_1
       replace hx2_0 := (HB.out.cell (World.block_lt_of_cell? w _ hx2_0)).trans hx2_0
       replace hx2_1 := (HB.out.cell (World.block_lt_of_cell? w _ hx2_1)).trans hx2_1
       replace hx2_2 := (HB.out.cell (World.block_lt_of_cell? w _ hx2_2)).trans hx2_2
       obtain ⟨ad3, ed3, hx3_0, hx3_1, hx3_2⟩ := at_T70 HR1.out j hj0 hjl.out
       obtain rfl : ad1 = ad3 := (by injection ed3)
       have HXW3 := Aside0.mk hx3_1
       replace hx3_0 := (HB.out.cell (World.block_lt_of_cell? w _ hx3_0)).trans hx3_0
       replace hx3_1 := (HB.out.cell (World.block_lt_of_cell? w _ hx3_1)).trans hx3_1
       replace hx3_2 := (HB.out.cell (World.block_lt_of_cell? w _ hx3_2)).trans hx3_2
       by_cases cx_ : x + n = (rd_T70 l0 i).f1
       ·
        have cx := Aside0.mk cx_
        clear cx_
        have cxb : (wrap64 (x + n) == (rd_T70 l0 i).f1) = true := by rw [HWX.out]; exact beq_iff_eq.mpr cx.out
        by_cases cy_ : y + n = (rd_T70 l1 j).f1
        ·
         have cy := Aside0.mk cy_
         clear cy_
         have cyb : (wrap64 (y + n) == (rd_T70 l1 j).f1) = true := by rw [HWY.out]; exact beq_iff_eq.mpr cy.out
         by_cases k1_ : (rd_T70 l0 i).f0 = 1
         ·
          have k1 := Aside0.mk k1_
          clear k1_
          have k1b : ((rd_T70 l0 i).f0 == 1) = true := beq_iff_eq.mpr k1.out
          have hn_ := HBO.out
          simp only [if_pos k1.out, if_pos cx.out, if_pos cy.out] at hn_
          have HN := Aside0.mk hn_
          clear hn_
          go_wp2_with (first | ((with_reducible refine gate_builtin (b := .append) (xs := #[.tmp 111, .tmp 119]) rfl ?_); at_builtin; refine Kd.R_append k70 (w0 := w) w.heap.size rfl (.tmp 111) (.tmp 119) 25 70 (.agg #[(.int .i64 0), (.int .i64 0), (.string ⟨#[]⟩)]) 32 rfl Try.underlying25 info70 rfl (by decide) (by omega) u9 out (⟨(rd_T70 l1 j).f0, n, (⟨#[]⟩ : ByteArray)⟩ : S70) [.int .i64 (rd_T70 l1 j).f0, .int .i64 n, .string (⟨#[]⟩ : ByteArray)] (fun _ => True) (fun _ => False) rfl (by first | rfl | (go_simp; done) | (go_simp; rfl)) ?aP (fun _ hk => hk.elim) ?aF ?aO ?aB ?aS ?aL ?_; (case aP => exact k70_mkM _ _ _ (⟨(rd_T70 l1 j).f0, n, (⟨#[]⟩ : ByteArray)⟩ : S70)); (case aB => exact (by repeat (first | (with_reducible first | exact HB.out | apply below_alloc | apply pw_below_drewN | apply below_drew1) | exact HB.out))); (case aF => exact (fun _ _ => trivial)); (case aO => exact (by (with_reducible repeat (first | apply Kd.R_alloc | apply Kd.R_drewN | apply Kd.R_drew)); exact HO.out)); (case aS => exact (below_size (by repeat (first | (with_reducible first | exact HB.out | apply below_alloc | apply pw_below_drewN | apply below_drew1) | exact HB.out)))); (case aL => have := HLEN.out; omega); intro va wa ho hb hg hat; have n0_ := Aside0.mk hb; have n1_ := Aside0.mk ho; clear HB HO; have HB := n0_; have HO := n1_; clear n0_ n1_ ho hb hg hat; have ga_ := (HB.out.cell (World.block_lt_of_cell? w _ HXW2.out)).trans HXW2.out; have gb_ := (HB.out.cell (World.block_lt_of_cell? w _ HXW3.out)).trans HXW3.out))
          go_roundg (ovM l0 l1 (i + 1) (j + 1))
          case measure => have h1 := HN.out.2.1; have h2 := HK.out; omega
          case rel => exact ⟨(i + 1), (j + 1), 0, 0, out ++ [(⟨(rd_T70 l1 j).f0, n, noText⟩ : S70)], (by exact congrArg (Value.int .i64) HWI.out), (by exact congrArg (Value.int .i64) HWJ.out), rfl, rfl, ⟨HN.out.1⟩, ⟨rfl⟩, ⟨by (with_reducible repeat (first | apply Kd.R_alloc | apply Kd.R_drewN | apply Kd.R_drew)); exact HO.out⟩, ⟨by repeat (first | (with_reducible first | exact HB.out | apply below_alloc | apply pw_below_drewN | apply below_drew1) | exact HB.out)⟩⟩
         ·
          have k1 := Aside0.mk k1_
          clear k1_
          have k1b : ((rd_T70 l0 i).f0 == 1) = false := beq_eq_false_iff_ne.mpr k1.out
          have hn_ := HBO.out
          simp only [if_neg k1.out, if_pos cx.out, if_pos cy.out, List.append_nil] at hn_
          have HN := Aside0.mk hn_
          clear hn_
          go_wp2
          go_roundg (ovM l0 l1 (i + 1) (j + 1))
          case measure => have h1 := HN.out.2.1; have h2 := HK.out; omega
          case rel => exact ⟨(i + 1), (j + 1), 0, 0, out, (by exact congrArg (Value.int .i64) HWI.out), (by exact congrArg (Value.int .i64) HWJ.out), rfl, rfl, ⟨HN.out.1⟩, ⟨rfl⟩, ⟨by (with_reducible repeat (first | apply Kd.R_alloc | apply Kd.R_drewN | apply Kd.R_drew)); exact HO.out⟩, ⟨by repeat (first | (with_reducible first | exact HB.out | apply below_alloc | apply pw_below_drewN | apply below_drew1) | exact HB.out)⟩⟩
        ·
         have cy := Aside0.mk cy_
         clear cy_
         have cyb : (wrap64 (y + n) == (rd_T70 l1 j).f1) = false := by rw [HWY.out]; exact beq_eq_false_iff_ne.mpr cy.out
         by_cases k1_ : (rd_T70 l0 i).f0 = 1
         ·
          have k1 := Aside0.mk k1_
          clear k1_
          have k1b : ((rd_T70 l0 i).f0 == 1) = true := beq_iff_eq.mpr k1.out
          have hn_ := HBO.out
          simp only [if_pos k1.out, if_pos cx.out, if_neg cy.out] at hn_
          have HN := Aside0.mk hn_
          clear hn_
          go_wp2_with (first | ((with_reducible refine gate_builtin (b := .append) (xs := #[.tmp 111, .tmp 119]) rfl ?_); at_builtin; refine Kd.R_append k70 (w0 := w) w.heap.size rfl (.tmp 111) (.tmp 119) 25 70 (.agg #[(.int .i64 0), (.int .i64 0), (.string ⟨#[]⟩)]) 32 rfl Try.underlying25 info70 rfl (by decide) (by omega) u9 out (⟨(rd_T70 l1 j).f0, n, (⟨#[]⟩ : ByteArray)⟩ : S70) [.int .i64 (rd_T70 l1 j).f0, .int .i64 n, .string (⟨#[]⟩ : ByteArray)] (fun _ => True) (fun _ => False) rfl (by first | rfl | (go_simp; done) | (go_simp; rfl)) ?aP (fun _ hk => hk.elim) ?aF ?aO ?aB ?aS ?aL ?_; (case aP => exact k70_mkM _ _ _ (⟨(rd_T70 l1 j).f0, n, (⟨#[]⟩ : ByteArray)⟩ : S70)); (case aB => exact (by repeat (first | (with_reducible first | exact HB.out | apply below_alloc | apply pw_below_drewN | apply below_drew1) | exact HB.out))); (case aF => exact (fun _ _ => trivial)); (case aO => exact (by (with_reducible repeat (first | apply Kd.R_alloc | apply Kd.R_drewN | apply Kd.R_drew)); exact HO.out)); (case aS => exact (below_size (by repeat (first | (with_reducible first | exact HB.out | apply below_alloc | apply pw_below_drewN | apply below_drew1) | exact HB.out)))); (case aL => have := HLEN.out; omega); intro va wa ho hb hg hat; have n0_ := Aside0.mk hb; have n1_ := Aside0.mk ho; clear HB HO; have HB := n0_; have HO := n1_; clear n0_ n1_ ho hb hg hat; have ga_ := (HB.out.cell (World.block_lt_of_cell? w _ HXW2.out)).trans HXW2.out; have gb_ := (HB.out.cell (World.block_lt_of_cell? w _ HXW3.out)).trans HXW3.out))
          go_roundg (ovM l0 l1 (i + 1) j)
          case measure => have h1 := HN.out.2.1; have h2 := HK.out; omega
          case rel => exact ⟨(i + 1), j, 0, y + n, out ++ [(⟨(rd_T70 l1 j).f0, n, noText⟩ : S70)], (by exact congrArg (Value.int .i64) HWI.out), rfl, rfl, (by exact congrArg (Value.int .i64) HWY.out), ⟨HN.out.1⟩, ⟨rfl⟩, ⟨by (with_reducible repeat (first | apply Kd.R_alloc | apply Kd.R_drewN | apply Kd.R_drew)); exact HO.out⟩, ⟨by repeat (first | (with_reducible first | exact HB.out | apply below_alloc | apply pw_below_drewN | apply below_drew1) | exact HB.out)⟩⟩
         ·
          have k1 := Aside0.mk k1_
          clear k1_
          have k1b : ((rd_T70 l0 i).f0 == 1) = false := beq_eq_false_iff_ne.mpr k1.out
          have hn_ := HBO.out
          simp only [if_neg k1.out, if_pos cx.out, if_neg cy.out, List.append_nil] at hn_
          have HN := Aside0.mk hn_
          clear hn_
          go_wp2
          go_roundg (ovM l0 l1 (i + 1) j)
          case measure => have h1 := HN.out.2.1; have h2 := HK.out; omega
          case rel => exact ⟨(i + 1), j, 0, y + n, out, (by exact congrArg (Value.int .i64) HWI.out), rfl, rfl, (by exact congrArg (Value.int .i64) HWY.out), ⟨HN.out.1⟩, ⟨rfl⟩, ⟨by (with_reducible repeat (first | apply Kd.R_alloc | apply Kd.R_drewN | apply Kd.R_drew)); exact HO.out⟩, ⟨by repeat (first | (with_reducible first | exact HB.out | apply below_alloc | apply pw_below_drewN | apply below_drew1) | exact HB.out)⟩⟩
       ·
        have cx := Aside0.mk cx_
        clear cx_
        have cxb : (wrap64 (x + n) == (rd_T70 l0 i).f1) = false := by rw [HWX.out]; exact beq_eq_false_iff_ne.mpr cx.out
        have cy_ : y + n = (rd_T70 l1 j).f1 := HBO.out.2.2.1.resolve_left cx.out
        have cy := Aside0.mk cy_
        clear cy_
        have cyb : (wrap64 (y + n) == (rd_T70 l1 j).f1) = true := by rw [HWY.out]; exact beq_iff_eq.mpr cy.out
        by_cases k1_ : (rd_T70 l0 i).f0 = 1
        ·
         have k1 := Aside0.mk k1_
         clear k1_
         have k1b : ((rd_T70 l0 i).f0 == 1) = true := beq_iff_eq.mpr k1.out
         have hn_ := HBO.out
         simp only [if_pos k1.out, if_neg cx.out, if_pos cy.out] at hn_
         have HN := Aside0.mk hn_
         clear hn_
         go_wp2_with (first | ((with_reducible refine gate_builtin (b := .append) (xs := #[.tmp 111, .tmp 119]) rfl ?_); at_builtin; refine Kd.R_append k70 (w0 := w) w.heap.size rfl (.tmp 111) (.tmp 119) 25 70 (.agg #[(.int .i64 0), (.int .i64 0), (.string ⟨#[]⟩)]) 32 rfl Try.underlying25 info70 rfl (by decide) (by omega) u9 out (⟨(rd_T70 l1 j).f0, n, (⟨#[]⟩ : ByteArray)⟩ : S70) [.int .i64 (rd_T70 l1 j).f0, .int .i64 n, .string (⟨#[]⟩ : ByteArray)] (fun _ => True) (fun _ => False) rfl (by first | rfl | (go_simp; done) | (go_simp; rfl)) ?aP (fun _ hk => hk.elim) ?aF ?aO ?aB ?aS ?aL ?_; (case aP => exact k70_mkM _ _ _ (⟨(rd_T70 l1 j).f0, n, (⟨#[]⟩ : ByteArray)⟩ : S70)); (case aB => exact (by repeat (first | (with_reducible first | exact HB.out | apply below_alloc | apply pw_below_drewN | apply below_drew1) | exact HB.out))); (case aF => exact (fun _ _ => trivial)); (case aO => exact (by (with_reducible repeat (first | apply Kd.R_alloc | apply Kd.R_drewN | apply Kd.R_drew)); exact HO.out)); (case aS => exact (below_size (by repeat (first | (with_reducible first | exact HB.out | apply below_alloc | apply pw_below_drewN | apply below_drew1) | exact HB.out)))); (case aL => have := HLEN.out; omega); intro va wa ho hb hg hat; have n0_ := Aside0.mk hb; have n1_ := Aside0.mk ho; clear HB HO; have HB := n0_; have HO := n1_; clear n0_ n1_ ho hb hg hat; have ga_ := (HB.out.cell (World.block_lt_of_cell? w _ HXW2.out)).trans HXW2.out; have gb_ := (HB.out.cell (World.block_lt_of_cell? w _ HXW3.out)).trans HXW3.out))
         go_roundg (ovM l0 l1 i (j + 1))
         case measure => have h1 := HN.out.2.1; have h2 := HK.out; omega
         case rel => exact ⟨i, (j + 1), x + n, 0, out ++ [(⟨(rd_T70 l1 j).f0, n, noText⟩ : S70)], rfl, (by exact congrArg (Value.int .i64) HWJ.out), (by exact congrArg (Value.int .i64) HWX.out), rfl, ⟨HN.out.1⟩, ⟨rfl⟩, ⟨by (with_reducible repeat (first | apply Kd.R_alloc | apply Kd.R_drewN | apply Kd.R_drew)); exact HO.out⟩, ⟨by repeat (first | (with_reducible first | exact HB.out | apply below_alloc | apply pw_below_drewN | apply below_drew1) | exact HB.out)⟩⟩
        ·
         have k1 := Aside0.mk k1_
         clear k1_
         have k1b : ((rd_T70 l0 i).f0 == 1) = false := beq_eq_false_iff_ne.mpr k1.out
         have hn_ := HBO.out
         simp only [if_neg k1.out, if_neg cx.out, if_pos cy.out, List.append_nil] at hn_
         have HN := Aside0.mk hn_
         clear hn_
         go_wp2
         go_roundg (ovM l0 l1 i (j + 1))
         case measure => have h1 := HN.out.2.1; have h2 := HK.out; omega
         case rel => exact ⟨i, (j + 1), x + n, 0, out, rfl, (by exact congrArg (Value.int .i64) HWJ.out), (by exact congrArg (Value.int .i64) HWX.out), rfl, ⟨HN.out.1⟩, ⟨rfl⟩, ⟨by (with_reducible repeat (first | apply Kd.R_alloc | apply Kd.R_drewN | apply Kd.R_drew)); exact HO.out⟩, ⟨by repeat (first | (with_reducible first | exact HB.out | apply below_alloc | apply pw_below_drewN | apply below_drew1) | exact HB.out)⟩⟩
   ·
    have hjl := Aside0.mk hjl_
    clear hjl_
    have hjlb : decide (j < (l1.length : Int)) = false := decide_eq_false hjl.out
    have hjlg : decide ((l1.length : Int) ≤ j) = true := decide_eq_true (by have := hjl.out; omega)
    have hqi : (i.toNat < l0.length) = True := eq_true (by have := hil.out; omega)
    have hti : (i < (l0.length : Int)) = True := eq_true hil.out
    by_cases p2_ : (rd_T70 l0 i).f0 = 2
    ·
     have p2 := Aside0.mk p2_
     clear p2_
     have p2b : ((rd_T70 l0 i).f0 == 2) = true := beq_iff_eq.mpr p2.out
     go_wp2_with (first | ((with_reducible refine gate_builtin (b := .append) (xs := #[.tmp 67, .tmp 75]) rfl ?_); at_builtin; refine Kd.R_append k70 (w0 := w) w.heap.size rfl (.tmp 67) (.tmp 75) 25 70 (.agg #[(.int .i64 0), (.int .i64 0), (.string ⟨#[]⟩)]) 32 rfl Try.underlying25 info70 rfl (by decide) (by omega) u9 out (⟨1, ((rd_T70 l0 i).f2.size : Int), (⟨#[]⟩ : ByteArray)⟩ : S70) [.int .i64 1, .int .i64 ((rd_T70 l0 i).f2.size : Int), .string (⟨#[]⟩ : ByteArray)] (fun _ => True) (fun _ => False) rfl (by first | rfl | (go_simp; done) | (go_simp; rfl)) ?aP (fun _ hk => hk.elim) ?aF ?aO ?aB ?aS ?aL ?_; (case aP => exact k70_mkM _ _ _ (⟨1, ((rd_T70 l0 i).f2.size : Int), (⟨#[]⟩ : ByteArray)⟩ : S70)); (case aB => exact (by repeat (first | (with_reducible first | exact HB.out | apply below_alloc | apply pw_below_drewN | apply below_drew1) | exact HB.out))); (case aF => exact (fun _ _ => trivial)); (case aO => exact (by (with_reducible repeat (first | apply Kd.R_alloc | apply Kd.R_drewN | apply Kd.R_drew)); exact HO.out)); (case aS => exact (below_size (by repeat (first | (with_reducible first | exact HB.out | apply below_alloc | apply pw_below_drewN | apply below_drew1) | exact HB.out)))); (case aL => have := HLEN.out; omega); intro va wa ho hb hg hat; have n0_ := Aside0.mk hb; have n1_ := Aside0.mk ho; clear HB HO; have HB := n0_; have HO := n1_; clear n0_ n1_ ho hb hg hat))
     have HN := Aside0.mk (HJ.out.keep hil.out p2.out (fun h => absurd h.1 (by have := hjl.out; omega)))
     go_roundg (ovM l0 l1 (i + 1) j)
     case measure => have h1 := HN.out.2; have h2 := HK.out; omega
     case rel => exact ⟨i + 1, j, x, y, out ++ [(⟨1, ((rd_T70 l0 i).f2.size : Int), noText⟩ : S70)], (by exact congrArg (Value.int .i64) HWI.out), rfl, rfl, rfl, ⟨HN.out.1⟩, ⟨rfl⟩, ⟨by (with_reducible repeat (first | apply Kd.R_alloc | apply Kd.R_drewN | apply Kd.R_drew)); exact HO.out⟩, ⟨by repeat (first | (with_reducible first | exact HB.out | apply below_alloc | apply pw_below_drewN | apply below_drew1) | exact HB.out)⟩⟩
    ·
     have p2 := Aside0.mk p2_
     clear p2_
     have p2b : ((rd_T70 l0 i).f0 == 2) = false := beq_eq_false_iff_ne.mpr p2.out
     have hTo := HJ.out.stop (fun h => absurd h.2 (by have := hjl.out; omega)) (fun h => p2.out h.2) (fun h => absurd h.1 (by have := hjl.out; omega))
     subst hTo
     obtain ⟨Ao, co, eo⟩ := Kd.R_slice HO.out
     subst eo
     go_wp2_with ((with_reducible refine gate_callee (f := 36) rfl ?_); refine goesL_ (some 146) rfl rfl Try.func36 (by kernel_rfl) rfl #[.slice Ao T.length co] rfl (by (try simp only [List.map_toArray, List.map_cons, List.map_nil]); first | done | rfl | (simp only [List.length_drop, List.length_take]; rfl)) ?_; (with_reducible refine (delta_Canon.calls _ _ T _ _ _ ?s1 (Kd.R_reads' HO.out).2.1 HRES.out).mono ?_); (case s1 => repeat (first | exact (Kd.R_reads' HO.out).2.2 | (with_reducible refine Kd.C_alloc ?_ _) | (with_reducible refine Kd.C_drewN ?_ _) | (with_reducible refine Kd.C_drew ?_))); rintro e wz ⟨vz, rfl, hz1, hz2⟩; refine ⟨_, rfl, ?_⟩; have HZ := Aside0.mk (Kd.R_lower hz1 (below_size (by repeat (first | (with_reducible first | exact HB.out | apply below_alloc | apply pw_below_drewN | apply below_drew1) | exact HB.out)))); have n0_ := Aside0.mk (below_step (by repeat (first | (with_reducible first | exact HB.out | apply below_alloc | apply pw_below_drewN | apply below_drew1) | exact HB.out)) hz2); clear HB; have HB := n0_; clear n0_ hz1 hz2)
     try rw [Exit.noGoto_ret]
     go_ret2
     exact ⟨_, rfl, HZ.out, HB.out⟩
  ·
   have hil := Aside0.mk hil_
   clear hil_
   have hilb : decide (i < (l0.length : Int)) = false := decide_eq_false hil.out
   have hilg : decide ((l0.length : Int) ≤ i) = true := decide_eq_true (by have := hil.out; omega)
   by_cases hjl_ : j < (l1.length : Int)
   ·
    have hjl := Aside0.mk hjl_
    clear hjl_
    have hjlb : decide (j < (l1.length : Int)) = true := decide_eq_true hjl.out
    have hjlg : decide ((l1.length : Int) ≤ j) = false := decide_eq_false (by have := hjl.out; omega)
    obtain ⟨ad1, ed1, hx1_0, hx1_1, hx1_2⟩ := at_T70 HR1.out j hj0 hjl.out
    cases ed1
    replace hx1_0 := (HB.out.cell (World.block_lt_of_cell? w _ hx1_0)).trans hx1_0
    replace hx1_1 := (HB.out.cell (World.block_lt_of_cell? w _ hx1_1)).trans hx1_1
    replace hx1_2 := (HB.out.cell (World.block_lt_of_cell? w _ hx1_2)).trans hx1_2
    have hqj : (j.toNat < l1.length) = True := eq_true (by have := hjl.out; omega)
    have htj : (j < (l1.length : Int)) = True := eq_true hjl.out
    by_cases q2_ : (rd_T70 l1 j).f0 = 2
    ·
     have q2 := Aside0.mk q2_
     clear q2_
     have q2b : ((rd_T70 l1 j).f0 == 2) = true := beq_iff_eq.mpr q2.out
     cases a2 with
     | true =>
      go_wp2_with (first | ((with_reducible refine gate_builtin (b := .append) (xs := #[.tmp 56, .tmp 61]) rfl ?_); at_builtin; refine Kd.R_append k70 (w0 := w) w.heap.size rfl (.tmp 56) (.tmp 61) 25 70 (.agg #[(.int .i64 0), (.int .i64 0), (.string ⟨#[]⟩)]) 32 rfl Try.underlying25 info70 rfl (by decide) (by omega) u9 out (⟨(rd_T70 l1 j).f0, (rd_T70 l1 j).f1, (rd_T70 l1 j).f2⟩ : S70) [.int .i64 (rd_T70 l1 j).f0, .int .i64 (rd_T70 l1 j).f1, .string (rd_T70 l1 j).f2] (fun _ => True) (fun _ => False) rfl (by first | rfl | (go_simp; done) | (go_simp; rfl)) ?aP (fun _ hk => hk.elim) ?aF ?aO ?aB ?aS ?aL ?_; (case aP => exact k70_mkM _ _ _ (⟨(rd_T70 l1 j).f0, (rd_T70 l1 j).f1, (rd_T70 l1 j).f2⟩ : S70)); (case aB => exact (by repeat (first | (with_reducible first | exact HB.out | apply below_alloc | apply pw_below_drewN | apply below_drew1) | exact HB.out))); (case aF => exact (fun _ _ => trivial)); (case aO => exact (by (with_reducible repeat (first | apply Kd.R_alloc | apply Kd.R_drewN | apply Kd.R_drew)); exact HO.out)); (case aS => exact (below_size (by repeat (first | (with_reducible first | exact HB.out | apply below_alloc | apply pw_below_drewN | apply below_drew1) | exact HB.out)))); (case aL => have := HLEN.out; omega); intro va wa ho hb hg hat; have n0_ := Aside0.mk hb; have n1_ := Aside0.mk ho; clear HB HO; have HB := n0_; have HO := n1_; clear n0_ n1_ ho hb hg hat))
      have HN := Aside0.mk (HJ.out.put hjl.out q2.out (.inl rfl))
      go_roundg (ovM l0 l1 i (j + 1))
      case measure => have h1 := HN.out.2; have h2 := HK.out; omega
      case rel => exact ⟨i, j + 1, x, y, out ++ [(rd_T70 l1 j)], rfl, (by exact congrArg (Value.int .i64) HWJ.out), rfl, rfl, ⟨HN.out.1⟩, ⟨rfl⟩, ⟨by (with_reducible repeat (first | apply Kd.R_alloc | apply Kd.R_drewN | apply Kd.R_drew)); exact HO.out⟩, ⟨by repeat (first | (with_reducible first | exact HB.out | apply below_alloc | apply pw_below_drewN | apply below_drew1) | exact HB.out)⟩⟩
     | false =>
      go_wp2_with (first | ((with_reducible refine gate_builtin (b := .append) (xs := #[.tmp 56, .tmp 61]) rfl ?_); at_builtin; refine Kd.R_append k70 (w0 := w) w.heap.size rfl (.tmp 56) (.tmp 61) 25 70 (.agg #[(.int .i64 0), (.int .i64 0), (.string ⟨#[]⟩)]) 32 rfl Try.underlying25 info70 rfl (by decide) (by omega) u9 out (⟨(rd_T70 l1 j).f0, (rd_T70 l1 j).f1, (rd_T70 l1 j).f2⟩ : S70) [.int .i64 (rd_T70 l1 j).f0, .int .i64 (rd_T70 l1 j).f1, .string (rd_T70 l1 j).f2] (fun _ => True) (fun _ => False) rfl (by first | rfl | (go_simp; done) | (go_simp; rfl)) ?aP (fun _ hk => hk.elim) ?aF ?aO ?aB ?aS ?aL ?_; (case aP => exact k70_mkM _ _ _ (⟨(rd_T70 l1 j).f0, (rd_T70 l1 j).f1, (rd_T70 l1 j).f2⟩ : S70)); (case aB => exact (by repeat (first | (with_reducible first | exact HB.out | apply below_alloc | apply pw_below_drewN | apply below_drew1) | exact HB.out))); (case aF => exact (fun _ _ => trivial)); (case aO => exact (by (with_reducible repeat (first | apply Kd.R_alloc | apply Kd.R_drewN | apply Kd.R_drew)); exact HO.out)); (case aS => exact (below_size (by repeat (first | (with_reducible first | exact HB.out | apply below_alloc | apply pw_below_drewN | apply below_drew1) | exact HB.out)))); (case aL => have := HLEN.out; omega); intro va wa ho hb hg hat; have n0_ := Aside0.mk hb; have n1_ := Aside0.mk ho; clear HB HO; have HB := n0_; have HO := n1_; clear n0_ n1_ ho hb hg hat))
      have HN := Aside0.mk (HJ.out.put hjl.out q2.out (.inr (fun h => absurd h.1 (by have := hil.out; omega))))
      go_roundg (ovM l0 l1 i (j + 1))
      case measure => have h1 := HN.out.2; have h2 := HK.out; omega
      case rel => exact ⟨i, j + 1, x, y, out ++ [(rd_T70 l1 j)], rfl, (by exact congrArg (Value.int .i64) HWJ.out), rfl, rfl, ⟨HN.out.1⟩, ⟨rfl⟩, ⟨by (with_reducible repeat (first | apply Kd.R_alloc | apply Kd.R_drewN | apply Kd.R_drew)); exact HO.out⟩, ⟨by repeat (first | (with_reducible first | exact HB.out | apply below_alloc | apply pw_below_drewN | apply below_drew1) | exact HB.out)⟩⟩
    ·
     have q2 := Aside0.mk q2_
     clear q2_
     have q2b : ((rd_T70 l1 j).f0 == 2) = false := beq_eq_false_iff_ne.mpr q2.out
     have hTo := HJ.out.stop (fun h => absurd h.1 (by have := hil.out; omega)) (fun h => absurd h.1 (by have := hil.out; omega)) (fun h => q2.out h.2)
     subst hTo
     obtain ⟨Ao, co, eo⟩ := Kd.R_slice HO.out
     subst eo
     go_wp2_with ((with_reducible refine gate_callee (f := 36) rfl ?_); refine goesL_ (some 146) rfl rfl Try.func36 (by kernel_rfl) rfl #[.slice Ao T.length co] rfl (by (try simp only [List.map_toArray, List.map_cons, List.map_nil]); first | done | rfl | (simp only [List.length_drop, List.length_take]; rfl)) ?_; (with_reducible refine (delta_Canon.calls _ _ T _ _ _ ?s1 (Kd.R_reads' HO.out).2.1 HRES.out).mono ?_); (case s1 => repeat (first | exact (Kd.R_reads' HO.out).2.2 | (with_reducible refine Kd.C_alloc ?_ _) | (with_reducible refine Kd.C_drewN ?_ _) | (with_reducible refine Kd.C_drew ?_))); rintro e wz ⟨vz, rfl, hz1, hz2⟩; refine ⟨_, rfl, ?_⟩; have HZ := Aside0.mk (Kd.R_lower hz1 (below_size (by repeat (first | (with_reducible first | exact HB.out | apply below_alloc | apply pw_below_drewN | apply below_drew1) | exact HB.out)))); have n0_ := Aside0.mk (below_step (by repeat (first | (with_reducible first | exact HB.out | apply below_alloc | apply pw_below_drewN | apply below_drew1) | exact HB.out)) hz2); clear HB; have HB := n0_; clear n0_ hz1 hz2)
     try rw [Exit.noGoto_ret]
     go_ret2
     exact ⟨_, rfl, HZ.out, HB.out⟩
   ·
    have hjl := Aside0.mk hjl_
    clear hjl_
    have hjlb : decide (j < (l1.length : Int)) = false := decide_eq_false hjl.out
    have hjlg : decide ((l1.length : Int) ≤ j) = true := decide_eq_true (by have := hjl.out; omega)
    have hTo := HJ.out.stop (fun h => absurd h.1 (by have := hil.out; omega)) (fun h => absurd h.1 (by have := hil.out; omega)) (fun h => absurd h.1 (by have := hjl.out; omega))
    subst hTo
    obtain ⟨Ao, co, eo⟩ := Kd.R_slice HO.out
    subst eo
    go_wp2_with ((with_reducible refine gate_callee (f := 36) rfl ?_); refine goesL_ (some 146) rfl rfl Try.func36 (by kernel_rfl) rfl #[.slice Ao T.length co] rfl (by (try simp only [List.map_toArray, List.map_cons, List.map_nil]); first | done | rfl | (simp only [List.length_drop, List.length_take]; rfl)) ?_; (with_reducible refine (delta_Canon.calls _ _ T _ _ _ ?s1 (Kd.R_reads' HO.out).2.1 HRES.out).mono ?_); (case s1 => repeat (first | exact (Kd.R_reads' HO.out).2.2 | (with_reducible refine Kd.C_alloc ?_ _) | (with_reducible refine Kd.C_drewN ?_ _) | (with_reducible refine Kd.C_drew ?_))); rintro e wz ⟨vz, rfl, hz1, hz2⟩; refine ⟨_, rfl, ?_⟩; have HZ := Aside0.mk (Kd.R_lower hz1 (below_size (by repeat (first | (with_reducible first | exact HB.out | apply below_alloc | apply pw_below_drewN | apply below_drew1) | exact HB.out)))); have n0_ := Aside0.mk (below_step (by repeat (first | (with_reducible first | exact HB.out | apply below_alloc | apply pw_below_drewN | apply below_drew1) | exact HB.out)) hz2); clear HB; have HB := n0_; clear n0_ hz1 hz2)
    try rw [Exit.noGoto_ret]
    go_ret2
    exact ⟨_, rfl, HZ.out, HB.out⟩
theorem shift_Over.calls (A0 : Option Addr) (c0 : Nat) (l0 : List (S70)) (A1 : Option Addr) (c1 : Nat) (l1 : List (S70)) (a2 : Bool) (r1 : List S70) (r2 : Int) (w : World) (hr0 : Kd.C k70 w A0 l0.length l0) (hc0 : l0.length ≤ c0) (hr1 : Kd.C k70 w A1 l1.length l1) (hc1 : l1.length ≤ c1) (h : shift_Over.f l0 l1 a2 = some (r1, r2)) :
  Calls Try.prog 54 #[.slice A0 l0.length c0, .slice A1 l1.length c1, .bool a2] w fun e w' => ∃ v0_ : Value, e = .returned (.tuple #[v0_, .int .i64 r2]) ∧ Kd.R k70 70 w' w.heap.size (fun _ => True) v0_ r1 ∧ Below w.heap.size w w' := by
 obtain ⟨kf, hf⟩ := (fits_ev (a := l0) (b := l1) hr0.2.1 hr1.2.1).rounds
 unfold shift_Over.f at h
 have hbad : ∀ code : Int, code ≠ 0 → shift_fits.f kf l0 l1 = some code → (([] : List S70), code) = (r1, r2) → Calls Try.prog 54 #[.slice A0 l0.length c0, .slice A1 l1.length c1, .bool a2] w fun e w' => ∃ v0_ : Value, e = .returned (.tuple #[v0_, .int .i64 r2]) ∧ Kd.R k70 70 w' w.heap.size (fun _ => True) v0_ r1 ∧ Below w.heap.size w w' := by
  intro code hne hff he
  simp only [Prod.mk.injEq] at he
  obtain ⟨rfl, rfl⟩ := he
  refine (over_bad kf A0 c0 l0 A1 c1 l1 a2 code w hr0 hc0 hr1 hc1 hff hne).mono ?_
  rintro e w' ⟨rfl, hb⟩
  exact ⟨_, rfl, Kd.R_nil _ _ _ _ _, hb⟩
 cases hca : canB l0 with
 | true =>
  cases hcb : canB l1 with
  | true =>
   rw [hca, hcb, Bool.and_self] at h
   rw [if_pos hca, if_pos hcb] at hf
   by_cases he : fromOf l0 = fromOf l1
   ·
    rw [if_pos rfl, if_pos he] at h
    rw [if_pos he] at hf
    exact over_good kf A0 c0 l0 A1 c1 l1 a2 _ r1 r2 w hr0 hc0 hr1 hc1 hf (chainOk_opOk (canB_lens hca).1) (chainOk_opOk (canB_lens hcb).1) (by have := canB_length hca; omega) (by have := canB_length hcb; omega) (canB_small hca) (canB_small hcb) rfl h
   ·
    rw [if_pos rfl, if_neg he] at h
    rw [if_neg he] at hf
    exact hbad 131 (by decide) hf (Option.some.inj h)
  | false =>
   rw [hca, hcb, Bool.and_false, if_neg (by decide)] at h
   rw [if_pos hca, if_neg (by rw [hcb]; decide)] at hf
   exact hbad 130 (by decide) hf (Option.some.inj h)
 | false =>
  rw [hca, Bool.false_and, if_neg (by decide)] at h
  rw [if_neg (by rw [hca]; decide)] at hf
  exact hbad 130 (by decide) hf (Option.some.inj h)
end Go.Proofs.Ytidihnnkcmeaeaa.A
