/- delta.Changes: what it answers. No condition but that the list can be read. -/
import Derived.Test.YtidihnnkcmeaeaaR
import Derived.Test.YtidihnnkcmeaeaaMG2
namespace Go.Proofs.Ytidihnnkcmeaeaa.A
open Go.RowKit Go.Proofs.YtidihnnkcmeaeaaW.PrintWords Go.Proofs.YtidihnnkcmeaeaaW.PrintLast Go.Proofs.YtidihnnkcmeaeaaW.PrintMore
set_option linter.unusedVariables false
set_option linter.unusedSimpArgs false
theorem enters80 : Go.Proofs.Enters Try.prog 80 := Go.Proofs.enters_of Try.func80 (by kernel_rfl) rfl
theorem enters81 : Go.Proofs.Enters Try.prog 81 := Go.Proofs.enters_of Try.func81 (by kernel_rfl) rfl
theorem enters82 : Go.Proofs.Enters Try.prog 82 := Go.Proofs.enters_of Try.func82 (by kernel_rfl) rfl
structure Cg where
 x : Int
 op : Bool
 out : List S91
def Cg.step (c : Cg) (o : S70) : Cg :=
 if o.f0 = 1 then ⟨c.x + o.f1, false, c.out⟩
 else if o.f0 = 2 then ⟨c.x, true, cgPut c.op c.out c.x ((opn c.op c.out c.x).length - 1) o.f2⟩
 else ⟨c.x + o.f1, true, cgDrop c.op c.out c.x ((opn c.op c.out c.x).length - 1) (c.x + o.f1)⟩
theorem cg_fold : ∀ (d : List S70) (c : Cg), (d.foldl Cg.step c).out = chgFrom c.x c.op c.out d
 | [], c => by simp [chgFrom]
 | o :: d, c => by
  rw [List.foldl_cons, cg_fold d]
  unfold Cg.step
  by_cases h1 : o.f0 = 1
  ·
   simp [chgFrom, h1]
  ·
   by_cases h2 : o.f0 = 2
   ·
    simp [chgFrom, h2, cgPut, opn, rd_T91]
   ·
    simp [chgFrom, h2, h1, cgDrop, opn, rd_T91]
def cgAt (d : List S70) (k : Nat) : Cg := (d.take k).foldl Cg.step ⟨0, false, []⟩
theorem cgAt_succ {d : List S70} {k : Nat} (h : k < d.length) : cgAt d (k + 1) = (cgAt d k).step (rd_T70 d (k : Int)) := by
 unfold cgAt
 rw [take_succ_rd h, List.foldl_append]
 rfl
theorem opn_pos {op : Bool} {out : List S91} {x : Int} (h : op = true → out ≠ []) : 0 < (opn op out x).length := by
 unfold opn
 cases op with
 | true => simp only [if_true]; exact List.length_pos_iff.mpr (h rfl)
 | false => simp
theorem opn_le {op : Bool} {out : List S91} {x : Int} : (opn op out x).length ≤ out.length + 1 := by
 unfold opn
 cases op <;> simp
theorem opn_mem {op : Bool} {out : List S91} {x : Int} {t : Int} (ht : 0 ≤ t) (h : ∀ c ∈ out, ((c.f2.size : Nat) : Int) ≤ t) : ∀ c ∈ opn op out x, ((c.f2.size : Nat) : Int) ≤ t := by
 unfold opn
 cases op with
 | true => simpa using h
 | false =>
  simp only [Bool.false_eq_true, if_false]
  intro c hc
  rcases List.mem_append.1 hc with hc | hc
  ·
   exact h c hc
  ·
   rw [List.mem_singleton.1 hc]
   exact ht
theorem rd91_mem {out : List S91} {m : Nat} (h : m < out.length) : rd_T91 out (m : Int) ∈ out := by
 unfold rd_T91
 rw [Int.toNat_natCast, List.getD_eq_getElem?_getD, List.getElem?_eq_getElem h]
 exact List.getElem_mem h
structure CgI (d : List S70) (k : Nat) (c : Cg) : Prop where
 x0 : 0 ≤ c.x
 x1 : c.x ≤ fromOf (d.take k)
 op : c.op = true → c.out ≠ []
 len : c.out.length ≤ k
 txt : ∀ a ∈ c.out, ((a.f2.size : Nat) : Int) ≤ toOf (d.take k)
theorem cgAt_I {d : List S70} (hok : ∀ o ∈ d, opOk o = true) : ∀ k, k ≤ d.length → CgI d k (cgAt d k)
 | 0, _ => ⟨by simp [cgAt], by simp [cgAt, fromOf], by simp [cgAt], by simp [cgAt], by simp [cgAt]⟩
 | k + 1, hk => by
  have hp : ∀ o ∈ d, posN o := fun o ho => kindOk_posN (opOk_kindOk (hok o ho))
  obtain ⟨h0, h1, h2, h3, h4⟩ := cgAt_I hok k (by omega)
  have hlt : k < d.length := by omega
  have hpo := hp _ (rd_mem_at hlt)
  have ht := (to_take_le hp k).2
  have hpos := opn_pos (x := (cgAt d k).x) h2
  have hle := opn_le (op := (cgAt d k).op) (out := (cgAt d k).out) (x := (cgAt d k).x)
  have hmem := opn_mem (op := (cgAt d k).op) (x := (cgAt d k).x) ht h4
  have hrd := hmem _ (rd91_mem (m := (opn (cgAt d k).op (cgAt d k).out (cgAt d k).x).length - 1) (by omega))
  rw [cgAt_succ hlt]
  unfold Cg.step
  by_cases c1 : (rd_T70 d (k : Int)).f0 = 1
  ·
   have := hpo (by omega)
   rw [if_pos c1]
   refine ⟨by show 0 ≤ _ + _; omega, ?_, fun h => by simp at h, by show (cgAt d k).out.length ≤ k + 1; omega, ?_⟩
   ·
    rw [take_succ_rd hlt, fromOf_append, fromOf_cons, if_neg (by omega)]
    simp only [fromOf]
    omega
   ·
    rw [take_succ_rd hlt, toOf_append, toOf_cons, if_neg (by omega), if_neg (by omega)]
    intro a ha
    have := h4 a ha
    simp only [toOf]
    omega
  ·
   rw [if_neg c1]
   by_cases c2 : (rd_T70 d (k : Int)).f0 = 2
   ·
    rw [if_pos c2]
    refine ⟨h0, ?_, fun _ hc => ?_, ?_, ?_⟩
    ·
     rw [take_succ_rd hlt, fromOf_append, fromOf_cons, if_pos c2]
     simp only [fromOf]
     omega
    ·
     have := congrArg List.length hc
     simp only [cgPut, List.length_set, List.length_nil] at this
     omega
    ·
     simp only [cgPut, List.length_set]
     omega
    ·
     rw [take_succ_rd hlt, toOf_append, toOf_cons, if_pos c2]
     simp only [toOf]
     intro a ha
     simp only [cgPut] at ha
     rcases List.mem_or_eq_of_mem_set ha with ha | ha
     ·
      have := hmem a ha
      omega
     ·
      subst ha
      simp only [ByteArray.size_append]
      omega
   ·
    have hn := hpo c2
    rw [if_neg c2]
    refine ⟨by show 0 ≤ _ + _; omega, ?_, fun _ hc => ?_, ?_, ?_⟩
    ·
     rw [take_succ_rd hlt, fromOf_append, fromOf_cons, if_neg c2]
     simp only [fromOf]
     omega
    ·
     have := congrArg List.length hc
     simp only [cgDrop, List.length_set, List.length_nil] at this
     omega
    ·
     simp only [cgDrop, List.length_set]
     omega
    ·
     have := (to_take_le hp (k + 1)).2
     rw [take_succ_rd hlt, toOf_append, toOf_cons, if_neg c2] at this ⊢
     have h3' := hok _ (rd_mem_at hlt)
     have h3f : (rd_T70 d (k : Int)).f0 = 3 := by
      simp only [opOk, Bool.or_eq_true, Bool.and_eq_true, beq_iff_eq, decide_eq_true_eq, bne_iff_ne] at h3'
      omega
     rw [if_pos h3f]
     simp only [toOf]
     intro a ha
     simp only [cgDrop] at ha
     rcases List.mem_or_eq_of_mem_set ha with ha | ha
     ·
      have := hmem a ha
      omega
     ·
      subst ha
      simpa using hrd
theorem opws_ge : ∀ {d : List S70}, (∀ o ∈ d, opOk o = true) → (d.length : Int) ≤ opws d
 | [], _ => by simp [opws]
 | o :: d, h => by
  have h1 := opws_ge (d := d) (fun x hx => h x (List.mem_cons_of_mem _ hx))
  have h2 := h o List.mem_cons_self
  simp only [opOk, Bool.or_eq_true, Bool.and_eq_true, beq_iff_eq, decide_eq_true_eq, bne_iff_ne] at h2
  simp only [List.length_cons, opws, opw]
  split <;> omega
def ChI (W0 : World) (go ga gq gc : Nat) (d : List S70) (k : Nat) (W : World) : Prop :=
 Below W0.heap.size W0 W ∧ gc < W.heap.size ∧ W.heap[gc]? = some (.cells #[.func (.func 79) #[] #[.pointer (some ⟨gq, 0, none⟩), .pointer (some ⟨go, 0, none⟩), .pointer (some ⟨ga, 0, none⟩)]] 103 (0, 0)) ∧ ∃ vo, IsC W W0.heap.size (fun q => W0.heap.size ≤ q ∧ q ≠ gc) go ga gq vo (cgAt d k).out (cgAt d k).x (cgAt d k).op
theorem changes_each (A0 : Option Addr) (c0 : Nat) (d : List S70) (W0 w : World) (go ga gq gc : Nat) (hc0 : d.length ≤ c0) (hC : Kd.C k70 W0 A0 d.length d) (hok : ∀ o ∈ d, opOk o = true) (hf2 : fromOf d ≤ 268435456) (ht : toOf d ≤ 268435456) (hI : ChI W0 go ga gq gc d 0 w) :
  Calls Try.prog 65 #[.slice A0 d.length c0, .func (.func 80) #[] #[.pointer (some ⟨ga, 0, none⟩), .pointer (some ⟨gq, 0, none⟩)], .func (.func 81) #[] #[.pointer (some ⟨gc, 0, none⟩)], .func (.func 82) #[] #[.pointer (some ⟨gc, 0, none⟩), .pointer (some ⟨ga, 0, none⟩)]] w fun e w' => e = .returned (.bool true) ∧ ChI W0 go ga gq gc d d.length w' := by
 have hp : ∀ o ∈ d, posN o := fun o ho => kindOk_posN (opOk_kindOk (hok o ho))
 have hw : opws d ≤ 536870912 := by have := opws_le hp; omega
 have hdl := opws_ge hok
 have hx : ∀ k, k < d.length → 0 ≤ (cgAt d k).x ∧ (cgAt d k).x ≤ 268435456 ∧ (cgAt d k).out.length ≤ 536870912 := fun k hk => by
  have h1 := cgAt_I hok k (by omega)
  have h2 := (from_take_le hp k).1
  exact ⟨h1.x0, by have := h1.x1; omega, by have := h1.len; omega⟩
 have hm : ∀ k, k < d.length → (opn (cgAt d k).op (cgAt d k).out (cgAt d k).x).length = ((opn (cgAt d k).op (cgAt d k).out (cgAt d k).x).length - 1) + 1 := fun k hk => by
  have := opn_pos (x := (cgAt d k).x) (cgAt_I hok k (by omega)).op
  omega
 have hown : ∀ k, k < d.length → opw (rd_T70 d (k : Int)) ≤ 536870912 := fun k hk => Int.le_trans (opw_mem_le hp _ (rd_mem_at hk)) hw
 refine each_calls 80 81 82 enters80 enters81 enters82 #[] #[.pointer (some ⟨ga, 0, none⟩), .pointer (some ⟨gq, 0, none⟩)] #[] #[.pointer (some ⟨gc, 0, none⟩)] #[] #[.pointer (some ⟨gc, 0, none⟩), .pointer (some ⟨ga, 0, none⟩)] A0 c0 d w hc0 (fun o ho => opOk_kindOk (hok o ho))
  (ChI W0 go ga gq gc d) hI (fun k W h => Kd.C_below hC h.1)
  (fun k W W' h hb => by
   obtain ⟨hB, hl1, h1, vo, h5⟩ := h
   exact ⟨hB.trans (hb.mono hB.size), Nat.lt_of_lt_of_le hl1 hb.size, blk_below h1 hb, vo, h5.below hb⟩)
  (fun k W hk h h1 => by
   obtain ⟨hB, hl1, hg, vo, h5⟩ := h
   have hxk := hx k hk
   have hn := hp _ (rd_mem_at hk) (by omega)
   have ho := hown k hk
   rw [opw, if_neg (by omega)] at ho
   refine (cg80_calls W W0.heap.size go ga gq _ vo _ _ _ _ _ h5 hxk.1 (by omega) hn (by omega)).mono ?_
   rintro e w' ⟨rfl, q1, q4⟩
   have hgn : ¬ (W0.heap.size ≤ gc ∧ gc ≠ gc) := fun h => h.2 rfl
   refine ⟨rfl, hB.trans (q4.below (fun q hq => hq.1) hB.size), blk_lt (q4.blk hg hgn), q4.blk hg hgn, vo, ?_⟩
   rw [cgAt_succ hk, Cg.step, if_pos h1]
   exact q1)
  (fun k W hk h h1 => by
   obtain ⟨hB, hl1, hg, vo, h5⟩ := h
   have hxk := hx k hk
   have ho := hown k hk
   rw [opw, if_pos h1] at ho
   have hI := cgAt_I hok k (by omega)
   have ht1 := (to_take_le hp k).1
   have hrd := opn_mem (op := (cgAt d k).op) (x := (cgAt d k).x) (to_take_le hp k).2 hI.txt _ (rd91_mem (m := (opn (cgAt d k).op (cgAt d k).out (cgAt d k).x).length - 1) (by have := hm k hk; omega))
   refine (cg81_calls W W0.heap.size go ga gq gc _ vo _ _ _ _ _ _ h5 (hm k hk) hB.size (fun q hq => ⟨Nat.le_trans hB.size hq, by omega⟩) (by omega) (by omega) hg).mono ?_
   rintro e w' ⟨rfl, ⟨v1, q1⟩, q4⟩
   have hgn : ¬ (W0.heap.size ≤ gc ∧ gc ≠ gc) := fun h => h.2 rfl
   refine ⟨rfl, hB.trans (q4.below (fun q hq => hq.1) hB.size), blk_lt (q4.blk hg hgn), q4.blk hg hgn, v1, ?_⟩
   rw [cgAt_succ hk, Cg.step, if_neg (by omega), if_pos h1]
   exact q1)
  (fun k W hk h h1 => by
   obtain ⟨hB, hl1, hg, vo, h5⟩ := h
   have hxk := hx k hk
   have hn := hp _ (rd_mem_at hk) (by omega)
   have ho := hown k hk
   rw [opw, if_neg (by omega)] at ho
   refine (cg82_calls W W0.heap.size go ga gq gc _ vo _ _ _ _ _ _ h5 (hm k hk) hB.size (fun q hq => ⟨Nat.le_trans hB.size hq, by omega⟩) (by omega) hg hxk.1 (by omega) hn (by omega)).mono ?_
   rintro e w' ⟨rfl, ⟨v1, q1⟩, q4⟩
   have hgn : ¬ (W0.heap.size ≤ gc ∧ gc ≠ gc) := fun h => h.2 rfl
   refine ⟨rfl, hB.trans (q4.below (fun q hq => hq.1) hB.size), blk_lt (q4.blk hg hgn), q4.blk hg hgn, v1, ?_⟩
   rw [cgAt_succ hk, Cg.step, if_neg (by omega), if_neg (by omega)]
   exact q1)
@[go_sem] theorem run_store_func (P : Program) (w : World) (a : Addr) (m : Mode) (fn : Fn) (x y : Array Value) : (store a (.func fn x y) m).run P w = stored P w a (.func fn x y) m := run_store P w a _ m rfl
theorem cg_start (W0 w : World) (d : List S70) (hB : Below W0.heap.size W0 w) :
  ChI W0 w.heap.size (w.heap.size + 1) (w.heap.size + 1 + 1) (w.heap.size + 1 + 1 + 1) d 0 ((((w.alloc (.cells #[.slice none 0 0] 40)).alloc (.cells #[.int .i64 0] 3)).alloc (.cells #[.bool false] 4)).alloc (.cells #[(.func (.func 79) #[] #[.pointer (some ⟨w.heap.size + 1 + 1, 0, none⟩), .pointer (some ⟨w.heap.size, 0, none⟩), .pointer (some ⟨w.heap.size + 1, 0, none⟩)])] 103)) := by
 have hs := hB.size
 have h40 := blk_new w (.cells #[.slice none 0 0] 40)
 have h3 := blk_new (w.alloc (.cells #[.slice none 0 0] 40)) (.cells #[.int .i64 0] 3)
 have h4 := blk_new ((w.alloc (.cells #[.slice none 0 0] 40)).alloc (.cells #[.int .i64 0] 3)) (.cells #[.bool false] 4)
 have h103 := blk_new (((w.alloc (.cells #[.slice none 0 0] 40)).alloc (.cells #[.int .i64 0] 3)).alloc (.cells #[.bool false] 4)) (.cells #[(.func (.func 79) #[] #[.pointer (some ⟨w.heap.size + 1 + 1, 0, none⟩), .pointer (some ⟨w.heap.size, 0, none⟩), .pointer (some ⟨w.heap.size + 1, 0, none⟩)])] 103)
 have s1 : (w.alloc (.cells #[.slice none 0 0] 40)).heap.size = w.heap.size + 1 := by simp
 have s2 : ((w.alloc (.cells #[.slice none 0 0] 40)).alloc (.cells #[.int .i64 0] 3)).heap.size = w.heap.size + 1 + 1 := by simp
 have s3 : (((w.alloc (.cells #[.slice none 0 0] 40)).alloc (.cells #[.int .i64 0] 3)).alloc (.cells #[.bool false] 4)).heap.size = w.heap.size + 1 + 1 + 1 := by simp
 rw [s1] at h3
 rw [s2] at h4
 rw [s3] at h103
 exact ⟨below_alloc (below_alloc (below_alloc (below_alloc hB _) _) _) _, blk_lt h103, h103, _, ⟨⟨hs, by omega⟩, ⟨by omega, by omega⟩, ⟨by omega, by omega⟩, blk_alloc (blk_alloc (blk_alloc h40 _) _) _, Kd.R_nil _ _ _ _ _, blk_alloc (blk_alloc h3 _) _, blk_alloc h4 _⟩⟩
set_option maxHeartbeats 8000000 in
set_option maxRecDepth 100000 in
theorem delta_Changes.calls (A0 : Option Addr) (c0 : Nat) (l0 : List (S70)) (r1 : List S91) (r2 : Int) (w : World) (hr0 : Kd.C k70 w A0 l0.length l0) (hc0 : l0.length ≤ c0) (h : delta_Changes.f l0 = some (r1, r2)) :
  Calls Try.prog 39 #[.slice A0 l0.length c0] w fun e w' => ∃ v0_ : Value, e = .returned (.tuple #[v0_, .int .i64 r2]) ∧ Kd.R k91 91 w' w.heap.size (fun _ => True) v0_ r1 ∧ Below w.heap.size w w' := by
 have HR0 := Aside0.mk hr0
 have HC0 := Aside0.mk hc0
 have hlen : l0.length ≤ 9223372036854775807 := Kd.C_max hr0
 obtain ⟨kv, hkv⟩ := (valid_ev l0 hlen).rounds
 have HV := Aside0.mk hkv
 simp only [delta_Changes.f, Option.some.injEq] at h
 clear hr0 hc0 hkv
 by_cases hcan : canB l0 = true
 ·
  rw [if_pos hcan] at h
  simp only [Prod.mk.injEq] at h
  obtain ⟨rfl, rfl⟩ := h
  rw [hcan] at HV
  have hcl := canB_lens hcan
  have HOK := Aside0.mk (chainOk_opOk hcl.1)
  have HLI := Aside0.mk hcl.2
  clear hcl hcan
  go_enter Try.func39, Try.ntmps39
  go_wp2_with (first
   | (go_at_call 35; refine (delta_Valid.calls kv _ _ l0 _ _ HR0.out HC0.out HV.out).mono ?_; rintro e w2 ⟨rfl, hb2⟩; have HB2 := Aside0.mk hb2; clear hb2)
   | (go_at_call 65; (refine (changes_each A0 c0 l0 w _ w2.heap.size (w2.heap.size + 1) (w2.heap.size + 1 + 1) (w2.heap.size + 1 + 1 + 1) HC0.out HR0.out HOK.out HLI.out.1 HLI.out.2 (cg_start w w2 l0 HB2.out)).mono ?_; rintro e w4 ⟨rfl, hB4, q1, q3, v4, q7⟩; have HB4 := Aside0.mk hB4; have HO4 := Aside0.mk q7; have d4 : w4.cell? ⟨w2.heap.size, 0, none⟩ = some v4 := (blk_cell q7.bo 0).trans rfl; clear hB4 q1 q3 q7)))
  go_ret2
  refine ⟨_, rfl, ?_, HB4.out⟩
  have hfin : (cgAt l0 l0.length).out = chgFrom 0 false [] l0 := by
   unfold cgAt
   rw [List.take_length, cg_fold]
  rw [← hfin]
  exact Kd.R_mono HO4.out.row (fun _ _ => trivial)
 ·
  rw [if_neg hcan] at h
  simp only [Prod.mk.injEq] at h
  obtain ⟨rfl, rfl⟩ := h
  simp only [Bool.not_eq_true] at hcan
  rw [hcan] at HV
  go_enter Try.func39, Try.ntmps39
  go_wp2_with (go_at_call 35; refine (delta_Valid.calls kv _ _ l0 _ _ HR0.out HC0.out HV.out).mono ?_; rintro e w2 ⟨rfl, hb2⟩; have HB2 := Aside0.mk hb2; clear hb2)
  go_ret2
  exact ⟨_, rfl, Kd.R_nil _ _ _ _ _, HB2.out⟩
end Go.Proofs.Ytidihnnkcmeaeaa.A
