/- Bounds on a builder, and each with a builder's methods. No condition but bounds. -/
import Derived.Test.YtidihnnkcmeaeaaK
import Derived.Test.YtidihnnkcmeaeaaJ
import Derived.Test.YtidihnnkcmeaeaaA3
namespace Go.Proofs.Ytidihnnkcmeaeaa.A
open Go.RowKit Go.Proofs.YtidihnnkcmeaeaaW.PrintWords Go.Proofs.YtidihnnkcmeaeaaW.PrintLast
set_option linter.unusedSimpArgs false
def opw (o : S70) : Int := if o.f0 = 2 then (o.f2.size : Int) else o.f1
def wts : List S70 → Int
 | [] => 0
 | o :: d => o.f1 + (o.f2.size : Int) + wts d
def opws : List S70 → Int
 | [] => 0
 | o :: d => opw o + opws d
theorem wts_append (a b : List S70) : wts (a ++ b) = wts a + wts b := by
 induction a with
 | nil => simp [wts]
 | cons o a ih => simp only [List.cons_append, wts, ih]; omega
theorem opws_append (a b : List S70) : opws (a ++ b) = opws a + opws b := by
 induction a with
 | nil => simp [opws]
 | cons o a ih => simp only [List.cons_append, opws, ih]; omega
theorem noText_size : noText.size = 0 := rfl
theorem wts_one (o : S70) : wts [o] = o.f1 + (o.f2.size : Int) := by simp [wts]
structure BI (b : Bs) (m : Int) : Prop where
 each : ∀ o ∈ b.out, 0 ≤ o.f1 ∧ 1 ≤ o.f1 + (o.f2.size : Int)
 sum : wts b.out + (b.put.size : Int) + b.drop ≤ m
 drop : 0 ≤ b.drop
 last : b.last = 1 → b.out ≠ []
theorem wts_ge : ∀ {d : List S70}, (∀ o ∈ d, 0 ≤ o.f1 ∧ 1 ≤ o.f1 + (o.f2.size : Int)) → (d.length : Int) ≤ wts d
 | [], _ => by simp [wts]
 | o :: d, h => by
  have h1 := wts_ge (d := d) (fun x hx => h x (List.mem_cons_of_mem _ hx))
  have h2 := h o List.mem_cons_self
  simp only [List.length_cons, wts]
  omega
theorem wts_mem : ∀ {d : List S70}, (∀ o ∈ d, 0 ≤ o.f1 ∧ 1 ≤ o.f1 + (o.f2.size : Int)) → ∀ o ∈ d, o.f1 ≤ wts d
 | [], _, o, ho => by simp at ho
 | a :: d, h, o, ho => by
  have h1 := wts_ge (d := d) (fun x hx => h x (List.mem_cons_of_mem _ hx))
  have h2 := h a List.mem_cons_self
  simp only [wts]
  rcases List.mem_cons.1 ho with rfl | ho
  ·
   omega
  ·
   have := wts_mem (fun x hx => h x (List.mem_cons_of_mem _ hx)) o ho
   omega
theorem BI.new : BI Bs.new 0 := ⟨fun o ho => by simp [Bs.new] at ho, by show wts [] + ((noText.size : Nat) : Int) + 0 ≤ 0; rw [noText_size]; simp [wts], by simp [Bs.new], fun h => by simp [Bs.new] at h⟩
theorem BI.mono {b : Bs} {m m' : Int} (h : BI b m) (hm : m ≤ m') : BI b m' := ⟨h.each, by have := h.sum; omega, h.drop, h.last⟩
theorem BI.len {b : Bs} {m : Int} (h : BI b m) : (b.out.length : Int) ≤ m := by have := wts_ge h.each; have := h.sum; have := h.drop; omega
theorem BI.put_le {b : Bs} {m : Int} (h : BI b m) : (b.put.size : Int) ≤ m := by have := wts_ge h.each; have := h.sum; have := h.drop; omega
theorem BI.drop_le {b : Bs} {m : Int} (h : BI b m) : b.drop ≤ m := by have := wts_ge h.each; have := h.sum; omega
theorem rd_mem {d : List S70} (h : d ≠ []) : rd_T70 d ((d.length - 1 : Nat) : Int) ∈ d := by
 have hl : 0 < d.length := List.length_pos_iff.mpr h
 unfold rd_T70
 rw [Int.toNat_natCast, List.getD_eq_getElem?_getD, List.getElem?_eq_getElem (by omega)]
 exact List.getElem_mem _
theorem BI.lastN {b : Bs} {m : Int} (h : BI b m) (hl : b.last = 1) : b.out ≠ [] ∧ 0 ≤ (rd_T70 b.out ((b.out.length - 1 : Nat) : Int)).f1 ∧ (rd_T70 b.out ((b.out.length - 1 : Nat) : Int)).f1 ≤ m := by
 have hne := h.last hl
 have hm := rd_mem hne
 refine ⟨hne, (h.each _ hm).1, ?_⟩
 have := wts_mem h.each _ hm
 have := h.sum
 have := h.drop
 omega
theorem BI.flush {b : Bs} {m : Int} (h : BI b m) : (∀ o ∈ b.flush.out, 0 ≤ o.f1 ∧ 1 ≤ o.f1 + (o.f2.size : Int)) ∧ wts b.flush.out ≤ m := by
 have hs := h.sum
 have hd := h.drop
 constructor
 ·
  intro o ho
  simp only [Bs.flush, List.mem_append] at ho
  rcases ho with ho | ho
  ·
   split at ho
   ·
    rcases List.mem_append.1 ho with ho | ho
    ·
     exact h.each o ho
    ·
     have : o = ⟨2, 0, b.put⟩ := by simpa using ho
     subst this
     exact ⟨Int.le_refl 0, by simp; omega⟩
   ·
    exact h.each o ho
  ·
   split at ho
   ·
    have : o = ⟨3, b.drop, noText⟩ := by simpa using ho
    subst this
    exact ⟨by simpa using hd, by simp; omega⟩
   ·
    simp at ho
 ·
  simp only [Bs.flush, wts_append]
  split <;> split <;> simp only [wts_append, wts_one, wts, noText_size] <;> omega
theorem wts_set : ∀ (d : List S70) (i : Nat) (x : S70), i < d.length → wts (d.set i x) = wts d - ((d.getD i z70).f1 + ((d.getD i z70).f2.size : Int)) + (x.f1 + (x.f2.size : Int))
 | [], i, x, h => by simp at h
 | o :: d, 0, x, h => by simp only [List.set_cons_zero, wts, List.getD_cons_zero]; omega
 | o :: d, i + 1, x, h => by
  have := wts_set d i x (by simpa using h)
  simp only [List.set_cons_succ, wts, List.getD_cons_succ, this]
  omega
theorem BI.keep {b : Bs} {m n : Int} (h : BI b m) (hn : 0 ≤ n) : BI (b.onKeep n) (m + n) := by
 unfold Bs.onKeep
 by_cases h0 : n = 0
 ·
  rw [if_pos h0]
  exact h.mono (by omega)
 ·
  rw [if_neg h0]
  by_cases h1 : b.last = 1
  ·
   rw [if_pos h1]
   have hne := h.last h1
   have hl : 0 < b.out.length := List.length_pos_iff.mpr hne
   have hlt : b.out.length - 1 < b.out.length := by omega
   have hmem : b.out.getD (b.out.length - 1) z70 ∈ b.out := by
    rw [List.getD_eq_getElem?_getD, List.getElem?_eq_getElem hlt]
    exact List.getElem_mem _
   have he := h.each _ hmem
   refine ⟨fun o ho => ?_, ?_, h.drop, fun _ => ?_⟩
   ·
    simp only [growLast] at ho
    rcases List.mem_or_eq_of_mem_set ho with ho | ho
    ·
     exact h.each o ho
    ·
     subst ho
     exact ⟨by show 0 ≤ _ + n; omega, by show 1 ≤ (_ + n) + _; omega⟩
   ·
    have := h.sum
    show wts (growLast b.out n) + _ + _ ≤ _
    unfold growLast
    rw [wts_set _ _ _ hlt]
    dsimp only
    omega
   ·
    simp only [growLast]
    intro hc
    have := congrArg List.length hc
    rw [List.length_set, List.length_nil] at this
    omega
  ·
   rw [if_neg h1]
   by_cases h2 : b.last = 2
   ·
    rw [if_pos h2]
    obtain ⟨f1, f2⟩ := h.flush
    refine ⟨fun o ho => ?_, ?_, Int.le_refl 0, fun _ => by simp⟩
    ·
     rcases List.mem_append.1 ho with ho | ho
     ·
      exact f1 o ho
     ·
      have : o = ⟨1, n, noText⟩ := by simpa using ho
      subst this
      exact ⟨by simpa using hn, by simp; omega⟩
    ·
     show wts (b.flush.out ++ _) + ((noText.size : Nat) : Int) + 0 ≤ _
     rw [wts_append, wts_one, noText_size]
     dsimp only
     omega
   ·
    rw [if_neg h2]
    refine ⟨fun o ho => ?_, ?_, h.drop, fun _ => by simp⟩
    ·
     rcases List.mem_append.1 ho with ho | ho
     ·
      exact h.each o ho
     ·
      have : o = ⟨1, n, noText⟩ := by simpa using ho
      subst this
      exact ⟨by simpa using hn, by simp; omega⟩
    ·
     have := h.sum
     show wts (b.out ++ _) + _ + _ ≤ _
     rw [wts_append, wts_one]
     dsimp only
     rw [noText_size]
     omega
theorem BI.putS {b : Bs} {m : Int} (h : BI b m) (s : ByteArray) : BI (b.onPut s) (m + (s.size : Int)) := by
 unfold Bs.onPut
 by_cases h0 : s.size = 0
 ·
  rw [if_pos h0]
  exact h.mono (by omega)
 ·
  rw [if_neg h0]
  refine ⟨h.each, ?_, h.drop, fun hc => by simp at hc⟩
  have := h.sum
  simp only [ByteArray.size_append]
  omega
theorem BI.dropN {b : Bs} {m n : Int} (h : BI b m) (hn : 0 ≤ n) : BI (b.onDrop n) (m + n) := by
 unfold Bs.onDrop
 by_cases h0 : 0 < n
 ·
  rw [if_pos h0]
  refine ⟨h.each, ?_, ?_, fun hc => by simp at hc⟩
  ·
   have := h.sum
   simp only
   omega
  ·
   have := h.drop
   simp only
   omega
 ·
  rw [if_neg h0]
  exact h.mono (by omega)
theorem BI.step {b : Bs} {m : Int} (h : BI b m) {o : S70} (hp : posN o) : BI (b.step o) (m + opw o) := by
 unfold Bs.step opw
 by_cases h2 : o.f0 = 2
 ·
  rw [if_pos h2, if_pos h2]
  exact h.putS _
 ·
  rw [if_neg h2, if_neg h2]
  by_cases h1 : o.f0 = 1
  ·
   rw [if_pos h1]
   exact h.keep (hp h2)
  ·
   rw [if_neg h1]
   exact h.dropN (hp h2)
theorem BI.fold {d : List S70} (hp : ∀ o ∈ d, posN o) : ∀ {b : Bs} {m : Int}, BI b m → BI (d.foldl Bs.step b) (m + opws d) := by
 induction d with
 | nil => intro b m h; simpa [opws] using h
 | cons o d ih =>
  intro b m h
  have h1 := ih (fun x hx => hp x (List.mem_cons_of_mem _ hx)) (h.step (hp o List.mem_cons_self))
  simp only [List.foldl_cons, opws]
  exact h1.mono (by omega)
theorem opw_nonneg {o : S70} (hp : posN o) : 0 ≤ opw o := by
 unfold opw
 split
 ·
  omega
 ·
  exact hp ‹_›
theorem opws_nonneg : ∀ {d : List S70}, (∀ o ∈ d, posN o) → 0 ≤ opws d
 | [], _ => Int.le_refl 0
 | o :: d, h => by
  have h1 := opws_nonneg (d := d) (fun x hx => h x (List.mem_cons_of_mem _ hx))
  have h2 := opw_nonneg (h o List.mem_cons_self)
  simp only [opws]
  omega
theorem opws_le {d : List S70} (hp : ∀ o ∈ d, posN o) : opws d ≤ fromOf d + toOf d := by
 induction d with
 | nil => simp [opws, fromOf, toOf]
 | cons o d ih =>
  have h1 := ih (fun x hx => hp x (List.mem_cons_of_mem _ hx))
  have h2 := hp o List.mem_cons_self
  rw [fromOf_cons, toOf_cons]
  simp only [opws, opw]
  by_cases c2 : o.f0 = 2
  ·
   simp only [if_pos c2]; omega
  ·
   have := h2 c2
   simp only [if_neg c2]
   split <;> omega
theorem opws_take {d : List S70} (hp : ∀ o ∈ d, posN o) (k : Nat) : opws (d.take k) ≤ opws d := by
 have h := opws_append (d.take k) (d.drop k)
 rw [List.take_append_drop] at h
 have := opws_nonneg (d := d.drop k) (fun o ho => hp o (List.mem_of_mem_drop ho))
 omega
theorem kindOk_posN {o : S70} (h : kindOk o = true) : posN o := by
 simp only [kindOk, Bool.and_eq_true, decide_eq_true_eq, Bool.or_eq_true, beq_iff_eq] at h
 intro h2
 rcases h.2 with h3 | h3
 ·
  exact absurd h3 h2
 ·
  exact h3
end Go.Proofs.Ytidihnnkcmeaeaa.A
namespace Go.Proofs.Ytidihnnkcmeaeaa.A
open Go.RowKit Go.Proofs.YtidihnnkcmeaeaaW.PrintWords Go.Proofs.YtidihnnkcmeaeaaW.PrintLast Go.Proofs.YtidihnnkcmeaeaaW.PrintMore
set_option linter.unusedVariables false
set_option linter.unusedSimpArgs false
theorem enters71 : Go.Proofs.Enters Try.prog 71 := Go.Proofs.enters_of Try.func71 (by kernel_rfl) rfl
theorem enters75 : Go.Proofs.Enters Try.prog 75 := Go.Proofs.enters_of Try.func75 (by kernel_rfl) rfl
theorem enters73 : Go.Proofs.Enters Try.prog 73 := Go.Proofs.enters_of Try.func73 (by kernel_rfl) rfl
def bAt (d : List S70) (k : Nat) : Bs := (d.take k).foldl Bs.step Bs.new
theorem bAt_succ {d : List S70} {k : Nat} (h : k < d.length) : bAt d (k + 1) = (bAt d k).step (rd_T70 d (k : Int)) := by
 unfold bAt rd_T70
 rw [Int.toNat_natCast, List.take_succ_eq_append_getElem h, List.foldl_append, List.getD_eq_getElem?_getD, List.getElem?_eq_getElem h]
 rfl
theorem bAt_BI {d : List S70} (hp : ∀ o ∈ d, posN o) (k : Nat) : BI (bAt d k) (opws d) := by
 have h := BI.fold (d := d.take k) (fun o ho => hp o (List.mem_of_mem_take ho)) BI.new
 exact h.mono (by have := opws_take hp k; omega)
theorem rd_mem_at {d : List S70} {k : Nat} (h : k < d.length) : rd_T70 d (k : Int) ∈ d := by
 unfold rd_T70
 rw [Int.toNat_natCast, List.getD_eq_getElem?_getD, List.getElem?_eq_getElem h]
 exact List.getElem_mem h
theorem opw_mem_le : ∀ {d : List S70}, (∀ o ∈ d, posN o) → ∀ o ∈ d, opw o ≤ opws d
 | [], _, o, ho => by simp at ho
 | a :: d, hp, o, ho => by
  have h1 := opws_nonneg (d := d) (fun x hx => hp x (List.mem_cons_of_mem _ hx))
  have h2 := opw_nonneg (hp a List.mem_cons_self)
  simp only [opws]
  rcases List.mem_cons.1 ho with rfl | ho
  ·
   omega
  ·
   have := opw_mem_le (fun x hx => hp x (List.mem_cons_of_mem _ hx)) o ho
   omega
theorem each_builder (A0 : Option Addr) (c0 : Nat) (l0 : List S70) (W0 w : World) (g : Nat) (hc0 : l0.length ≤ c0)
  (hkind : ∀ o ∈ l0, kindOk o = true) (hw : opws l0 ≤ 1000000000) (hB : Below W0.heap.size W0 w) (hC : Kd.C k70 W0 A0 l0.length l0)
  (hb : IsB w W0.heap.size (fun k => W0.heap.size ≤ k) g Bs.new) :
  Calls Try.prog 65 #[.slice A0 l0.length c0, .func (.func 71) #[.pointer (some ⟨g, 0, none⟩)] #[], .func (.func 75) #[.pointer (some ⟨g, 0, none⟩)] #[], .func (.func 73) #[.pointer (some ⟨g, 0, none⟩)] #[]] w fun e w' => e = .returned (.bool true) ∧ IsB w' W0.heap.size (fun k => W0.heap.size ≤ k) g (l0.foldl Bs.step Bs.new) ∧ Below W0.heap.size W0 w' := by
 have hpos : ∀ o ∈ l0, posN o := fun o ho => kindOk_posN (hkind o ho)
 have hBI := bAt_BI hpos
 have hfresh : ∀ {W : World}, Below W0.heap.size W0 W → ∀ k, W.heap.size ≤ k → W0.heap.size ≤ k := fun h k hk => Nat.le_trans h.size hk
 have hsz : ∀ k, k < l0.length → opw (rd_T70 l0 (k : Int)) ≤ 1000000000 ∧ 0 ≤ opw (rd_T70 l0 (k : Int)) := fun k hk => ⟨Int.le_trans (opw_mem_le hpos _ (rd_mem_at hk)) hw, opw_nonneg (hpos _ (rd_mem_at hk))⟩
 have key := each_calls 71 75 73 enters71 enters75 enters73 #[.pointer (some ⟨g, 0, none⟩)] #[] #[.pointer (some ⟨g, 0, none⟩)] #[] #[.pointer (some ⟨g, 0, none⟩)] #[] A0 c0 l0 w hc0 hkind
  (fun k W => IsB W W0.heap.size (fun k => W0.heap.size ≤ k) g (bAt l0 k) ∧ Below W0.heap.size W0 W) ⟨hb, hB⟩ (fun k W h => Kd.C_below hC h.2)
  (fun k W W' h hb' => ⟨IsB.below h.1 hb', h.2.trans (hb'.mono h.2.size)⟩)
  (fun k W hk h h1 => by
   have hm := hBI k
   have ho := hsz k hk
   have hop : opw (rd_T70 l0 (k : Int)) = (rd_T70 l0 (k : Int)).f1 := by unfold opw; rw [if_neg (by omega)]
   refine (onKeep_calls W W0.heap.size g _ (bAt l0 k) _ _ h.1 h.2.size (hfresh h.2) (by have := hm.len; omega) (fun hl => ⟨(hm.lastN hl).1, by have := (hm.lastN hl).2; omega, by have := (hm.lastN hl).2; omega⟩) (by omega) (by omega)).mono ?_
   rintro e w' ⟨rfl, hb1, hk1⟩
   refine ⟨rfl, ?_, h.2.trans (hk1.below (fun _ h => h) h.2.size)⟩
   rw [bAt_succ hk, show (bAt l0 k).step (rd_T70 l0 (k : Int)) = (bAt l0 k).onKeep (rd_T70 l0 (k : Int)).f1 from by unfold Bs.step; rw [if_neg (by omega), if_pos h1]]
   exact hb1)
  (fun k W hk h h1 => by
   have hm := hBI k
   have ho := hsz k hk
   have hop : opw (rd_T70 l0 (k : Int)) = ((rd_T70 l0 (k : Int)).f2.size : Int) := by unfold opw; rw [if_pos h1]
   refine (onPut_calls W W0.heap.size g _ (bAt l0 k) _ _ h.1 h.2.size (hfresh h.2) (by have := hm.put_le; omega)).mono ?_
   rintro e w' ⟨rfl, hb1, hk1⟩
   refine ⟨rfl, ?_, h.2.trans (hk1.below (fun _ h => h) h.2.size)⟩
   rw [bAt_succ hk, show (bAt l0 k).step (rd_T70 l0 (k : Int)) = (bAt l0 k).onPut (rd_T70 l0 (k : Int)).f2 from by unfold Bs.step; rw [if_pos h1]]
   exact hb1)
  (fun k W hk h h1 => by
   have hm := hBI k
   have ho := hsz k hk
   have hop : opw (rd_T70 l0 (k : Int)) = (rd_T70 l0 (k : Int)).f1 := by unfold opw; rw [if_neg (by omega)]
   refine (onDrop_calls W W0.heap.size g _ (bAt l0 k) _ _ h.1 hm.drop (by have := hm.drop_le; omega) (by omega) (by omega)).mono ?_
   rintro e w' ⟨rfl, hb1, hk1⟩
   refine ⟨rfl, ?_, h.2.trans (hk1.below (fun _ h => h) h.2.size)⟩
   rw [bAt_succ hk, show (bAt l0 k).step (rd_T70 l0 (k : Int)) = (bAt l0 k).onDrop (rd_T70 l0 (k : Int)).f1 from by unfold Bs.step; rw [if_neg (by omega), if_neg (by omega)]]
   exact hb1)
 refine key.mono ?_
 rintro e w' ⟨rfl, h1, h2⟩
 refine ⟨rfl, ?_, h2⟩
 have : bAt l0 l0.length = l0.foldl Bs.step Bs.new := by unfold bAt; rw [List.take_length]
 rw [← this]
 exact h1
end Go.Proofs.Ytidihnnkcmeaeaa.A
