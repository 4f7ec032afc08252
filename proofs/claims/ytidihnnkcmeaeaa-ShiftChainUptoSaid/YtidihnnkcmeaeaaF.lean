/- Words for walks over a builder in memory: what is kept outside of its blocks; the builder's own cells. No condition. -/
import Derived.Test.YtidihnnkcmeaeaaMG1
import Derived.Deep.RegionHeld3
import Derived.Deep.DrawnRows
import Derived.WalkSpells
import Derived.Outline
namespace Go.Proofs.Ytidihnnkcmeaeaa.A
open Go.RowKit Go.Proofs.YtidihnnkcmeaeaaW.PrintWords Go.Proofs.YtidihnnkcmeaeaaW.PrintLast Go.Proofs.YtidihnnkcmeaeaaW.PrintMore
structure Kp (P : Nat → Prop) (w w' : World) : Prop where
 os : w'.os = w.os
 tape : w'.tape = w.tape
 output : w'.output = w.output
 size : w.heap.size ≤ w'.heap.size
 block : ∀ k, k < w.heap.size → ¬ P k → w'.heap[k]? = w.heap[k]?
variable {P P' : Nat → Prop} {w w1 w2 : World}
theorem Kp.refl (P : Nat → Prop) (w : World) : Kp P w w := ⟨rfl, rfl, rfl, Nat.le_refl _, fun _ _ _ => rfl⟩
theorem Kp.trans (h : Kp P w w1) (k : Kp P' w1 w2) (hP : ∀ i, P' i → i < w.heap.size → P i) : Kp P w w2 :=
 ⟨k.os.trans h.os, k.tape.trans h.tape, k.output.trans h.output, Nat.le_trans h.size k.size, fun i hi hn => (k.block i (Nat.lt_of_lt_of_le hi h.size) (fun hp => hn (hP i hp hi))).trans (h.block i hi hn)⟩
theorem Kp.mono (h : Kp P w w1) (hP : ∀ i, P i → P' i) : Kp P' w w1 := ⟨h.os, h.tape, h.output, h.size, fun i hi hn => h.block i hi (fun hp => hn (hP i hp))⟩
theorem Kp.of_below (h : Below w.heap.size w w1) (P : Nat → Prop) : Kp P w w1 := ⟨h.os, h.tape, h.output, h.size, fun i hi _ => h.block i hi⟩
theorem Kp.below {B : Nat} (h : Kp P w w1) (hP : ∀ i, P i → B ≤ i) (hB : B ≤ w.heap.size) : Below B w w1 := ⟨h.os, h.tape, h.output, h.size, fun k hk => h.block k (by omega) (fun hp => by have := hP k hp; omega)⟩
theorem Kp.alloc (h : Kp P w w1) (o : Obj) : Kp P w (w1.alloc o) := h.trans (P' := P) (Kp.of_below (below_alloc (Below.refl _ _) o) P) (fun _ hp _ => hp)
theorem Kp.drew (h : Kp P w w1) : Kp P w w1.drew := ⟨h.os, h.tape, h.output, h.size, h.block⟩
theorem Kp.drewN (h : Kp P w w1) (n : Nat) : Kp P w (w1.drewN n) := ⟨h.os, h.tape, h.output, h.size, h.block⟩
theorem Kp.setCell (h : Kp P w w1) {p : Addr} (hp : P p.block) (u : Value) : Kp P w (w1.setCell p u) :=
 h.trans (P' := P) ⟨rfl, rfl, rfl, by simp [World.setCell], fun k _ hn => Below.heap_setCell w1 p u k (fun e => hn (e ▸ hp))⟩ (fun _ hp _ => hp)
theorem Kp.grown (h : Kp P w w1) {row : Option Nat} (hg : w1.grownBy w2 row) (hr : ∀ k, row = some k → k < w.heap.size → P k) : Kp P w w2 :=
 h.trans (P' := fun k => row = some k) ⟨hg.os, hg.tape, hg.output, hg.size, fun k hk hn => hg.block k hk (fun e => hn e.symm)⟩ hr
theorem Kp.blk (h : Kp P w w1) {g : Nat} {o : Obj} (hb : w.heap[g]? = some o) (hn : ¬ P g) : w1.heap[g]? = some o := (h.block g (blk_lt hb) hn).trans hb
theorem Kp.row {α : Type} {d : Kd α} {e base : Nat} {ok : Nat → Prop} {v : Value} {xs : List α} (h : Kp P w w1) (hr : d.R e w base ok v xs) (hn : ∀ k, ok k → ¬ P k) : d.R e w1 base ok v xs := Kd.R_step hr (fun k hk hl => h.block k hl (hn k hk))
def IsB (w : World) (base : Nat) (P : Nat → Prop) (g : Nat) (b : Bs) : Prop :=
 P g ∧ ∃ vo vp, w.heap[g]? = some (.cells #[vo, .int .i64 b.last, vp, .int .i64 b.drop] 99 (0, 0)) ∧ Kd.R k70 70 w base P vo b.out ∧ Kd.R (Kd.int .u8) 5 w base P vp (bytesOf b.put)
theorem info70' : (Try.prog.info? 70).map (fun i => (i.zero, i.size, i.bytes)) = some (some (.agg #[.int .i64 0, .int .i64 0, .string ⟨#[]⟩]), k70.sz, 32) := info70
theorem IsB.below {w w' : World} {base : Nat} {P : Nat → Prop} {g : Nat} {b : Bs} (h : IsB w base P g b) (hb : Below w.heap.size w w') : IsB w' base P g b := by
 obtain ⟨hg, vo, vp, h1, h2, h3⟩ := h
 exact ⟨hg, vo, vp, blk_below h1 hb, Kd.R_below h2 hb, Kd.R_below h3 hb⟩
theorem IsB.mono {w : World} {base : Nat} {P P' : Nat → Prop} {g : Nat} {b : Bs} (h : IsB w base P g b) (hP : ∀ k, P k → P' k) : IsB w base P' g b := by
 obtain ⟨hg, vo, vp, h1, h2, h3⟩ := h
 exact ⟨hP _ hg, vo, vp, h1, Kd.R_mono h2 hP, Kd.R_mono h3 hP⟩
theorem str_bytes (s : ByteArray) : strOfNums (bytesOf s) = s := by
 have h : ((fun n : Int => UInt8.ofNat n.toNat) ∘ fun c : UInt8 => (c.toNat : Int)) = id := by funext c; simp
 simp only [strOfNums, bytesOf, List.map_map, h, List.map_id]
theorem E5 : (Kd.int .u8).E = [] := rfl
theorem E70 : k70.E = [] := rfl
theorem E91 : k91.E = [] := rfl
theorem ne5_70 : ∀ q, q ∈ 5 :: (Kd.int .u8).E → q ≠ 70 := by intro q h; rw [E5] at h; simp at h; omega
theorem ne91_40 : ∀ q, q ∈ 91 :: k91.E → q ≠ 40 := by intro q h; rw [E91] at h; simp at h; omega
theorem ne70_5 : ∀ q, q ∈ 70 :: k70.E → q ≠ 5 := by intro q h; rw [E70] at h; simp at h; omega
theorem ne5_99 : ∀ q, q ∈ 5 :: (Kd.int .u8).E → q ≠ 99 := by intro q h; rw [E5] at h; simp at h; omega
theorem ne70_99 : ∀ q, q ∈ 70 :: k70.E → q ≠ 99 := by intro q h; rw [E70] at h; simp at h; omega
theorem conv_at {w : World} {base n c : Nat} {P : Nat → Prop} {A : Option Addr} {xs : List Int} (h : Kd.R (Kd.int .u8) 5 w base P (.slice A n c) xs) : (convert 23 9 (.slice A n c)).run Try.prog w = .ok (.string (strOfNums xs)) w := by
 obtain ⟨rfl, _, hC⟩ := Kd.R_reads' h
 exact Kd.C_string (P := Try.prog) Try.underlying23 Try.underlying5 Try.underlying9 hC
end Go.Proofs.Ytidihnnkcmeaeaa.A
