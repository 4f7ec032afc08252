/- delta.Compose: the tape, pieces, and what it answers (five texts in one). No condition but that the lists can be read. -/
import Derived.Test.YtidihnnkcmeaeaaQ
import Derived.Test.YtidihnnkcmeaeaaV0
import Derived.Test.YtidihnnkcmeaeaaEApply
namespace Go.Proofs.Ytidihnnkcmeaeaa.A
open Go.RowKit Go.Proofs.YtidihnnkcmeaeaaW.PrintWords Go.Proofs.YtidihnnkcmeaeaaW.PrintLast Go.Proofs.YtidihnnkcmeaeaaW.PrintMore
set_option linter.unusedVariables false
set_option linter.unusedSimpArgs false
theorem blk_typ {w : World} {g g' : Nat} {c c' : Array Value} {t t' : TypeId} (h : w.heap[g]? = some (.cells c t (0, 0))) (h' : w.heap[g']? = some (.cells c' t' (0, 0))) (hne : t ≠ t') : g ≠ g' := by
 intro e
 subst e
 rw [h] at h'
 simp only [Option.some.injEq, Obj.cells.injEq] at h'
 exact hne h'.2.1
@[go_sem] theorem run_store_fn (P : Program) (w : World) (a : Addr) (m : Mode) (fn : Fn) (x y : Array Value) : (store a (.func fn x y) m).run P w = stored P w a (.func fn x y) m := run_store P w a _ m rfl
structure IsT (w : World) (gt : Nat) (A : Option Addr) (N c : Nat) (ops : List S70) : Prop where
 blk : w.heap[gt]? = some (.cells #[.slice A N c] 106 (0, 0))
 row : Kd.C k70 w A N ops
 cap : N ≤ c
theorem IsT.first {w : World} {gt : Nat} {A : Option Addr} {N c : Nat} {o : S70} {ops : List S70} (h : IsT w gt A N c (o :: ops)) : ∃ gr of, A = some ⟨gr, of, none⟩ ∧ N = ops.length + 1 ∧ w.cell? ⟨gr, of, none⟩ = some (.int .i64 o.f0) ∧ w.cell? ⟨gr, of + 1, none⟩ = some (.int .i64 o.f1) ∧ w.cell? ⟨gr, of + 2, none⟩ = some (.string o.f2) := by
 have hN := Kd.C_len h.row
 obtain ⟨ad, hx, hx0, hx1, hx2⟩ := at_T70 h.row 0 (by omega) (by rw [← hN]; simp)
 obtain ⟨gr, of, sp⟩ := ad
 have ha : ∀ n, (Addr.add ⟨gr, of, sp⟩ (n * 3)).block = gr := fun n => by unfold Addr.add; split <;> rfl
 cases sp with
 | some x =>
  exfalso
  simp [Addr.add, World.cell?] at hx0
  split at hx0 <;> simp at hx0
 | none =>
  refine ⟨gr, of, hx, by rw [← hN]; simp, ?_, ?_, ?_⟩
  ·
   simpa [Addr.add, rd_T70] using hx0
  ·
   simpa [Addr.add, rd_T70] using hx1
  ·
   simpa [Addr.add, rd_T70] using hx2
end Go.Proofs.Ytidihnnkcmeaeaa.A
namespace Go.Proofs.Ytidihnnkcmeaeaa.A
open Go.RowKit Go.Proofs.YtidihnnkcmeaeaaW.PrintWords Go.Proofs.YtidihnnkcmeaeaaW.PrintLast Go.Proofs.YtidihnnkcmeaeaaW.PrintMore
set_option linter.unusedVariables false
set_option linter.unusedSimpArgs false
end Go.Proofs.Ytidihnnkcmeaeaa.A
namespace Go.Proofs.Ytidihnnkcmeaeaa.A
open Go.RowKit Go.Proofs.YtidihnnkcmeaeaaW.PrintWords Go.Proofs.YtidihnnkcmeaeaaW.PrintLast Go.Proofs.YtidihnnkcmeaeaaW.PrintMore
set_option linter.unusedVariables false
set_option linter.unusedSimpArgs false
section
structure CpQ (W0 : World) (gp gf gt g gc : Nat) (P : Nat → Prop) (A : Option Addr) (N c : Nat) (b : Bs) (ops : List S70) (W : World) : Prop where
 below : Below W0.heap.size W0 W
 bp : W.heap[gp]? = some (.cells #[.pointer (some ⟨g, 0, none⟩)] 97 (0, 0))
 bf : W.heap[gf]? = some (.cells #[.pointer (some ⟨gt, 0, none⟩)] 104 (0, 0))
 bc : W.heap[gc]? = some (.cells #[.func (.func 83) #[] #[.pointer (some ⟨gf, 0, none⟩), .pointer (some ⟨gp, 0, none⟩)]] 107 (0, 0))
 tape : IsT W gt A N c ops
 isb : IsB W W0.heap.size P g b
 own : ∀ q, P q → W0.heap.size ≤ q
 fresh : ∀ q, W.heap.size ≤ q → P q
 np : ¬ P gp
 nf : ¬ P gf
 nt : ¬ P gt
 nc : ¬ P gc
 na : 0 < N → ∀ a, A = some a → ¬ P a.block
 nw : W0.heap.size ≤ gt
def CpS (W0 : World) (gp gf gt g gc : Nat) (b : Bs) (ops : List S70) (W : World) : Prop := ∃ P A N c, CpQ W0 gp gf gt g gc P A N c b ops W
section
variable {W0 W W' : World} {gp gf gt g gc N c : Nat} {P : Nat → Prop} {A : Option Addr} {b b' : Bs} {ops : List S70}
theorem CpS.cp (h : CpS W0 gp gf gt g gc b ops W) : W.cell? ⟨gp, 0, none⟩ = some (.pointer (some ⟨g, 0, none⟩)) := by
 obtain ⟨P, A, N, c, h⟩ := h
 exact (blk_cell h.bp 0).trans rfl
theorem CpS.cc (h : CpS W0 gp gf gt g gc b ops W) : W.cell? ⟨gc, 0, none⟩ = some (.func (.func 83) #[] #[.pointer (some ⟨gf, 0, none⟩), .pointer (some ⟨gp, 0, none⟩)]) := by
 obtain ⟨P, A, N, c, h⟩ := h
 exact (blk_cell h.bc 0).trans rfl
theorem CpQ.ty (h : CpQ W0 gp gf gt g gc P A N c b ops W) : gp ≠ gt ∧ gf ≠ gt ∧ gc ≠ gt := ⟨blk_typ h.bp h.tape.blk (by decide), blk_typ h.bf h.tape.blk (by decide), blk_typ h.bc h.tape.blk (by decide)⟩
end
end
end Go.Proofs.Ytidihnnkcmeaeaa.A
namespace Go.Proofs.Ytidihnnkcmeaeaa.A
open Go.RowKit Go.Proofs.YtidihnnkcmeaeaaW.PrintWords Go.Proofs.YtidihnnkcmeaeaaW.PrintLast Go.Proofs.YtidihnnkcmeaeaaW.PrintMore
set_option linter.unusedVariables false
set_option linter.unusedSimpArgs false
end Go.Proofs.Ytidihnnkcmeaeaa.A
namespace Go.Proofs.Ytidihnnkcmeaeaa.A
open Go.RowKit Go.Proofs.YtidihnnkcmeaeaaW.PrintWords Go.Proofs.YtidihnnkcmeaeaaW.PrintLast Go.Proofs.YtidihnnkcmeaeaaW.PrintMore
set_option linter.unusedVariables false
set_option linter.unusedSimpArgs false
end Go.Proofs.Ytidihnnkcmeaeaa.A
