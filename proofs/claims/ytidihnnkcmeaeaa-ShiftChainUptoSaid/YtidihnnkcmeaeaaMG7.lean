/- An argument that is a list of operations, opened: its cells, and what it weighs. No condition. How a law's argument of type []Op lies in memory, and its bulk. No condition. -/
import Derived.Test.YtidihnnkcmeaeaaA0
import Derived.Deep.Slices
import Derived.Deep.Strs
import Derived.SizedLaws
import Derived.Test.YtidihnnkcmeaeaaRows
import Derived.Test.YtidihnnkcmeaeaaMG5
import Derived.ChangeSlices
namespace Go.Proofs.Ytidihnnkcmeaeaa.A
open Go.RowKit Go.ChangeShapes Go.WideShapes Go.Deep Go.Proofs.YtidihnnkcmeaeaaW.PrintWords Go.Proofs.YtidihnnkcmeaeaaW.PrintLast
set_option linter.unusedVariables false
set_option linter.unusedSimpArgs false
variable {H : Type} {enc : TypeId × Value → H} {W : World} {base : Nat} {sp : Nat → Bool} {held : Bool}
def opOf (d : DataW H) : S70 := match d with
 | .agg [.lit (.int _ a), .lit (.int _ b), .lit (.string bs)] => ⟨a, b, ⟨bs.toArray⟩⟩
 | _ => z70
theorem three_of : ∀ {cs : List Value}, cs.length = 3 → ∃ c0 c1 c2, cs = [c0, c1, c2]
 | [c0, c1, c2], _ => ⟨c0, c1, c2, rfl⟩
 | [], h => by simp at h
 | [_], h => by simp at h
 | [_, _], h => by simp at h
 | _ :: _ :: _ :: _ :: _, h => by simp at h
theorem open_op {n : Nat} {cs : List Value} {y : DataW H × List MemPlace} (h : DataW.trod enc Try.prog W base sp held n 70 cs = some y) :
  cs = [.int .i64 (opOf y.1).f0, .int .i64 (opOf y.1).f1, .string (opOf y.1).f2] ∧ ((y.1.weights Try.prog 70).all (· ≤ reachBytes) = true → (opOf y.1).f2.size ≤ reachBytes) := by
 obtain ⟨y0, y1, y2, n1, rfl, hl, h0, h1, h2⟩ := trod_struct3 Try.underlying70 h
 rw [show Try.prog.cellsOf 70 = 3 from by kernel_rfl] at hl
 obtain ⟨c0, c1, c2, rfl⟩ := three_of hl
 have k68 : Try.prog.cellsOf 68 = 1 := by kernel_rfl
 have k3 : Try.prog.cellsOf 3 = 1 := by kernel_rfl
 have k9 : Try.prog.cellsOf 9 = 1 := by kernel_rfl
 dsimp only at h0 h1 h2
 rw [k68] at h0
 rw [k3] at h1
 rw [k9] at h2
 have h0' : DataW.trod enc Try.prog W base sp held n1 68 [c0] = some y0 := by simpa using h0
 have h1' : DataW.trod enc Try.prog W base sp held n1 3 [c1] = some y1 := by simpa using h1
 have h2' : DataW.trod enc Try.prog W base sp held n1 9 [c2] = some y2 := by simpa using h2
 obtain ⟨a, e0, rfl, _⟩ := DataW.trod_int Try.underlying68 h0'
 obtain ⟨b, e1, rfl, _⟩ := DataW.trod_int Try.underlying3 h1'
 obtain ⟨t, e2, rfl, _⟩ := DataW.trod_string Try.underlying9 h2'
 simp only [List.cons.injEq, and_true] at e0 e1 e2
 subst e0 e1 e2
 have ho : opOf (DataW.agg [.lit (.int .i64 a), .lit (.int .i64 b), .lit (.string t.data.toList)] : DataW H) = ⟨a, b, t⟩ := by
  unfold opOf
  cases t
  simp
 refine ⟨by rw [ho], fun hw => ?_⟩
 rw [ho]
 have h3 : t.data.toList.length ≤ reachBytes := by
  have := List.all_eq_true.1 hw t.data.toList.length (by simp [DataW.weights, Try.underlying70, DataW.weightsEach])
  simpa using this
 simpa using h3
end Go.Proofs.Ytidihnnkcmeaeaa.A
namespace Go.Proofs.Ytidihnnkcmeaeaa.A
open Go.RowKit Go.ChangeShapes Go.WideShapes Go.Deep Go.Proofs.YtidihnnkcmeaeaaW.PrintWords Go.Proofs.YtidihnnkcmeaeaaW.PrintLast
set_option linter.unusedVariables false
set_option linter.unusedSimpArgs false
variable {H : Type} {enc : TypeId × Value → H} {W : World} {base : Nat} {sp : Nat → Bool} {held : Bool}
theorem op_bulk {n : Nat} {cs : List Value} {y : DataW H × List MemPlace} (h : DataW.trod enc Try.prog W base sp held n 70 cs = some y) : (opOf y.1).f2.size + 1 ≤ Rows.uptoBulk y.1 := by
 obtain ⟨y0, y1, y2, n1, rfl, hl, h0, h1, h2⟩ := trod_struct3 Try.underlying70 h
 rw [show Try.prog.cellsOf 70 = 3 from by kernel_rfl] at hl
 obtain ⟨c0, c1, c2, rfl⟩ := three_of hl
 have k68 : Try.prog.cellsOf 68 = 1 := by kernel_rfl
 have k3 : Try.prog.cellsOf 3 = 1 := by kernel_rfl
 have k9 : Try.prog.cellsOf 9 = 1 := by kernel_rfl
 dsimp only at h0 h1 h2
 rw [k68] at h0
 rw [k3] at h1
 rw [k9] at h2
 have h0' : DataW.trod enc Try.prog W base sp held n1 68 [c0] = some y0 := by simpa using h0
 have h1' : DataW.trod enc Try.prog W base sp held n1 3 [c1] = some y1 := by simpa using h1
 have h2' : DataW.trod enc Try.prog W base sp held n1 9 [c2] = some y2 := by simpa using h2
 obtain ⟨a, e0, rfl, _⟩ := DataW.trod_int Try.underlying68 h0'
 obtain ⟨b, e1, rfl, _⟩ := DataW.trod_int Try.underlying3 h1'
 obtain ⟨t, e2, rfl, _⟩ := DataW.trod_string Try.underlying9 h2'
 have ho : opOf (DataW.agg [.lit (.int .i64 a), .lit (.int .i64 b), .lit (.string t.data.toList)] : DataW H) = ⟨a, b, t⟩ := by
  unfold opOf
  cases t
  simp
 rw [ho]
 simp only [Rows.uptoBulk, Rows.uptoBulkAll]
 show t.size + 1 ≤ _
 have : t.data.toList.length = t.size := by rw [Array.length_toList]; rfl
 omega
theorem txts_map (n : Nat) (D : Nat → DataW H) (hD : ∀ i, i < n → (opOf (D i)).f2.size + 1 ≤ Rows.uptoBulk (D i)) : txts ((List.range n).map fun i => opOf (D i)) + (n : Int) ≤ (Rows.uptoBulkAll ((List.range n).map D) : Int) := by
 induction n with
 | zero => simp [Rows.uptoBulkAll, txts]
 | succ n ih =>
  have h1 := ih (fun i hi => hD i (by omega))
  have h2 := hD n (by omega)
  have h3 : ∀ (l r : List (DataW H)), Rows.uptoBulkAll (l ++ r) = Rows.uptoBulkAll l + Rows.uptoBulkAll r := by
   intro l r
   induction l with
   | nil => simp [Rows.uptoBulkAll]
   | cons y l ih2 => simp only [List.cons_append, Rows.uptoBulkAll, ih2]; omega
  have h4 : ∀ (l r : List S70), txts (l ++ r) = txts l + txts r := by
   intro l r
   induction l with
   | nil => simp [txts]
   | cons y l ih2 => simp only [List.cons_append, txts, ih2]; omega
  rw [List.range_succ, List.map_append, List.map_append, h3, h4]
  simp only [List.map_cons, List.map_nil, Rows.uptoBulkAll, txts]
  omega
theorem open_ops_bulk {fuel : Nat} {cs : List Value} {x : DataW H × List MemPlace} (h : DataW.trod enc Try.prog W base sp held fuel 25 cs = some x) :
  ∃ (A : Option Addr) (cap : Nat) (l : List S70), cs = [.slice A l.length cap] ∧ l.length ≤ cap ∧ Kd.C k70 W A l.length l ∧ (l.length : Int) ≤ (Rows.uptoBulk x.1 : Int) ∧ txts l ≤ (Rows.uptoBulk x.1 : Int) := by
 rcases open_slice Try.underlying25 h with ⟨rfl, rfl⟩ | ⟨a, len, cap, m, n, D, Pl, rfl, hb, hl, hm, hmm, rfl, hi⟩
 ·
  exact ⟨none, 0, [], rfl, Nat.le_refl _, Kd.C_nil _ _, by simp, by simp [txts]⟩
 ·
  have hlm : len ≤ m := by rw [hmm]; split <;> omega
  have hC3 : Try.prog.cellsOf 70 = 3 := by kernel_rfl
  have hlen : ((List.range len).map fun i => opOf (D i)).length = len := by simp
  have hbk := txts_map len D (fun i hlt => by
   obtain ⟨cs', hc, ht⟩ := hi i (by omega)
   exact op_bulk ht)
  have hpn := txts_nonneg ((List.range len).map fun i => opOf (D i))
  refine ⟨some a, cap, (List.range len).map fun i => opOf (D i), by rw [hlen], by rw [hlen]; exact hl, ?_, ?_, ?_⟩
  ·
   rw [hlen]
   refine ⟨hlen, by have : maxLen = 9223372036854775807 := rfl; omega, fun _ => ⟨a, rfl, fun j p hj => ?_⟩⟩
   rw [List.getElem?_map] at hj
   obtain ⟨i, hi1, rfl⟩ := Option.map_eq_some_iff.1 hj
   obtain ⟨hjl, hji⟩ := List.getElem?_eq_some_iff.1 hi1
   rw [List.getElem_range] at hji
   subst hji
   rw [List.length_range] at hjl
   obtain ⟨cs', hc, ht⟩ := hi j (by omega)
   obtain ⟨hcs, _⟩ := open_op ht
   obtain ⟨_, hcl, hat⟩ := World.cells?_some hc
   rw [hC3] at hcl hat
   subst hcs
   refine ⟨_, rfl, k70_mk _ _, fun q u hu => ?_⟩
   have hq : q < 3 := (List.getElem?_eq_some_iff.1 hu).1
   have h1 := hat q hq
   rw [Deep.add_add] at h1
   exact h1.trans hu
  ·
   rw [hlen]
   simp only [Rows.uptoBulk]
   omega
  ·
   simp only [Rows.uptoBulk]
   omega
end Go.Proofs.Ytidihnnkcmeaeaa.A
