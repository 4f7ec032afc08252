/- An argument that is a list of operations, opened: its cells, and what it weighs. No condition. -/
import Derived.Test.YtidihnnkcmeaeaaA0
import Derived.Deep.Slices
import Derived.Deep.Strs
import Derived.SizedLaws
namespace Go.Proofs.Ytidihnnkcmeaeaa.A
open Go.RowKit Go.ChangeShapes Go.WideShapes Go.Deep Go.Proofs.YtidihnnkcmeaeaaW.PrintWords Go.Proofs.YtidihnnkcmeaeaaW.PrintLast
set_option linter.unusedVariables false
set_option linter.unusedSimpArgs false
variable {H : Type} {enc : TypeId × Value → H} {W : World} {base : Nat} {sp : Nat → Bool} {held : Bool}

def opOf (d : DataW H) : S70 := match d with
  | .agg [.lit (.int _ a), .lit (.int _ b), .lit (.string bs)] => ⟨a, b, ⟨bs.toArray⟩⟩
  | _ => z70
theorem three_of : ∀ {cs : List Value}, cs.length = 3 → ∃ c0 c1 c2, cs = [c0, c1, c2]
  | [c0, c1, c2], _ => ⟨c0, c1, c2, rfl⟩
  | [], h => by simp at h
  | [_], h => by simp at h
  | [_, _], h => by simp at h
  | _ :: _ :: _ :: _ :: _, h => by simp at h
theorem open_op {n : Nat} {cs : List Value} {y : DataW H × List MemPlace} (h : DataW.trod enc Try.prog W base sp held n 70 cs = some y) :
    cs = [.int .i64 (opOf y.1).f0, .int .i64 (opOf y.1).f1, .string (opOf y.1).f2] ∧ ((y.1.weights Try.prog 70).all (· ≤ reachBytes) = true → (opOf y.1).f2.size ≤ reachBytes) := by
  obtain ⟨y0, y1, y2, n1, rfl, hl, h0, h1, h2⟩ := trod_struct3 Try.underlying70 h
  rw [show Try.prog.cellsOf 70 = 3 from by kernel_rfl] at hl
  obtain ⟨c0, c1, c2, rfl⟩ := three_of hl
  have k68 : Try.prog.cellsOf 68 = 1 := by kernel_rfl
  have k3 : Try.prog.cellsOf 3 = 1 := by kernel_rfl
  have k9 : Try.prog.cellsOf 9 = 1 := by kernel_rfl
  dsimp only at h0 h1 h2
  rw [k68] at h0
  rw [k3] at h1
  rw [k9] at h2
  have h0' : DataW.trod enc Try.prog W base sp held n1 68 [c0] = some y0 := by simpa using h0
  have h1' : DataW.trod enc Try.prog W base sp held n1 3 [c1] = some y1 := by simpa using h1
  have h2' : DataW.trod enc Try.prog W base sp held n1 9 [c2] = some y2 := by simpa using h2
  obtain ⟨a, e0, rfl, _⟩ := DataW.trod_int Try.underlying68 h0'
  obtain ⟨b, e1, rfl, _⟩ := DataW.trod_int Try.underlying3 h1'
  obtain ⟨t, e2, rfl, _⟩ := DataW.trod_string Try.underlying9 h2'
  simp only [List.cons.injEq, and_true] at e0 e1 e2
  subst e0 e1 e2
  have ho : opOf (DataW.agg [.lit (.int .i64 a), .lit (.int .i64 b), .lit (.string t.data.toList)] : DataW H) = ⟨a, b, t⟩ := by
    unfold opOf
    cases t
    simp
  refine ⟨by rw [ho], fun hw => ?_⟩
  rw [ho]
  have h3 : t.data.toList.length ≤ reachBytes := by
    have := List.all_eq_true.1 hw t.data.toList.length (by simp [DataW.weights, Try.underlying70, DataW.weightsEach])
    simpa using this
  simpa using h3

theorem weightsAll_mem {P : Program} {t : TypeId} {d : DataW H} {z : Nat} (hz : z ∈ d.weights P t) : ∀ {ds : List (DataW H)}, d ∈ ds → z ∈ DataW.weightsAll P t ds
  | [], h => by simp at h
  | d0 :: ds, h => by
    rw [DataW.weightsAll, List.mem_append]
    rcases List.mem_cons.1 h with rfl | h
    · exact .inl hz
    · exact .inr (weightsAll_mem hz h)
/-- the argument -/
theorem open_ops {fuel : Nat} {cs : List Value} {x : DataW H × List MemPlace} (h : DataW.trod enc Try.prog W base sp held fuel 25 cs = some x) :
    ∃ (A : Option Addr) (cap : Nat) (l : List S70), cs = [.slice A l.length cap] ∧ l.length ≤ cap ∧ Kd.C k70 W A l.length l ∧ ((x.1.weights Try.prog 25).all (· ≤ reachBytes) = true → l.length < 4398046511104 ∧ ∀ o ∈ l, o.f2.size ≤ 140737488355328) := by
  rcases open_slice Try.underlying25 h with ⟨rfl, rfl⟩ | ⟨a, len, cap, m, n, D, Pl, rfl, hb, hl, hm, hmm, rfl, hi⟩
  · exact ⟨none, 0, [], rfl, Nat.le_refl _, Kd.C_nil _ _, fun _ => ⟨by decide, by simp⟩⟩
  · have hlm : len ≤ m := by rw [hmm]; split <;> omega
    have hC3 : Try.prog.cellsOf 70 = 3 := by kernel_rfl
    have hlen : ((List.range len).map fun i => opOf (D i)).length = len := by simp
    refine ⟨some a, cap, (List.range len).map fun i => opOf (D i), by rw [hlen], by rw [hlen]; exact hl, ?_, fun hw => ⟨?_, ?_⟩⟩
    · rw [hlen]
      refine ⟨hlen, by have : maxLen = 9223372036854775807 := rfl; omega, fun _ => ⟨a, rfl, fun j p hj => ?_⟩⟩
      rw [List.getElem?_map] at hj
      obtain ⟨i, hi1, rfl⟩ := Option.map_eq_some_iff.1 hj
      obtain ⟨hjl, hji⟩ := List.getElem?_eq_some_iff.1 hi1
      rw [List.getElem_range] at hji
      subst hji
      rw [List.length_range] at hjl
      obtain ⟨cs', hc, ht⟩ := hi j (by omega)
      obtain ⟨hcs, _⟩ := open_op ht
      obtain ⟨_, hcl, hat⟩ := World.cells?_some hc
      rw [hC3] at hcl hat
      subst hcs
      refine ⟨_, rfl, k70_mk _ _, fun q u hu => ?_⟩
      have hq : q < 3 := (List.getElem?_eq_some_iff.1 hu).1
      have h1 := hat q hq
      rw [Deep.add_add] at h1
      exact h1.trans hu
    · have hB : Try.prog.bytesOf 70 = 32 := by kernel_rfl
      have h2 : ((List.range len).length + (List.range (m - len)).length) * 32 ≤ reachBytes := by
        have := List.all_eq_true.1 hw (((List.range len).length + (List.range (m - len)).length) * 32) (by simp [DataW.weights, Try.underlying25, hB])
        simpa using this
      rw [hlen]
      have := reachBytes_lt
      simp only [List.length_range] at h2
      omega
    · intro o ho
      obtain ⟨i, hi1, rfl⟩ := List.mem_map.1 ho
      rw [List.mem_range] at hi1
      obtain ⟨cs', hc, ht⟩ := hi i (by omega)
      have h3 := (open_op ht).2
      have h4 := h3 (by
        refine List.all_eq_true.mpr (fun z hz => ?_)
        refine List.all_eq_true.1 hw z ?_
        have hz2 : z ∈ DataW.weightsAll Try.prog 70 ((List.range len).map D) := weightsAll_mem hz (List.mem_map.2 ⟨i, List.mem_range.2 hi1, rfl⟩)
        simp [DataW.weights, Try.underlying25, hz2])
      have := reachBytes_lt
      have h5 : (opOf (D i)).f2.size ≤ reachBytes := h4
      omega
end Go.Proofs.Ytidihnnkcmeaeaa.A
