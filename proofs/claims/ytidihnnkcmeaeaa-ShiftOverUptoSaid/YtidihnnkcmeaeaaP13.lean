/- ShiftOver in plain words: it answers true where what comes in is of small bulk. Plain lists. -/
import Derived.Test.YtidihnnkcmeaeaaP12
import Derived.Test.YtidihnnkcmeaeaaA41
namespace Go.Proofs.Ytidihnnkcmeaeaa.A
open Go.RowKit Go.Proofs.YtidihnnkcmeaeaaW.PrintWords Go.Proofs.YtidihnnkcmeaeaaW.PrintLast
theorem shiftOver_law (a b : List S70) (first : Bool) (hla : a.length ≤ 1048576) (hlb : b.length ≤ 1048576) (hta : txts a ≤ 1048576) (htb : txts b ≤ 1048576) : Ev (fun k => galleylaw14_ShiftOver.f k a b first) true := by
 unfold galleylaw14_ShiftOver.f
 refine Ev.bind (a := true) (Ev.now _) ?_
 refine Ev.congr (fun k => by rw [if_pos rfl]) ?_
 obtain ⟨g, hg⟩ := great_ev [a, b] (by simp) (by
  intro d hd
  simp only [List.mem_cons, List.not_mem_nil, or_false] at hd
  rcases hd with rfl | rfl <;> exact ⟨by omega, by omega⟩)
 refine Ev.bind hg ?_
 cases g with
 | true => exact Ev.congr (fun k => by rw [if_pos rfl]) (Ev.now _)
 | false =>
  obtain ⟨r, e, h1, h2, _⟩ := over_short a b first
  obtain ⟨x, y, e2, h3, h4, h5⟩ := both_short a b
  have ca := copied14 (d := a) (by omega)
  have cb := copied14 (d := b) (by omega)
  refine Ev.congr (fun k => by rw [if_neg (by decide), ca, Option.bind_some, cb, Option.bind_some, h1, Option.bind_some, refOver_f (by omega) (by omega), h1, Option.bind_some, Option.bind_some, Option.bind_some, h3, Option.bind_some, refBoth_f (by omega) (by omega), h3, Option.bind_some]) ?_
  dsimp only
  refine Ev.bind (same14_one r (by omega)) ?_
  refine Ev.congr (fun k => by rw [if_pos rfl, if_pos rfl]) ?_
  refine Ev.bind (same14_one x (by omega)) ?_
  refine Ev.congr (fun k => by rw [if_pos rfl]) ?_
  refine Ev.bind (same14_one y (by omega)) ?_
  refine Ev.congr (fun k => by rw [if_pos rfl, beq_self_eq_true]) ?_
  exact Ev.now _
end Go.Proofs.Ytidihnnkcmeaeaa.A
