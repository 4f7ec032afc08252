/- What galleylaw14's great, the reference's Both, and shift's Over and Both answer where the texts together are small. Plain lists. -/
import Derived.Test.YtidihnnkcmeaeaaQ5
import Derived.Test.YtidihnnkcmeaeaaA25
import Derived.Test.YtidihnnkcmeaeaaA34
import Derived.Test.YtidihnnkcmeaeaaA39
import Derived.Test.YtidihnnkcmeaeaaA40
namespace Go.Proofs.Ytidihnnkcmeaeaa.A
open Go.RowKit Go.Proofs.YtidihnnkcmeaeaaW.PrintWords Go.Proofs.YtidihnnkcmeaeaaW.PrintLast
set_option linter.unusedVariables false
theorem copied14 {d : List S70} (h : d.length < 4398046511104) : galleylaw14_copied.f d = some d := by
 unfold galleylaw14_copied.f
 first
  | (rw [Option.bind_some, if_pos (by simpa using h)]; rfl)
  | (simp [h])
theorem refLens_ev {d : List S70} (h : canB d = true) : Ev (fun k => galleyref14_Lens.f k d) (fromOf d, toOf d) := by
 obtain ⟨c1, c2, c3⟩ := canB_lens h
 have := canB_length h
 unfold galleyref14_Lens.f
 exact Ev.bind (lens14_ev (by omega) (chainOk_opOk c1) (by omega) (by omega)) (Ev.now _)
theorem rd6_of (pre : List (List S70)) (o : List S70) (rest : List (List S70)) : rd_L6 (pre ++ o :: rest) (pre.length : Int) = o := by simp [rd_L6]
theorem great_loop (rest : List (List S70)) : ∀ (pre : List (List S70)), (pre ++ rest).length ≤ 9223372036854775806 → (∀ d ∈ rest, d.length ≤ 9223372036854775807 ∧ txts d ≤ 300000000) →
  ∃ g, Ev (fun k => galleylaw14_great.l0 k (pre ++ rest) ((pre ++ rest).length : Int) (pre.length : Int)) g := by
 induction rest with
 | nil =>
  intro pre hl _
  exact ⟨false, Ev.step (fun k => by rw [galleylaw14_great.l0, if_neg (by rw [List.append_nil]; omega)]) (Ev.now _)⟩
 | cons d rest ih =>
  intro pre hl hd
  have hdd := hd d List.mem_cons_self
  have hrd := rd6_of pre d rest
  have hw1 : wrap64 ((pre.length : Int) + 1) = ((pre ++ [d]).length : Int) := by rw [List.length_append, List.length_singleton]; rw [List.length_append, List.length_cons] at hl; unfold wrap64; omega
  have he : pre ++ d :: rest = (pre ++ [d]) ++ rest := by rw [List.append_assoc]; rfl
  have hlt : (pre.length : Int) < ((pre ++ d :: rest).length : Int) := by rw [List.length_append, List.length_cons]; omega
  obtain ⟨g, hg⟩ := ih (pre ++ [d]) (by rw [← he]; exact hl) (fun x hx => hd x (List.mem_cons_of_mem _ hx))
  rw [← he] at hg
  have hv := valid14_ev d hdd.1 hdd.2
  cases hc : canB d with
  | false =>
   rw [hc] at hv
   refine ⟨g, Ev.step (fun k => by rw [galleylaw14_great.l0, if_pos hlt, if_pos (by omega), if_pos hlt, hrd, hw1]) ?_⟩
   refine Ev.bind hv ?_
   exact Ev.congr (fun k => by rw [if_neg (by decide)]) hg
  | true =>
   rw [hc] at hv
   by_cases h5 : fromOf d > 5000
   ·
    refine ⟨true, Ev.step (fun k => by rw [galleylaw14_great.l0, if_pos hlt, if_pos (by omega), if_pos hlt, hrd, hw1]) ?_⟩
    refine Ev.bind hv ?_
    refine Ev.congr (fun k => by rw [if_pos rfl]) ?_
    refine Ev.bind (refLens_ev hc) ?_
    exact Ev.congr (fun k => by rw [if_pos h5]) (Ev.now _)
   ·
    refine ⟨g, Ev.step (fun k => by rw [galleylaw14_great.l0, if_pos hlt, if_pos (by omega), if_pos hlt, hrd, hw1]) ?_⟩
    refine Ev.bind hv ?_
    refine Ev.congr (fun k => by rw [if_pos rfl]) ?_
    refine Ev.bind (refLens_ev hc) ?_
    exact Ev.congr (fun k => by rw [if_neg h5]) hg
theorem great_ev (ds : List (List S70)) (hl : ds.length ≤ 9223372036854775806) (hd : ∀ d ∈ ds, d.length ≤ 9223372036854775807 ∧ txts d ≤ 300000000) : ∃ g, Ev (fun k => galleylaw14_great.f k ds) g := by
 have := great_loop ds [] (by simpa using hl) hd
 simpa [galleylaw14_great.f] using this
theorem refOver_f {a b : List S70} (ha : txts a ≤ 300000000) (hb : txts b ≤ 300000000) (first : Bool) : galleyref14_Over.f a b first = shift_Over.f a b first := by unfold galleyref14_Over.f; rw [if_pos ⟨ha, hb⟩]
theorem refBoth_f {a b : List S70} (ha : txts a ≤ 300000000) (hb : txts b ≤ 300000000) : galleyref14_Both.f a b = shift_Both.f a b := by
 unfold galleyref14_Both.f shift_Both.f
 rw [refOver_f hb ha, refOver_f ha hb]
theorem over_short (a b : List S70) (first : Bool) : ∃ r e, shift_Over.f a b first = some (r, e) ∧ r.length ≤ 536870912 ∧ txts r ≤ 268435456 := by
 obtain ⟨r, e, h1, h2⟩ := over_res a b first
 refine ⟨r, e, h1, ?_⟩
 rcases h2 with ⟨_, h⟩ | ⟨_, _, _, _, h, _⟩
 ·
  rw [h]; exact ⟨by simp, by simp [txts]⟩
 ·
  have := txts_le (chainOk_opOk (canB_lens h).1)
  exact ⟨canB_length h, by have := (canB_lens h).2.2; omega⟩
theorem both_short (a b : List S70) : ∃ x y e, shift_Both.f a b = some (x, y, e) ∧ x.length ≤ 536870912 ∧ y.length ≤ 536870912 := by
 obtain ⟨x, e1, hx, lx, _⟩ := over_short b a true
 obtain ⟨y, e2, hy, ly, _⟩ := over_short a b false
 unfold shift_Both.f
 rw [hx, Option.bind_some]
 by_cases h1 : e1 = 0
 ·
  rw [if_pos h1, hy, Option.bind_some]
  by_cases h2 : e2 = 0
  ·
   rw [if_pos h2]; exact ⟨x, y, 0, rfl, lx, ly⟩
  ·
   rw [if_neg h2]; exact ⟨[], [], e2, rfl, by simp, by simp⟩
 ·
  rw [if_neg h1]; exact ⟨[], [], e1, rfl, by simp, by simp⟩
end Go.Proofs.Ytidihnnkcmeaeaa.A
