/- DeltaDoes in plain words: it answers true. Plain lists. No condition but sizes. -/
import Derived.Test.YtidihnnkcmeaeaaL2a
import Derived.Test.YtidihnnkcmeaeaaA45
import Derived.Test.YtidihnnkcmeaeaaL3a
namespace Go.Proofs.Ytidihnnkcmeaeaa.A
open Go.RowKit Go.Proofs.YtidihnnkcmeaeaaW.PrintWords Go.Proofs.YtidihnnkcmeaeaaW.PrintLast
theorem deltaDoes_law (xs : List Int) (a b : List S70) (hs : ∀ d ∈ [a, b], ∀ o ∈ d, o.f2.size ≤ 140737488355328) : Ev (fun k => galleylaw13_DeltaDoes.f k xs a b) true := by
  unfold galleylaw13_DeltaDoes.f
  refine Ev.bind (a := true) (Ev.now _) ?_
  refine Ev.congr (fun k => by rw [if_pos rfl]) ?_
  obtain ⟨sh, hsh, hsh2⟩ := short_ev xs [a, b] (by simp) hs
  refine Ev.bind hsh ?_
  cases sh with
  | false => exact Ev.congr (fun k => by rw [if_neg (by decide)]) (Ev.now _)
  | true =>
    refine Ev.congr (fun k => by rw [if_pos rfl]) ?_
    obtain ⟨hx, hd⟩ := hsh2 rfl
    obtain ⟨p, ep, ⟨hp, hpf⟩, hpt⟩ := fit_ev (hd a (by simp)) (n := (xs.length : Int)) (by omega) (by omega)
    have hp0 := toOf_nonneg (d := p) (fun o ho => kindOk_posN (okc (canB_lens hp).1 o ho))
    have lm := ap_len wr_bytes p xs (okc (canB_lens hp).1) (by omega)
    obtain ⟨q, eq, ⟨hq, hqf⟩, hqt⟩ := fit_ev (hd b (by simp)) hp0 (by omega)
    have le := ap_len wr_bytes q (ap bytesOf p xs) (okc (canB_lens hq).1) (by omega)
    have hpq := comp_can hp hq hqf
    obtain ⟨a1, a2, a3, a4⟩ := comp_eqv hp hq hqf
    have len : ∀ {d : List S70}, canB d = true → d.length ≤ 9223372036854775807 := fun h => by have := can_len h; omega
    refine Ev.bind ep ?_
    refine Ev.bind (bytes_ev (by omega)) ?_
    refine Ev.bind (own_ev hp) ?_
    refine Ev.bind (a := (ap bytesOf p xs, 0)) (by rw [apply_fit hp hpf]; exact Ev.now _) ?_
    refine Ev.congr (fun k => by rw [if_pos rfl]) ?_
    dsimp only
    refine Ev.bind (a := q) (by rw [lm]; exact eq) ?_
    refine Ev.bind (bytes_ev (by omega)) ?_
    refine Ev.bind (own_ev hq) ?_
    refine Ev.bind (a := (ap bytesOf q (ap bytesOf p xs), 0)) (by rw [apply_fit hq (by omega)]; exact Ev.now _) ?_
    refine Ev.bind (own_ev hp) ?_
    refine Ev.bind (own_ev hq) ?_
    refine Ev.bind (a := (canon (compOps p q), 0)) (by rw [compose_fit hp hq hqf]; exact Ev.now _) ?_
    refine Ev.bind (bytes_ev (by omega)) ?_
    refine Ev.bind (own_ev hpq) ?_
    refine Ev.bind (a := (ap bytesOf (canon (compOps p q)) xs, 0)) (by rw [apply_fit hpq (by rw [a2, hpf])]; exact Ev.now _) ?_
    refine Ev.congr (fun k => by rw [if_pos rfl, if_pos rfl, if_pos rfl, if_pos (by rw [a4 wr_bytes xs (by omega)])]) ?_
    refine Ev.bind (own_ev hpq) ?_
    refine Ev.bind (valid_ev _ (len hpq)) ?_
    rw [hpq]
    exact Ev.now _
end Go.Proofs.Ytidihnnkcmeaeaa.A
