/- Short words on what is copied and on lengths of canonical deltas. No condition. -/
import Derived.Test.YtidihnnkcmeaeaaL0
import Derived.Test.YtidihnnkcmeaeaaL1
import Derived.Test.YtidihnnkcmeaeaaA9
namespace Go.Proofs.Ytidihnnkcmeaeaa.A
open Go.RowKit Go.Proofs.YtidihnnkcmeaeaaW.PrintWords Go.Proofs.YtidihnnkcmeaeaaW.PrintLast Go.Proofs.YtidihnnkcmeaeaaW.PrintMore
set_option linter.unusedVariables false
set_option linter.unusedSimpArgs false

theorem fit_len {n : Int} {c : List S70} (h : isFit n c) : c.length ≤ 536870912 := short_len (canB_lens h.1).1 (canB_lens h.1).2.1 (canB_lens h.1).2.2
theorem can_len {c : List S70} (h : canB c = true) : c.length ≤ 536870912 := short_len (canB_lens h).1 (canB_lens h).2.1 (canB_lens h).2.2
theorem own_ev {d : List S70} (h : canB d = true) : Ev (fun _ => galleylaw13_own.f d) d := by
 rw [own_f (by have := can_len h; omega)]
 exact Ev.now _
end Go.Proofs.Ytidihnnkcmeaeaa.A
