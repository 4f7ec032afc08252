/- Bytes that are copied. No condition but size. -/
import Derived.Test.YtidihnnkcmeaeaaA8
namespace Go.Proofs.Ytidihnnkcmeaeaa.A
open Go.RowKit Go.Proofs.YtidihnnkcmeaeaaW.PrintWords Go.Proofs.YtidihnnkcmeaeaaW.PrintLast
theorem bytes_f {xs : List Int} (h : xs.length < 140737488355328) : galleylaw13_bytes.f xs = some xs := by
  unfold galleylaw13_bytes.f
  rw [Option.bind_some, if_pos (by simpa using h)]; rfl
theorem bytes_ev {xs : List Int} (h : xs.length < 140737488355328) : Ev (fun _ => galleylaw13_bytes.f xs) xs := by rw [bytes_f h]; exact Ev.now _
end Go.Proofs.Ytidihnnkcmeaeaa.A
