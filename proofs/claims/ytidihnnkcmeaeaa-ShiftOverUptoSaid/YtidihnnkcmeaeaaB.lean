/- Small words for the texts that a program wrote. No condition. -/
import Derived.Test.YtidihnnkcmeaeaaA0
namespace Go.Proofs.Ytidihnnkcmeaeaa.A
theorem isEmpty_bne (l : List UInt8) : l.isEmpty = !(l != []) := by cases l <;> rfl
end Go.Proofs.Ytidihnnkcmeaeaa.A
