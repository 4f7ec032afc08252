/- The pure statement of DeltaNames is proved: the closed sentence is true. No condition. -/
import Derived.Test.YtidihnnkcmeaeaaPDeltaNamesx1
namespace Go.Proofs.Ytidihnnkcmeaeaa.Pure
open Go.RowKit Go.Proofs.Ytidihnnkcmeaeaa.PDeltaNames Go.Proofs.YtidihnnkcmeaeaaW.PrintWords Go.Proofs.YtidihnnkcmeaeaaW.PrintLast

/-- YOURS: galleylaw13_DeltaNames.f  = some true
What it reaches (each with k first where it has rounds; `.mono`: more rounds tell the same; `.l0`, ..: its loops, with `.mono_l`): galleylaw13_DeltaNames.f -/
theorem DeltaNames : galleylaw13_DeltaNames.Pure := by
  rfl

end Go.Proofs.Ytidihnnkcmeaeaa.Pure
