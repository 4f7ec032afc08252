/- The changes of a canonical delta, and places behind them. Plain lists. No condition but canonical operations. -/
import Derived.Test.YtidihnnkcmeaeaaP0
namespace Go.Proofs.Ytidihnnkcmeaeaa.A
open Go.RowKit Go.Proofs.YtidihnnkcmeaeaaW.PrintWords Go.Proofs.YtidihnnkcmeaeaaW.PrintLast Go.Proofs.YtidihnnkcmeaeaaW.PrintMore
set_option linter.unusedVariables false
set_option linter.unusedSimpArgs false
end Go.Proofs.Ytidihnnkcmeaeaa.A
