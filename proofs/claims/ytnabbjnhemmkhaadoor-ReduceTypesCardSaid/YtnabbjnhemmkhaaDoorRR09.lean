/- The program's functions do what the models say. -/
import Derived.Test.YtnabbjnhemmkhaaDoorRR08
import Derived.Test.YtnabbjnhemmkhaaDoorRM
set_option maxRecDepth 20000
set_option maxHeartbeats 4000000
set_option linter.unusedSimpArgs false
set_option linter.unusedVariables false
namespace Go.Proofs.YtnabbjnhemmkhaaDoor
open Go Go.Abs Go.Mdl


end Go.Proofs.YtnabbjnhemmkhaaDoor
