import Derived.Test.YtihmegmambmljaaDoorPlainB
import Derived.Test.YtihmegmambmljaaDoorWa
set_option linter.unusedSimpArgs false
set_option linter.unusedVariables false
set_option maxRecDepth 100000
namespace Go.Kn
open Go.Proofs
end Go.Kn
