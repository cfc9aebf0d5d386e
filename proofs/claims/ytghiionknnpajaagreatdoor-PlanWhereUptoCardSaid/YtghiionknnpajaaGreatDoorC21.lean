/- PlanGoes answers true. -/
import Derived.Test.YtghiionknnpajaaGreatDoorC20
set_option linter.unusedVariables false
set_option linter.unusedSimpArgs false
namespace Go.Ab.S2
open Go.Ab
set_option maxRecDepth 100000

end Go.Ab.S2
