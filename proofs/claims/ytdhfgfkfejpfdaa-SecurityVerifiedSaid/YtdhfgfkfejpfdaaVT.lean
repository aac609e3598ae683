
/- The contracts of reading texts, and of the reference's texts. -/
import Derived.Test.YtdhfgfkfejpfdaaVE
set_option linter.unusedSimpArgs false
set_option linter.unusedSectionVars false
set_option linter.unusedVariables false
namespace Go.Proofs.Ytdhfgfkfejpfdaa
open Go.Sy Go.Mb
set_option maxRecDepth 100000
set_option linter.unusedVariables false
set_option maxHeartbeats 1000000

end Go.Proofs.Ytdhfgfkfejpfdaa
