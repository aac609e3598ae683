
/- The contracts of the reader. -/
import Derived.Test.YtdhfgfkfejpfdaaGreatVC
set_option linter.unusedSimpArgs false
set_option linter.unusedSectionVars false
set_option linter.unusedVariables false
namespace Go.Proofs.YtdhfgfkfejpfdaaGreat
open Go.Sy Go.Mb
set_option maxRecDepth 100000
set_option linter.unusedVariables false
set_option maxHeartbeats 1000000

theorem getD_drop (l : List Nat) (a i : Nat) : (l.drop a).getD i 0 = l.getD (a + i) 0 := by simp [List.getD, List.getElem?_drop]
end Go.Proofs.YtdhfgfkfejpfdaaGreat
