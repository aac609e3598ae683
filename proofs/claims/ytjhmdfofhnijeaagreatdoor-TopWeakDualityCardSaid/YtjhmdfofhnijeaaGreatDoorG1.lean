import Derived.Test.YtjhmdfofhnijeaaGreatDoorE1
set_option linter.unusedSimpArgs false
set_option linter.unusedSectionVars false
set_option linter.unusedVariables false
namespace Go.Proofs.YtjhmdfofhnijeaaGreatDoor
open Go.Sy
set_option maxRecDepth 100000
set_option maxHeartbeats 4000000
def k887:=q 6 [] tt [k1,k886]
end Go.Proofs.YtjhmdfofhnijeaaGreatDoor
