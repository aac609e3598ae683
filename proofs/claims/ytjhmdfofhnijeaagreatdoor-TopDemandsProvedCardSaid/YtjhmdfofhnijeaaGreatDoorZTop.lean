/-
  TopDemandsProved returns true for every input and leaves its arguments as they were: the tied card. Conditions: those of the card.
-/
import Derived.Test.YtjhmdfofhnijeaaGreatDoorZ2
set_option linter.all false
namespace Go.Proofs.YtjhmdfofhnijeaaGreatDoor.topDemandsProved
open Go.Sy
theorem proved:Rows.TopDemandsProvedCardSaid:=card aiO.2.fn
end Go.Proofs.YtjhmdfofhnijeaaGreatDoor.topDemandsProved
