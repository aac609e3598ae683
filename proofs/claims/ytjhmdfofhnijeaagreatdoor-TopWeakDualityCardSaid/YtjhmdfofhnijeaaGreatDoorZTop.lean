/-
  TopWeakDuality returns true for every input and leaves its arguments as they were: the tied card. Conditions: those of the card.
-/
import Derived.Test.YtjhmdfofhnijeaaGreatDoorZ2
import Derived.Test.YtjhmdfofhnijeaaGreatDoorG1
namespace Go.Proofs.YtjhmdfofhnijeaaGreatDoor.topWeakDuality
open Go.Sy
theorem proved : Rows.TopWeakDualityCardSaid := card k887.2.fn
end Go.Proofs.YtjhmdfofhnijeaaGreatDoor.topWeakDuality
