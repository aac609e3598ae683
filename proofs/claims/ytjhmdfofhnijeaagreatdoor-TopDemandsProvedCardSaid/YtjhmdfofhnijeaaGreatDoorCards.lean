/-
  DERIVED. GIVEN WITH THE SEED: THE CARDS: each row of YtjhmdfofhnijeaaGreatDoorRows.lean that lists a variable, with what it lists TIED to the program's text (the seventh form; the later family's looks); each row that meets fmt, with fmt's text TOLD by the authors' own Lean function (tested against real Go, not proved from fmt's source: count such statements apart). THE CARD IS WHAT COUNTS. Prove the row's statement (the work); the ties are given (YtjhmdfofhnijeaaGreatDoorTie.lean); close each card by the builder's one call (the guide's Derived/Test/ToyasCard.lean, 'card_holds'). Laid BY PROGRAM, IN A SANDBOX (cutbox-door.mjs). By AI agents, Wed Nov 11 2026. No macro, syntax, notation, axiom, sorry.
-/
import Derived.Test.YtjhmdfofhnijeaaGreatDoorRows
import GoSem.ClaimSeven
namespace Go.Proofs.YtjhmdfofhnijeaaGreatDoor
namespace Rows

/-- THE TIED CARD OF 'mailboattop.TopWeakDuality'. -/
def topWeakDualityCard : Claim7 := { stood := { row := topWeakDualityRow, standIns := [], harness := (true, "5eb3649b67557ea2c1f533c2a8db8cd9aa1db35f7d64895c7d0e346daf212106"), looks := true }, kinds := [], alts := [], laidByText := true, laidKinds := [.pinned, .data], laidTests := true, laidLooks := .later }
def TopWeakDualityCardSaid : Prop := Claim7.holds Tryz.pinned (.plain (OpenSpec.ofChange topWeakDualitySpec)) topWeakDualityCard

/-- THE TIED CARD OF 'mailboattop.TopDemandsProved'. -/
def topDemandsProvedCard : Claim7 := { stood := { row := topDemandsProvedRow, standIns := [], harness := (true, "5eb3649b67557ea2c1f533c2a8db8cd9aa1db35f7d64895c7d0e346daf212106"), looks := true }, kinds := [], alts := [], laidByText := true, laidKinds := [.pinned, .data], laidTests := true, laidLooks := .later }
def TopDemandsProvedCardSaid : Prop := Claim7.holds Tryz.pinned (.plain (OpenSpec.ofChange topDemandsProvedSpec)) topDemandsProvedCard

/-- THE SECOND FORM's CARD OF 'mailboattop.TopWeakDuality'. -/
def topWeakDualityUptoCard : Claim7 := { stood := { row := topWeakDualityUptoRow, standIns := [], harness := (true, "5eb3649b67557ea2c1f533c2a8db8cd9aa1db35f7d64895c7d0e346daf212106"), looks := true }, kinds := [], alts := [], laidByText := true, laidKinds := [.pinned, .data], laidTests := true, laidLooks := .later }
def TopWeakDualityUptoCardSaid : Prop := Claim7.holds Tryz.pinned (.plain (OpenSpec.upto topWeakDualitySpec)) topWeakDualityUptoCard

/-- THE SECOND FORM's CARD OF 'mailboattop.TopDemandsProved'. -/
def topDemandsProvedUptoCard : Claim7 := { stood := { row := topDemandsProvedUptoRow, standIns := [], harness := (true, "5eb3649b67557ea2c1f533c2a8db8cd9aa1db35f7d64895c7d0e346daf212106"), looks := true }, kinds := [], alts := [], laidByText := true, laidKinds := [.pinned, .data], laidTests := true, laidLooks := .later }
def TopDemandsProvedUptoCardSaid : Prop := Claim7.holds Tryz.pinned (.plain (OpenSpec.upto topDemandsProvedSpec)) topDemandsProvedUptoCard
end Rows
end Go.Proofs.YtjhmdfofhnijeaaGreatDoor
