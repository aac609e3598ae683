/-
  No cell of these rows narrows 'for every input' (looked for: loops, veiled, ifaces, maps, wideKeys, modest, calm, conditions, laid).
  DERIVED. THE GIVEN ROWS OF THIS SEAT. 8 by the template 'for every input the law returns true; each argument reads behind the call as it read before'; 0 by the template 'total and deterministic' (their statements: YthfbahebeembeaaTotals.lean).
  GIVEN WITH THE SEED: the statements are not yours to turn. If you find one false, say at which input.
  Laid BY PROGRAM, IN A SANDBOX (cutbox-rows.mjs): the forced cells as the released guide's own fill.sh prints them over the translation 01752eb15a70a8ef… (all of the seat's roots in one cut). By AI agents, Wed Nov 11 2026. No macro, syntax, notation, axiom, sorry.
-/
import Derived.Test.YthfbahebeembeaaChecked
import GoSem.Claim
import GoSem.ClaimJoined
import GoSem.ClaimMapViews
import Derived.JoinedTies
import Derived.KernelRfl
namespace Go.Proofs.Ythfbahebeembeaa
/- THE CELL 'sum', in the pinned program and in every row, IS THE sha256 OF THE DUMP (.gsa) THAT YthfbahebeembeaaProg.lean LOADS. Nothing in Lean hashes anything: it is a label: what it is worth is what the hold of that sum in a sandbox is worth. -/
noncomputable def Try.pinned : Pinned := { name := "ythfbahebeembeaa", sum := "01752eb15a70a8efb98112f71e1b305abbbbfa7c760664070bdc52d9a0d11740", checked := Try.checked }
namespace Rows
def none {H : Type} : Left H := { results := [], args := [] }

/-- 'mailboatlaw23.UpdateChanges': WHATEVER THE INPUT: true; the input reads as it did. -/
def updateChangesSpec : ChangeSpec := { name := "updateChanges", fn := fun _ => fun
  | [d1, d2, d3] => { results := [.lit (.bool true)], args := [d1, d2, d3] }
  | _ => none }
def updateChangesRow : OpenClaim := { program := "ythfbahebeembeaa", sum := "01752eb15a70a8efb98112f71e1b305abbbbfa7c760664070bdc52d9a0d11740", func := "mailboat/mailboatlaw23.UpdateChanges", spec := "updateChanges", unfollowed := true, recurses := true, plainKeys := false, apart := false }
def UpdateChangesSaid : Prop := updateChangesRow.holds Try.pinned (OpenSpec.ofChange updateChangesSpec)

/-- ITS FALSE NEIGHBOUR: 'it returns false'. Refute it at one input. -/
def updateChangesWrong : ChangeSpec := { name := "updateChanges", fn := fun _ => fun
  | [d1, d2, d3] => { results := [.lit (.bool false)], args := [d1, d2, d3] }
  | _ => none }
def UpdateChangesWrongFalsely : Prop := updateChangesRow.holds Try.pinned (OpenSpec.ofChange updateChangesWrong)

/-- 'mailboatlaw23.UpdateChecks': WHATEVER THE INPUT: true; the input reads as it did. -/
def updateChecksSpec : ChangeSpec := { name := "updateChecks", fn := fun _ => fun
  | [d1, d2] => { results := [.lit (.bool true)], args := [d1, d2] }
  | _ => none }
def updateChecksRow : OpenClaim := { program := "ythfbahebeembeaa", sum := "01752eb15a70a8efb98112f71e1b305abbbbfa7c760664070bdc52d9a0d11740", func := "mailboat/mailboatlaw23.UpdateChecks", spec := "updateChecks", unfollowed := true, recurses := true, plainKeys := false, apart := false }
def UpdateChecksSaid : Prop := updateChecksRow.holds Try.pinned (OpenSpec.ofChange updateChecksSpec)

/-- ITS FALSE NEIGHBOUR: 'it returns false'. Refute it at one input. -/
def updateChecksWrong : ChangeSpec := { name := "updateChecks", fn := fun _ => fun
  | [d1, d2] => { results := [.lit (.bool false)], args := [d1, d2] }
  | _ => none }
def UpdateChecksWrongFalsely : Prop := updateChecksRow.holds Try.pinned (OpenSpec.ofChange updateChecksWrong)

/-- 'mailboatlaw23.UpdateLast': WHATEVER THE INPUT: true; the input reads as it did. -/
def updateLastSpec : ChangeSpec := { name := "updateLast", fn := fun _ => fun
  | [d1, d2, d3, d4] => { results := [.lit (.bool true)], args := [d1, d2, d3, d4] }
  | _ => none }
def updateLastRow : OpenClaim := { program := "ythfbahebeembeaa", sum := "01752eb15a70a8efb98112f71e1b305abbbbfa7c760664070bdc52d9a0d11740", func := "mailboat/mailboatlaw23.UpdateLast", spec := "updateLast", unfollowed := true, recurses := true, plainKeys := false, apart := false }
def UpdateLastSaid : Prop := updateLastRow.holds Try.pinned (OpenSpec.ofChange updateLastSpec)

/-- ITS FALSE NEIGHBOUR: 'it returns false'. Refute it at one input. -/
def updateLastWrong : ChangeSpec := { name := "updateLast", fn := fun _ => fun
  | [d1, d2, d3, d4] => { results := [.lit (.bool false)], args := [d1, d2, d3, d4] }
  | _ => none }
def UpdateLastWrongFalsely : Prop := updateLastRow.holds Try.pinned (OpenSpec.ofChange updateLastWrong)

/-- 'mailboatlaw23.UpdatePlans': WHATEVER THE INPUT: true; the input reads as it did. -/
def updatePlansSpec : ChangeSpec := { name := "updatePlans", fn := fun _ => fun
  | [d] => { results := [.lit (.bool true)], args := [d] }
  | _ => none }
def updatePlansRow : OpenClaim := { program := "ythfbahebeembeaa", sum := "01752eb15a70a8efb98112f71e1b305abbbbfa7c760664070bdc52d9a0d11740", func := "mailboat/mailboatlaw23.UpdatePlans", spec := "updatePlans", unfollowed := true, recurses := true, plainKeys := false, apart := false }
def UpdatePlansSaid : Prop := updatePlansRow.holds Try.pinned (OpenSpec.ofChange updatePlansSpec)

/-- ITS FALSE NEIGHBOUR: 'it returns false'. Refute it at one input. -/
def updatePlansWrong : ChangeSpec := { name := "updatePlans", fn := fun _ => fun
  | [d] => { results := [.lit (.bool false)], args := [d] }
  | _ => none }
def UpdatePlansWrongFalsely : Prop := updatePlansRow.holds Try.pinned (OpenSpec.ofChange updatePlansWrong)

/-- 'mailboatlaw23.UpdateMerge': WHATEVER THE INPUT: true; the input reads as it did. -/
def updateMergeSpec : ChangeSpec := { name := "updateMerge", fn := fun _ => fun
  | [d1, d2, d3] => { results := [.lit (.bool true)], args := [d1, d2, d3] }
  | _ => none }
def updateMergeRow : OpenClaim := { program := "ythfbahebeembeaa", sum := "01752eb15a70a8efb98112f71e1b305abbbbfa7c760664070bdc52d9a0d11740", func := "mailboat/mailboatlaw23.UpdateMerge", spec := "updateMerge", unfollowed := true, recurses := true, plainKeys := false, apart := false }
def UpdateMergeSaid : Prop := updateMergeRow.holds Try.pinned (OpenSpec.ofChange updateMergeSpec)

/-- ITS FALSE NEIGHBOUR: 'it returns false'. Refute it at one input. -/
def updateMergeWrong : ChangeSpec := { name := "updateMerge", fn := fun _ => fun
  | [d1, d2, d3] => { results := [.lit (.bool false)], args := [d1, d2, d3] }
  | _ => none }
def UpdateMergeWrongFalsely : Prop := updateMergeRow.holds Try.pinned (OpenSpec.ofChange updateMergeWrong)

/-- 'mailboatlaw23.UpdateExchange': WHATEVER THE INPUT: true; the input reads as it did. -/
def updateExchangeSpec : ChangeSpec := { name := "updateExchange", fn := fun _ => fun
  | [d] => { results := [.lit (.bool true)], args := [d] }
  | _ => none }
def updateExchangeRow : OpenClaim := { program := "ythfbahebeembeaa", sum := "01752eb15a70a8efb98112f71e1b305abbbbfa7c760664070bdc52d9a0d11740", func := "mailboat/mailboatlaw23.UpdateExchange", spec := "updateExchange", unfollowed := true, recurses := true, plainKeys := false, apart := false }
def UpdateExchangeSaid : Prop := updateExchangeRow.holds Try.pinned (OpenSpec.ofChange updateExchangeSpec)

/-- ITS FALSE NEIGHBOUR: 'it returns false'. Refute it at one input. -/
def updateExchangeWrong : ChangeSpec := { name := "updateExchange", fn := fun _ => fun
  | [d] => { results := [.lit (.bool false)], args := [d] }
  | _ => none }
def UpdateExchangeWrongFalsely : Prop := updateExchangeRow.holds Try.pinned (OpenSpec.ofChange updateExchangeWrong)

/-- 'mailboatlaw23.UpdateOrders': WHATEVER THE INPUT: true; the input reads as it did. -/
def updateOrdersSpec : ChangeSpec := { name := "updateOrders", fn := fun _ => fun
  | [d1, d2] => { results := [.lit (.bool true)], args := [d1, d2] }
  | _ => none }
def updateOrdersRow : OpenClaim := { program := "ythfbahebeembeaa", sum := "01752eb15a70a8efb98112f71e1b305abbbbfa7c760664070bdc52d9a0d11740", func := "mailboat/mailboatlaw23.UpdateOrders", spec := "updateOrders", unfollowed := true, recurses := true, plainKeys := false, apart := false }
def UpdateOrdersSaid : Prop := updateOrdersRow.holds Try.pinned (OpenSpec.ofChange updateOrdersSpec)

/-- ITS FALSE NEIGHBOUR: 'it returns false'. Refute it at one input. -/
def updateOrdersWrong : ChangeSpec := { name := "updateOrders", fn := fun _ => fun
  | [d1, d2] => { results := [.lit (.bool false)], args := [d1, d2] }
  | _ => none }
def UpdateOrdersWrongFalsely : Prop := updateOrdersRow.holds Try.pinned (OpenSpec.ofChange updateOrdersWrong)

/-- 'mailboatlaw23.UpdateJoin': WHATEVER THE INPUT: true; the input reads as it did. -/
def updateJoinSpec : ChangeSpec := { name := "updateJoin", fn := fun _ => fun
  | [d] => { results := [.lit (.bool true)], args := [d] }
  | _ => none }
def updateJoinRow : OpenClaim := { program := "ythfbahebeembeaa", sum := "01752eb15a70a8efb98112f71e1b305abbbbfa7c760664070bdc52d9a0d11740", func := "mailboat/mailboatlaw23.UpdateJoin", spec := "updateJoin", unfollowed := true, recurses := true, plainKeys := false, apart := false }
def UpdateJoinSaid : Prop := updateJoinRow.holds Try.pinned (OpenSpec.ofChange updateJoinSpec)

/-- ITS FALSE NEIGHBOUR: 'it returns false'. Refute it at one input. -/
def updateJoinWrong : ChangeSpec := { name := "updateJoin", fn := fun _ => fun
  | [d] => { results := [.lit (.bool false)], args := [d] }
  | _ => none }
def UpdateJoinWrongFalsely : Prop := updateJoinRow.holds Try.pinned (OpenSpec.ofChange updateJoinWrong)

/- THE SECOND FORM. 'bulk': how many values and letters a reading holds, each counted each time it is reached (what is shared counts as often as it is met; a slice's spare places count too). A statement '..UptoSaid' is the law's where the arguments, and the package variables that the reading takes, are together of bulk at most 1048576: NARROWER than '..Said'. Prove '..Said' where nothing that the law and all that it calls make is longer than what came in: it says more and counts as full. Else prove '..UptoSaid'. A law counts once. -/
mutual
def uptoBulk {H : Type} : DataW H → Nat
  | .lit (.string bytes) => bytes.length + 1
  | .lit _ => 1
  | .nil => 1
  | .ptr d => uptoBulk d + 1
  | .slice elems spare => uptoBulkAll elems + uptoBulkAll spare + 1
  | .agg parts => uptoBulkAll parts + 1
  | .iface _ d => uptoBulk d + 1
  | .map entries => uptoBulkEntries entries + 1
  | .held _ => 1
def uptoBulkAll {H : Type} : List (DataW H) → Nat
  | [] => 0
  | d :: r => uptoBulk d + uptoBulkAll r
def uptoBulkEntries {H : Type} : List (Lit × DataW H) → Nat
  | [] => 0
  | x :: r => uptoBulkEntry x + uptoBulkEntries r
def uptoBulkEntry {H : Type} : Lit × DataW H → Nat
  | (.string bytes, d) => bytes.length + uptoBulk d + 1
  | (_, d) => uptoBulk d + 1
 end
def uptoSmall : (H : Type) → List (DataW H) → Bool := fun _ ds => decide (uptoBulkAll ds ≤ 1048576)
def OpenSpec.upto (s : _root_.Go.ChangeSpec) : _root_.Go.OpenSpec := { _root_.Go.OpenSpec.ofChange s with cond := some uptoSmall }

/-- 'mailboatlaw23.UpdateChanges', WHERE WHAT IT READS IS OF BULK AT MOST 1048576: true; the input reads as it did. -/
def updateChangesUptoRow : OpenClaim := { program := "ythfbahebeembeaa", sum := "01752eb15a70a8efb98112f71e1b305abbbbfa7c760664070bdc52d9a0d11740", func := "mailboat/mailboatlaw23.UpdateChanges", spec := "updateChanges", unfollowed := true, recurses := true, plainKeys := false, apart := false, narrowed := true }
def UpdateChangesUptoSaid : Prop := updateChangesUptoRow.holds Try.pinned (OpenSpec.upto updateChangesSpec)

/-- 'mailboatlaw23.UpdateChecks', WHERE WHAT IT READS IS OF BULK AT MOST 1048576: true; the input reads as it did. -/
def updateChecksUptoRow : OpenClaim := { program := "ythfbahebeembeaa", sum := "01752eb15a70a8efb98112f71e1b305abbbbfa7c760664070bdc52d9a0d11740", func := "mailboat/mailboatlaw23.UpdateChecks", spec := "updateChecks", unfollowed := true, recurses := true, plainKeys := false, apart := false, narrowed := true }
def UpdateChecksUptoSaid : Prop := updateChecksUptoRow.holds Try.pinned (OpenSpec.upto updateChecksSpec)

/-- 'mailboatlaw23.UpdateLast', WHERE WHAT IT READS IS OF BULK AT MOST 1048576: true; the input reads as it did. -/
def updateLastUptoRow : OpenClaim := { program := "ythfbahebeembeaa", sum := "01752eb15a70a8efb98112f71e1b305abbbbfa7c760664070bdc52d9a0d11740", func := "mailboat/mailboatlaw23.UpdateLast", spec := "updateLast", unfollowed := true, recurses := true, plainKeys := false, apart := false, narrowed := true }
def UpdateLastUptoSaid : Prop := updateLastUptoRow.holds Try.pinned (OpenSpec.upto updateLastSpec)

/-- 'mailboatlaw23.UpdatePlans', WHERE WHAT IT READS IS OF BULK AT MOST 1048576: true; the input reads as it did. -/
def updatePlansUptoRow : OpenClaim := { program := "ythfbahebeembeaa", sum := "01752eb15a70a8efb98112f71e1b305abbbbfa7c760664070bdc52d9a0d11740", func := "mailboat/mailboatlaw23.UpdatePlans", spec := "updatePlans", unfollowed := true, recurses := true, plainKeys := false, apart := false, narrowed := true }
def UpdatePlansUptoSaid : Prop := updatePlansUptoRow.holds Try.pinned (OpenSpec.upto updatePlansSpec)

/-- 'mailboatlaw23.UpdateMerge', WHERE WHAT IT READS IS OF BULK AT MOST 1048576: true; the input reads as it did. -/
def updateMergeUptoRow : OpenClaim := { program := "ythfbahebeembeaa", sum := "01752eb15a70a8efb98112f71e1b305abbbbfa7c760664070bdc52d9a0d11740", func := "mailboat/mailboatlaw23.UpdateMerge", spec := "updateMerge", unfollowed := true, recurses := true, plainKeys := false, apart := false, narrowed := true }
def UpdateMergeUptoSaid : Prop := updateMergeUptoRow.holds Try.pinned (OpenSpec.upto updateMergeSpec)

/-- 'mailboatlaw23.UpdateExchange', WHERE WHAT IT READS IS OF BULK AT MOST 1048576: true; the input reads as it did. -/
def updateExchangeUptoRow : OpenClaim := { program := "ythfbahebeembeaa", sum := "01752eb15a70a8efb98112f71e1b305abbbbfa7c760664070bdc52d9a0d11740", func := "mailboat/mailboatlaw23.UpdateExchange", spec := "updateExchange", unfollowed := true, recurses := true, plainKeys := false, apart := false, narrowed := true }
def UpdateExchangeUptoSaid : Prop := updateExchangeUptoRow.holds Try.pinned (OpenSpec.upto updateExchangeSpec)

/-- 'mailboatlaw23.UpdateOrders', WHERE WHAT IT READS IS OF BULK AT MOST 1048576: true; the input reads as it did. -/
def updateOrdersUptoRow : OpenClaim := { program := "ythfbahebeembeaa", sum := "01752eb15a70a8efb98112f71e1b305abbbbfa7c760664070bdc52d9a0d11740", func := "mailboat/mailboatlaw23.UpdateOrders", spec := "updateOrders", unfollowed := true, recurses := true, plainKeys := false, apart := false, narrowed := true }
def UpdateOrdersUptoSaid : Prop := updateOrdersUptoRow.holds Try.pinned (OpenSpec.upto updateOrdersSpec)

/-- 'mailboatlaw23.UpdateJoin', WHERE WHAT IT READS IS OF BULK AT MOST 1048576: true; the input reads as it did. -/
def updateJoinUptoRow : OpenClaim := { program := "ythfbahebeembeaa", sum := "01752eb15a70a8efb98112f71e1b305abbbbfa7c760664070bdc52d9a0d11740", func := "mailboat/mailboatlaw23.UpdateJoin", spec := "updateJoin", unfollowed := true, recurses := true, plainKeys := false, apart := false, narrowed := true }
def UpdateJoinUptoSaid : Prop := updateJoinUptoRow.holds Try.pinned (OpenSpec.upto updateJoinSpec)

end Rows
end Go.Proofs.Ythfbahebeembeaa
