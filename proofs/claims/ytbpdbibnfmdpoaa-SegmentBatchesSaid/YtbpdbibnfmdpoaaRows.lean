/-
  No cell of these rows narrows 'for every input' (looked for: loops, veiled, ifaces, maps, wideKeys, modest, calm, conditions, laid).
  DERIVED. THE GIVEN ROWS OF THIS SEAT. 7 by the template 'for every input the law returns true; each argument reads behind the call as it read before'; 0 by the template 'total and deterministic' (their statements: YtbpdbibnfmdpoaaTotals.lean).
  GIVEN WITH THE SEED: the statements are not yours to turn. If you find one false, say at which input.
  Laid BY PROGRAM, IN A SANDBOX (cutbox-rows.mjs): the forced cells as the released guide's own fill.sh prints them over the translation 2c3843d2e7e97a04… (all of the seat's roots in one cut). By AI agents, Wed Nov 11 2026. No macro, syntax, notation, axiom, sorry.
-/
import Derived.Test.YtbpdbibnfmdpoaaChecked
import GoSem.Claim
import GoSem.ClaimJoined
import GoSem.ClaimMapViews
import Derived.JoinedTies
import Derived.KernelRfl
namespace Go.Proofs.Ytbpdbibnfmdpoaa
/- THE CELL 'sum', in the pinned program and in every row, IS THE sha256 OF THE DUMP (.gsa) THAT YtbpdbibnfmdpoaaProg.lean LOADS. Nothing in Lean hashes anything: it is a label: what it is worth is what the hold of that sum in a sandbox is worth. -/
noncomputable def Try.pinned : Pinned := { name := "ytbpdbibnfmdpoaa", sum := "2c3843d2e7e97a04e7a09549a39c82befaa26caf00ca1f182a1aeca170945515", checked := Try.checked }
namespace Rows
def none {H : Type} : Left H := { results := [], args := [] }

/-- 'mailboatlaw37.SegmentCodes': WHATEVER THE INPUT: true; the input reads as it did. -/
def segmentCodesSpec : ChangeSpec := { name := "segmentCodes", fn := fun _ => fun
  | [d1, d2, d3] => { results := [.lit (.bool true)], args := [d1, d2, d3] }
  | _ => none }
def segmentCodesRow : OpenClaim := { program := "ytbpdbibnfmdpoaa", sum := "2c3843d2e7e97a04e7a09549a39c82befaa26caf00ca1f182a1aeca170945515", func := "mailboat/mailboatlaw37.SegmentCodes", spec := "segmentCodes", unfollowed := true, recurses := true, apart := false }
def SegmentCodesSaid : Prop := segmentCodesRow.holds Try.pinned (OpenSpec.ofChange segmentCodesSpec)

/-- ITS FALSE NEIGHBOUR: 'it returns false'. Refute it at one input. -/
def segmentCodesWrong : ChangeSpec := { name := "segmentCodes", fn := fun _ => fun
  | [d1, d2, d3] => { results := [.lit (.bool false)], args := [d1, d2, d3] }
  | _ => none }
def SegmentCodesWrongFalsely : Prop := segmentCodesRow.holds Try.pinned (OpenSpec.ofChange segmentCodesWrong)

/-- 'mailboatlaw37.SegmentRoundTrip': WHATEVER THE INPUT: true; the input reads as it did. -/
def segmentRoundTripSpec : ChangeSpec := { name := "segmentRoundTrip", fn := fun _ => fun
  | [d1, d2] => { results := [.lit (.bool true)], args := [d1, d2] }
  | _ => none }
def segmentRoundTripRow : OpenClaim := { program := "ytbpdbibnfmdpoaa", sum := "2c3843d2e7e97a04e7a09549a39c82befaa26caf00ca1f182a1aeca170945515", func := "mailboat/mailboatlaw37.SegmentRoundTrip", spec := "segmentRoundTrip", unfollowed := true, recurses := true, apart := false }
def SegmentRoundTripSaid : Prop := segmentRoundTripRow.holds Try.pinned (OpenSpec.ofChange segmentRoundTripSpec)

/-- ITS FALSE NEIGHBOUR: 'it returns false'. Refute it at one input. -/
def segmentRoundTripWrong : ChangeSpec := { name := "segmentRoundTrip", fn := fun _ => fun
  | [d1, d2] => { results := [.lit (.bool false)], args := [d1, d2] }
  | _ => none }
def SegmentRoundTripWrongFalsely : Prop := segmentRoundTripRow.holds Try.pinned (OpenSpec.ofChange segmentRoundTripWrong)

/-- 'mailboatlaw37.SegmentDamage': WHATEVER THE INPUT: true; the input reads as it did. -/
def segmentDamageSpec : ChangeSpec := { name := "segmentDamage", fn := fun _ => fun
  | [d1, d2, d3, d4] => { results := [.lit (.bool true)], args := [d1, d2, d3, d4] }
  | _ => none }
def segmentDamageRow : OpenClaim := { program := "ytbpdbibnfmdpoaa", sum := "2c3843d2e7e97a04e7a09549a39c82befaa26caf00ca1f182a1aeca170945515", func := "mailboat/mailboatlaw37.SegmentDamage", spec := "segmentDamage", unfollowed := true, recurses := true, apart := false }
def SegmentDamageSaid : Prop := segmentDamageRow.holds Try.pinned (OpenSpec.ofChange segmentDamageSpec)

/-- ITS FALSE NEIGHBOUR: 'it returns false'. Refute it at one input. -/
def segmentDamageWrong : ChangeSpec := { name := "segmentDamage", fn := fun _ => fun
  | [d1, d2, d3, d4] => { results := [.lit (.bool false)], args := [d1, d2, d3, d4] }
  | _ => none }
def SegmentDamageWrongFalsely : Prop := segmentDamageRow.holds Try.pinned (OpenSpec.ofChange segmentDamageWrong)

/-- 'mailboatlaw37.SegmentBatches': WHATEVER THE INPUT: true; the input reads as it did. -/
def segmentBatchesSpec : ChangeSpec := { name := "segmentBatches", fn := fun _ => fun
  | [d1, d2, d3, d4, d5] => { results := [.lit (.bool true)], args := [d1, d2, d3, d4, d5] }
  | _ => none }
def segmentBatchesRow : OpenClaim := { program := "ytbpdbibnfmdpoaa", sum := "2c3843d2e7e97a04e7a09549a39c82befaa26caf00ca1f182a1aeca170945515", func := "mailboat/mailboatlaw37.SegmentBatches", spec := "segmentBatches", unfollowed := true, recurses := true, apart := false }
def SegmentBatchesSaid : Prop := segmentBatchesRow.holds Try.pinned (OpenSpec.ofChange segmentBatchesSpec)

/-- ITS FALSE NEIGHBOUR: 'it returns false'. Refute it at one input. -/
def segmentBatchesWrong : ChangeSpec := { name := "segmentBatches", fn := fun _ => fun
  | [d1, d2, d3, d4, d5] => { results := [.lit (.bool false)], args := [d1, d2, d3, d4, d5] }
  | _ => none }
def SegmentBatchesWrongFalsely : Prop := segmentBatchesRow.holds Try.pinned (OpenSpec.ofChange segmentBatchesWrong)

/-- 'mailboatlaw37.SegmentClaims': WHATEVER THE INPUT: true; the input reads as it did. -/
def segmentClaimsSpec : ChangeSpec := { name := "segmentClaims", fn := fun _ => fun
  | [d1, d2, d3, d4] => { results := [.lit (.bool true)], args := [d1, d2, d3, d4] }
  | _ => none }
def segmentClaimsRow : OpenClaim := { program := "ytbpdbibnfmdpoaa", sum := "2c3843d2e7e97a04e7a09549a39c82befaa26caf00ca1f182a1aeca170945515", func := "mailboat/mailboatlaw37.SegmentClaims", spec := "segmentClaims", unfollowed := true, recurses := true, apart := false }
def SegmentClaimsSaid : Prop := segmentClaimsRow.holds Try.pinned (OpenSpec.ofChange segmentClaimsSpec)

/-- ITS FALSE NEIGHBOUR: 'it returns false'. Refute it at one input. -/
def segmentClaimsWrong : ChangeSpec := { name := "segmentClaims", fn := fun _ => fun
  | [d1, d2, d3, d4] => { results := [.lit (.bool false)], args := [d1, d2, d3, d4] }
  | _ => none }
def SegmentClaimsWrongFalsely : Prop := segmentClaimsRow.holds Try.pinned (OpenSpec.ofChange segmentClaimsWrong)

/-- 'mailboatlaw37.SegmentTimes': WHATEVER THE INPUT: true; the input reads as it did. -/
def segmentTimesSpec : ChangeSpec := { name := "segmentTimes", fn := fun _ => fun
  | [d1, d2] => { results := [.lit (.bool true)], args := [d1, d2] }
  | _ => none }
def segmentTimesRow : OpenClaim := { program := "ytbpdbibnfmdpoaa", sum := "2c3843d2e7e97a04e7a09549a39c82befaa26caf00ca1f182a1aeca170945515", func := "mailboat/mailboatlaw37.SegmentTimes", spec := "segmentTimes", unfollowed := true, recurses := true, apart := false }
def SegmentTimesSaid : Prop := segmentTimesRow.holds Try.pinned (OpenSpec.ofChange segmentTimesSpec)

/-- ITS FALSE NEIGHBOUR: 'it returns false'. Refute it at one input. -/
def segmentTimesWrong : ChangeSpec := { name := "segmentTimes", fn := fun _ => fun
  | [d1, d2] => { results := [.lit (.bool false)], args := [d1, d2] }
  | _ => none }
def SegmentTimesWrongFalsely : Prop := segmentTimesRow.holds Try.pinned (OpenSpec.ofChange segmentTimesWrong)

/-- 'mailboatlaw37.SegmentBytes': WHATEVER THE INPUT: true; the input reads as it did. -/
def segmentBytesSpec : ChangeSpec := { name := "segmentBytes", fn := fun _ => fun
  | [d1, d2, d3, d4] => { results := [.lit (.bool true)], args := [d1, d2, d3, d4] }
  | _ => none }
def segmentBytesRow : OpenClaim := { program := "ytbpdbibnfmdpoaa", sum := "2c3843d2e7e97a04e7a09549a39c82befaa26caf00ca1f182a1aeca170945515", func := "mailboat/mailboatlaw37.SegmentBytes", spec := "segmentBytes", unfollowed := true, recurses := true, apart := false }
def SegmentBytesSaid : Prop := segmentBytesRow.holds Try.pinned (OpenSpec.ofChange segmentBytesSpec)

/-- ITS FALSE NEIGHBOUR: 'it returns false'. Refute it at one input. -/
def segmentBytesWrong : ChangeSpec := { name := "segmentBytes", fn := fun _ => fun
  | [d1, d2, d3, d4] => { results := [.lit (.bool false)], args := [d1, d2, d3, d4] }
  | _ => none }
def SegmentBytesWrongFalsely : Prop := segmentBytesRow.holds Try.pinned (OpenSpec.ofChange segmentBytesWrong)

/- THE SECOND FORM. 'bulk': how many values and letters a reading holds, each counted each time it is reached (what is shared counts as often as it is met; a slice's spare places count too). A statement '..UptoSaid' is the law's where the arguments, and the package variables that the reading takes, are together of bulk at most 1048576: NARROWER than '..Said'. Prove '..Said' where nothing that the law and all that it calls make is longer than what came in: it says more and counts as full. Else prove '..UptoSaid'. A law counts once. -/
mutual
def uptoBulk {H : Type} : DataW H → Nat
  | .lit (.string bytes) => bytes.length + 1
  | .lit _ => 1
  | .nil => 1
  | .ptr d => uptoBulk d + 1
  | .slice elems spare => uptoBulkAll elems + uptoBulkAll spare + 1
  | .agg parts => uptoBulkAll parts + 1
  | .iface _ d => uptoBulk d + 1
  | .map entries => uptoBulkEntries entries + 1
  | .held _ => 1
def uptoBulkAll {H : Type} : List (DataW H) → Nat
  | [] => 0
  | d :: r => uptoBulk d + uptoBulkAll r
def uptoBulkEntries {H : Type} : List (Lit × DataW H) → Nat
  | [] => 0
  | x :: r => uptoBulkEntry x + uptoBulkEntries r
def uptoBulkEntry {H : Type} : Lit × DataW H → Nat
  | (.string bytes, d) => bytes.length + uptoBulk d + 1
  | (_, d) => uptoBulk d + 1
 end
def uptoSmall : (H : Type) → List (DataW H) → Bool := fun _ ds => decide (uptoBulkAll ds ≤ 1048576)
def OpenSpec.upto (s : _root_.Go.ChangeSpec) : _root_.Go.OpenSpec := { _root_.Go.OpenSpec.ofChange s with cond := some uptoSmall }

/-- 'mailboatlaw37.SegmentCodes', WHERE WHAT IT READS IS OF BULK AT MOST 1048576: true; the input reads as it did. -/
def segmentCodesUptoRow : OpenClaim := { program := "ytbpdbibnfmdpoaa", sum := "2c3843d2e7e97a04e7a09549a39c82befaa26caf00ca1f182a1aeca170945515", func := "mailboat/mailboatlaw37.SegmentCodes", spec := "segmentCodes", unfollowed := true, recurses := true, apart := false, narrowed := true }
def SegmentCodesUptoSaid : Prop := segmentCodesUptoRow.holds Try.pinned (OpenSpec.upto segmentCodesSpec)

/-- 'mailboatlaw37.SegmentRoundTrip', WHERE WHAT IT READS IS OF BULK AT MOST 1048576: true; the input reads as it did. -/
def segmentRoundTripUptoRow : OpenClaim := { program := "ytbpdbibnfmdpoaa", sum := "2c3843d2e7e97a04e7a09549a39c82befaa26caf00ca1f182a1aeca170945515", func := "mailboat/mailboatlaw37.SegmentRoundTrip", spec := "segmentRoundTrip", unfollowed := true, recurses := true, apart := false, narrowed := true }
def SegmentRoundTripUptoSaid : Prop := segmentRoundTripUptoRow.holds Try.pinned (OpenSpec.upto segmentRoundTripSpec)

/-- 'mailboatlaw37.SegmentDamage', WHERE WHAT IT READS IS OF BULK AT MOST 1048576: true; the input reads as it did. -/
def segmentDamageUptoRow : OpenClaim := { program := "ytbpdbibnfmdpoaa", sum := "2c3843d2e7e97a04e7a09549a39c82befaa26caf00ca1f182a1aeca170945515", func := "mailboat/mailboatlaw37.SegmentDamage", spec := "segmentDamage", unfollowed := true, recurses := true, apart := false, narrowed := true }
def SegmentDamageUptoSaid : Prop := segmentDamageUptoRow.holds Try.pinned (OpenSpec.upto segmentDamageSpec)

/-- 'mailboatlaw37.SegmentBatches', WHERE WHAT IT READS IS OF BULK AT MOST 1048576: true; the input reads as it did. -/
def segmentBatchesUptoRow : OpenClaim := { program := "ytbpdbibnfmdpoaa", sum := "2c3843d2e7e97a04e7a09549a39c82befaa26caf00ca1f182a1aeca170945515", func := "mailboat/mailboatlaw37.SegmentBatches", spec := "segmentBatches", unfollowed := true, recurses := true, apart := false, narrowed := true }
def SegmentBatchesUptoSaid : Prop := segmentBatchesUptoRow.holds Try.pinned (OpenSpec.upto segmentBatchesSpec)

/-- 'mailboatlaw37.SegmentClaims', WHERE WHAT IT READS IS OF BULK AT MOST 1048576: true; the input reads as it did. -/
def segmentClaimsUptoRow : OpenClaim := { program := "ytbpdbibnfmdpoaa", sum := "2c3843d2e7e97a04e7a09549a39c82befaa26caf00ca1f182a1aeca170945515", func := "mailboat/mailboatlaw37.SegmentClaims", spec := "segmentClaims", unfollowed := true, recurses := true, apart := false, narrowed := true }
def SegmentClaimsUptoSaid : Prop := segmentClaimsUptoRow.holds Try.pinned (OpenSpec.upto segmentClaimsSpec)

/-- 'mailboatlaw37.SegmentTimes', WHERE WHAT IT READS IS OF BULK AT MOST 1048576: true; the input reads as it did. -/
def segmentTimesUptoRow : OpenClaim := { program := "ytbpdbibnfmdpoaa", sum := "2c3843d2e7e97a04e7a09549a39c82befaa26caf00ca1f182a1aeca170945515", func := "mailboat/mailboatlaw37.SegmentTimes", spec := "segmentTimes", unfollowed := true, recurses := true, apart := false, narrowed := true }
def SegmentTimesUptoSaid : Prop := segmentTimesUptoRow.holds Try.pinned (OpenSpec.upto segmentTimesSpec)

/-- 'mailboatlaw37.SegmentBytes', WHERE WHAT IT READS IS OF BULK AT MOST 1048576: true; the input reads as it did. -/
def segmentBytesUptoRow : OpenClaim := { program := "ytbpdbibnfmdpoaa", sum := "2c3843d2e7e97a04e7a09549a39c82befaa26caf00ca1f182a1aeca170945515", func := "mailboat/mailboatlaw37.SegmentBytes", spec := "segmentBytes", unfollowed := true, recurses := true, apart := false, narrowed := true }
def SegmentBytesUptoSaid : Prop := segmentBytesUptoRow.holds Try.pinned (OpenSpec.upto segmentBytesSpec)

end Rows
end Go.Proofs.Ytbpdbibnfmdpoaa
