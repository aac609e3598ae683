/-
  No cell of these rows narrows 'for every input' (looked for: loops, veiled, ifaces, maps, wideKeys, modest, calm, conditions, laid).
  DERIVED. THE GIVEN ROWS OF THIS SEAT. 8 by the template 'for every input the law returns true; each argument reads behind the call as it read before'; 0 by the template 'total and deterministic' (their statements: YtfbjgggminmhbaaTotals.lean).
  GIVEN WITH THE SEED: the statements are not yours to turn. If you find one false, say at which input.
  Laid BY PROGRAM, IN A SANDBOX (cutbox-rows.mjs): the forced cells as the released guide's own fill.sh prints them over the translation 32aeee35a18c14db… (all of the seat's roots in one cut). By AI agents, Wed Nov 11 2026. No macro, syntax, notation, axiom, sorry.
-/
import Derived.Test.YtfbjgggminmhbaaChecked
import GoSem.Claim
import GoSem.ClaimJoined
import GoSem.ClaimMapViews
import Derived.JoinedTies
import Derived.KernelRfl
namespace Go.Proofs.Ytfbjgggminmhbaa
/- THE CELL 'sum', in the pinned program and in every row, IS THE sha256 OF THE DUMP (.gsa) THAT YtfbjgggminmhbaaProg.lean LOADS. Nothing in Lean hashes anything: it is a label: what it is worth is what the hold of that sum in a sandbox is worth. -/
noncomputable def Try.pinned : Pinned := { name := "ytfbjgggminmhbaa", sum := "32aeee35a18c14dbe1dd4e0860cd6dfecb3ee0ff62844e3687b0d21db1a534eb", checked := Try.checked }
namespace Rows
def none {H : Type} : Left H := { results := [], args := [] }

/-- 'mailboatlaw05.IntervalMany': WHATEVER THE INPUT: true; the input reads as it did. -/
def intervalManySpec : ChangeSpec := { name := "intervalMany", fn := fun _ => fun
  | [d] => { results := [.lit (.bool true)], args := [d] }
  | _ => none }
def intervalManyRow : OpenClaim := { program := "ytfbjgggminmhbaa", sum := "32aeee35a18c14dbe1dd4e0860cd6dfecb3ee0ff62844e3687b0d21db1a534eb", func := "mailboat/mailboatlaw05.IntervalMany", spec := "intervalMany", unfollowed := true, recurses := true, apart := false }
def IntervalManySaid : Prop := intervalManyRow.holds Try.pinned (OpenSpec.ofChange intervalManySpec)

/-- ITS FALSE NEIGHBOUR: 'it returns false'. Refute it at one input. -/
def intervalManyWrong : ChangeSpec := { name := "intervalMany", fn := fun _ => fun
  | [d] => { results := [.lit (.bool false)], args := [d] }
  | _ => none }
def IntervalManyWrongFalsely : Prop := intervalManyRow.holds Try.pinned (OpenSpec.ofChange intervalManyWrong)

/-- 'mailboatlaw05.IntervalFirst': WHATEVER THE INPUT: true; the input reads as it did. -/
def intervalFirstSpec : ChangeSpec := { name := "intervalFirst", fn := fun _ => fun
  | [d1, d2, d3, d4, d5] => { results := [.lit (.bool true)], args := [d1, d2, d3, d4, d5] }
  | _ => none }
def intervalFirstRow : OpenClaim := { program := "ytfbjgggminmhbaa", sum := "32aeee35a18c14dbe1dd4e0860cd6dfecb3ee0ff62844e3687b0d21db1a534eb", func := "mailboat/mailboatlaw05.IntervalFirst", spec := "intervalFirst", unfollowed := true, recurses := true, apart := false }
def IntervalFirstSaid : Prop := intervalFirstRow.holds Try.pinned (OpenSpec.ofChange intervalFirstSpec)

/-- ITS FALSE NEIGHBOUR: 'it returns false'. Refute it at one input. -/
def intervalFirstWrong : ChangeSpec := { name := "intervalFirst", fn := fun _ => fun
  | [d1, d2, d3, d4, d5] => { results := [.lit (.bool false)], args := [d1, d2, d3, d4, d5] }
  | _ => none }
def IntervalFirstWrongFalsely : Prop := intervalFirstRow.holds Try.pinned (OpenSpec.ofChange intervalFirstWrong)

/-- 'mailboatlaw05.IntervalSets': WHATEVER THE INPUT: true; the input reads as it did. -/
def intervalSetsSpec : ChangeSpec := { name := "intervalSets", fn := fun _ => fun
  | [d1, d2] => { results := [.lit (.bool true)], args := [d1, d2] }
  | _ => none }
def intervalSetsRow : OpenClaim := { program := "ytfbjgggminmhbaa", sum := "32aeee35a18c14dbe1dd4e0860cd6dfecb3ee0ff62844e3687b0d21db1a534eb", func := "mailboat/mailboatlaw05.IntervalSets", spec := "intervalSets", unfollowed := true, recurses := true, apart := false }
def IntervalSetsSaid : Prop := intervalSetsRow.holds Try.pinned (OpenSpec.ofChange intervalSetsSpec)

/-- ITS FALSE NEIGHBOUR: 'it returns false'. Refute it at one input. -/
def intervalSetsWrong : ChangeSpec := { name := "intervalSets", fn := fun _ => fun
  | [d1, d2] => { results := [.lit (.bool false)], args := [d1, d2] }
  | _ => none }
def IntervalSetsWrongFalsely : Prop := intervalSetsRow.holds Try.pinned (OpenSpec.ofChange intervalSetsWrong)

/-- 'mailboatlaw05.IntervalCanonical': WHATEVER THE INPUT: true; the input reads as it did. -/
def intervalCanonicalSpec : ChangeSpec := { name := "intervalCanonical", fn := fun _ => fun
  | [d1, d2] => { results := [.lit (.bool true)], args := [d1, d2] }
  | _ => none }
def intervalCanonicalRow : OpenClaim := { program := "ytfbjgggminmhbaa", sum := "32aeee35a18c14dbe1dd4e0860cd6dfecb3ee0ff62844e3687b0d21db1a534eb", func := "mailboat/mailboatlaw05.IntervalCanonical", spec := "intervalCanonical", unfollowed := true, recurses := true, apart := false }
def IntervalCanonicalSaid : Prop := intervalCanonicalRow.holds Try.pinned (OpenSpec.ofChange intervalCanonicalSpec)

/-- ITS FALSE NEIGHBOUR: 'it returns false'. Refute it at one input. -/
def intervalCanonicalWrong : ChangeSpec := { name := "intervalCanonical", fn := fun _ => fun
  | [d1, d2] => { results := [.lit (.bool false)], args := [d1, d2] }
  | _ => none }
def IntervalCanonicalWrongFalsely : Prop := intervalCanonicalRow.holds Try.pinned (OpenSpec.ofChange intervalCanonicalWrong)

/-- 'mailboatlaw05.IntervalLaws': WHATEVER THE INPUT: true; the input reads as it did. -/
def intervalLawsSpec : ChangeSpec := { name := "intervalLaws", fn := fun _ => fun
  | [d1, d2, d3] => { results := [.lit (.bool true)], args := [d1, d2, d3] }
  | _ => none }
def intervalLawsRow : OpenClaim := { program := "ytfbjgggminmhbaa", sum := "32aeee35a18c14dbe1dd4e0860cd6dfecb3ee0ff62844e3687b0d21db1a534eb", func := "mailboat/mailboatlaw05.IntervalLaws", spec := "intervalLaws", unfollowed := true, recurses := true, apart := false }
def IntervalLawsSaid : Prop := intervalLawsRow.holds Try.pinned (OpenSpec.ofChange intervalLawsSpec)

/-- ITS FALSE NEIGHBOUR: 'it returns false'. Refute it at one input. -/
def intervalLawsWrong : ChangeSpec := { name := "intervalLaws", fn := fun _ => fun
  | [d1, d2, d3] => { results := [.lit (.bool false)], args := [d1, d2, d3] }
  | _ => none }
def IntervalLawsWrongFalsely : Prop := intervalLawsRow.holds Try.pinned (OpenSpec.ofChange intervalLawsWrong)

/-- 'mailboatlaw05.IntervalMembers': WHATEVER THE INPUT: true; the input reads as it did. -/
def intervalMembersSpec : ChangeSpec := { name := "intervalMembers", fn := fun _ => fun
  | [d1, d2, d3] => { results := [.lit (.bool true)], args := [d1, d2, d3] }
  | _ => none }
def intervalMembersRow : OpenClaim := { program := "ytfbjgggminmhbaa", sum := "32aeee35a18c14dbe1dd4e0860cd6dfecb3ee0ff62844e3687b0d21db1a534eb", func := "mailboat/mailboatlaw05.IntervalMembers", spec := "intervalMembers", unfollowed := true, recurses := true, apart := false }
def IntervalMembersSaid : Prop := intervalMembersRow.holds Try.pinned (OpenSpec.ofChange intervalMembersSpec)

/-- ITS FALSE NEIGHBOUR: 'it returns false'. Refute it at one input. -/
def intervalMembersWrong : ChangeSpec := { name := "intervalMembers", fn := fun _ => fun
  | [d1, d2, d3] => { results := [.lit (.bool false)], args := [d1, d2, d3] }
  | _ => none }
def IntervalMembersWrongFalsely : Prop := intervalMembersRow.holds Try.pinned (OpenSpec.ofChange intervalMembersWrong)

/-- 'mailboatlaw05.IntervalNormal': WHATEVER THE INPUT: true; the input reads as it did. -/
def intervalNormalSpec : ChangeSpec := { name := "intervalNormal", fn := fun _ => fun
  | [d1, d2, d3, d4] => { results := [.lit (.bool true)], args := [d1, d2, d3, d4] }
  | _ => none }
def intervalNormalRow : OpenClaim := { program := "ytfbjgggminmhbaa", sum := "32aeee35a18c14dbe1dd4e0860cd6dfecb3ee0ff62844e3687b0d21db1a534eb", func := "mailboat/mailboatlaw05.IntervalNormal", spec := "intervalNormal", unfollowed := true, recurses := true, apart := false }
def IntervalNormalSaid : Prop := intervalNormalRow.holds Try.pinned (OpenSpec.ofChange intervalNormalSpec)

/-- ITS FALSE NEIGHBOUR: 'it returns false'. Refute it at one input. -/
def intervalNormalWrong : ChangeSpec := { name := "intervalNormal", fn := fun _ => fun
  | [d1, d2, d3, d4] => { results := [.lit (.bool false)], args := [d1, d2, d3, d4] }
  | _ => none }
def IntervalNormalWrongFalsely : Prop := intervalNormalRow.holds Try.pinned (OpenSpec.ofChange intervalNormalWrong)

/-- 'mailboatlaw05.IntervalCounts': WHATEVER THE INPUT: true; the input reads as it did. -/
def intervalCountsSpec : ChangeSpec := { name := "intervalCounts", fn := fun _ => fun
  | [d1, d2] => { results := [.lit (.bool true)], args := [d1, d2] }
  | _ => none }
def intervalCountsRow : OpenClaim := { program := "ytfbjgggminmhbaa", sum := "32aeee35a18c14dbe1dd4e0860cd6dfecb3ee0ff62844e3687b0d21db1a534eb", func := "mailboat/mailboatlaw05.IntervalCounts", spec := "intervalCounts", unfollowed := true, recurses := true, apart := false }
def IntervalCountsSaid : Prop := intervalCountsRow.holds Try.pinned (OpenSpec.ofChange intervalCountsSpec)

/-- ITS FALSE NEIGHBOUR: 'it returns false'. Refute it at one input. -/
def intervalCountsWrong : ChangeSpec := { name := "intervalCounts", fn := fun _ => fun
  | [d1, d2] => { results := [.lit (.bool false)], args := [d1, d2] }
  | _ => none }
def IntervalCountsWrongFalsely : Prop := intervalCountsRow.holds Try.pinned (OpenSpec.ofChange intervalCountsWrong)

/- THE SECOND FORM. 'bulk': how many values and letters a reading holds, each counted each time it is reached (what is shared counts as often as it is met; a slice's spare places count too). A statement '..UptoSaid' is the law's where the arguments, and the package variables that the reading takes, are together of bulk at most 1048576: NARROWER than '..Said'. Prove '..Said' where nothing that the law and all that it calls make is longer than what came in: it says more and counts as full. Else prove '..UptoSaid'. A law counts once. -/
mutual
def uptoBulk {H : Type} : DataW H → Nat
  | .lit (.string bytes) => bytes.length + 1
  | .lit _ => 1
  | .nil => 1
  | .ptr d => uptoBulk d + 1
  | .slice elems spare => uptoBulkAll elems + uptoBulkAll spare + 1
  | .agg parts => uptoBulkAll parts + 1
  | .iface _ d => uptoBulk d + 1
  | .map entries => uptoBulkEntries entries + 1
  | .held _ => 1
def uptoBulkAll {H : Type} : List (DataW H) → Nat
  | [] => 0
  | d :: r => uptoBulk d + uptoBulkAll r
def uptoBulkEntries {H : Type} : List (Lit × DataW H) → Nat
  | [] => 0
  | x :: r => uptoBulkEntry x + uptoBulkEntries r
def uptoBulkEntry {H : Type} : Lit × DataW H → Nat
  | (.string bytes, d) => bytes.length + uptoBulk d + 1
  | (_, d) => uptoBulk d + 1
 end
def uptoSmall : (H : Type) → List (DataW H) → Bool := fun _ ds => decide (uptoBulkAll ds ≤ 1048576)
def OpenSpec.upto (s : _root_.Go.ChangeSpec) : _root_.Go.OpenSpec := { _root_.Go.OpenSpec.ofChange s with cond := some uptoSmall }

/-- 'mailboatlaw05.IntervalMany', WHERE WHAT IT READS IS OF BULK AT MOST 1048576: true; the input reads as it did. -/
def intervalManyUptoRow : OpenClaim := { program := "ytfbjgggminmhbaa", sum := "32aeee35a18c14dbe1dd4e0860cd6dfecb3ee0ff62844e3687b0d21db1a534eb", func := "mailboat/mailboatlaw05.IntervalMany", spec := "intervalMany", unfollowed := true, recurses := true, apart := false, narrowed := true }
def IntervalManyUptoSaid : Prop := intervalManyUptoRow.holds Try.pinned (OpenSpec.upto intervalManySpec)

/-- 'mailboatlaw05.IntervalFirst', WHERE WHAT IT READS IS OF BULK AT MOST 1048576: true; the input reads as it did. -/
def intervalFirstUptoRow : OpenClaim := { program := "ytfbjgggminmhbaa", sum := "32aeee35a18c14dbe1dd4e0860cd6dfecb3ee0ff62844e3687b0d21db1a534eb", func := "mailboat/mailboatlaw05.IntervalFirst", spec := "intervalFirst", unfollowed := true, recurses := true, apart := false, narrowed := true }
def IntervalFirstUptoSaid : Prop := intervalFirstUptoRow.holds Try.pinned (OpenSpec.upto intervalFirstSpec)

/-- 'mailboatlaw05.IntervalSets', WHERE WHAT IT READS IS OF BULK AT MOST 1048576: true; the input reads as it did. -/
def intervalSetsUptoRow : OpenClaim := { program := "ytfbjgggminmhbaa", sum := "32aeee35a18c14dbe1dd4e0860cd6dfecb3ee0ff62844e3687b0d21db1a534eb", func := "mailboat/mailboatlaw05.IntervalSets", spec := "intervalSets", unfollowed := true, recurses := true, apart := false, narrowed := true }
def IntervalSetsUptoSaid : Prop := intervalSetsUptoRow.holds Try.pinned (OpenSpec.upto intervalSetsSpec)

/-- 'mailboatlaw05.IntervalCanonical', WHERE WHAT IT READS IS OF BULK AT MOST 1048576: true; the input reads as it did. -/
def intervalCanonicalUptoRow : OpenClaim := { program := "ytfbjgggminmhbaa", sum := "32aeee35a18c14dbe1dd4e0860cd6dfecb3ee0ff62844e3687b0d21db1a534eb", func := "mailboat/mailboatlaw05.IntervalCanonical", spec := "intervalCanonical", unfollowed := true, recurses := true, apart := false, narrowed := true }
def IntervalCanonicalUptoSaid : Prop := intervalCanonicalUptoRow.holds Try.pinned (OpenSpec.upto intervalCanonicalSpec)

/-- 'mailboatlaw05.IntervalLaws', WHERE WHAT IT READS IS OF BULK AT MOST 1048576: true; the input reads as it did. -/
def intervalLawsUptoRow : OpenClaim := { program := "ytfbjgggminmhbaa", sum := "32aeee35a18c14dbe1dd4e0860cd6dfecb3ee0ff62844e3687b0d21db1a534eb", func := "mailboat/mailboatlaw05.IntervalLaws", spec := "intervalLaws", unfollowed := true, recurses := true, apart := false, narrowed := true }
def IntervalLawsUptoSaid : Prop := intervalLawsUptoRow.holds Try.pinned (OpenSpec.upto intervalLawsSpec)

/-- 'mailboatlaw05.IntervalMembers', WHERE WHAT IT READS IS OF BULK AT MOST 1048576: true; the input reads as it did. -/
def intervalMembersUptoRow : OpenClaim := { program := "ytfbjgggminmhbaa", sum := "32aeee35a18c14dbe1dd4e0860cd6dfecb3ee0ff62844e3687b0d21db1a534eb", func := "mailboat/mailboatlaw05.IntervalMembers", spec := "intervalMembers", unfollowed := true, recurses := true, apart := false, narrowed := true }
def IntervalMembersUptoSaid : Prop := intervalMembersUptoRow.holds Try.pinned (OpenSpec.upto intervalMembersSpec)

/-- 'mailboatlaw05.IntervalNormal', WHERE WHAT IT READS IS OF BULK AT MOST 1048576: true; the input reads as it did. -/
def intervalNormalUptoRow : OpenClaim := { program := "ytfbjgggminmhbaa", sum := "32aeee35a18c14dbe1dd4e0860cd6dfecb3ee0ff62844e3687b0d21db1a534eb", func := "mailboat/mailboatlaw05.IntervalNormal", spec := "intervalNormal", unfollowed := true, recurses := true, apart := false, narrowed := true }
def IntervalNormalUptoSaid : Prop := intervalNormalUptoRow.holds Try.pinned (OpenSpec.upto intervalNormalSpec)

/-- 'mailboatlaw05.IntervalCounts', WHERE WHAT IT READS IS OF BULK AT MOST 1048576: true; the input reads as it did. -/
def intervalCountsUptoRow : OpenClaim := { program := "ytfbjgggminmhbaa", sum := "32aeee35a18c14dbe1dd4e0860cd6dfecb3ee0ff62844e3687b0d21db1a534eb", func := "mailboat/mailboatlaw05.IntervalCounts", spec := "intervalCounts", unfollowed := true, recurses := true, apart := false, narrowed := true }
def IntervalCountsUptoSaid : Prop := intervalCountsUptoRow.holds Try.pinned (OpenSpec.upto intervalCountsSpec)

end Rows
end Go.Proofs.Ytfbjgggminmhbaa
