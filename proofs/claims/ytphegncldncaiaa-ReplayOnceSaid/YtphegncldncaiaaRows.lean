/-
  No cell of these rows narrows 'for every input' (looked for: loops, veiled, ifaces, maps, wideKeys, modest, calm, conditions, laid).
  DERIVED. THE GIVEN ROWS OF THIS SEAT. 7 by the template 'for every input the law returns true; each argument reads behind the call as it read before'; 0 by the template 'total and deterministic' (their statements: YtphegncldncaiaaTotals.lean).
  GIVEN WITH THE SEED: the statements are not yours to turn. If you find one false, say at which input.
  Laid BY PROGRAM, IN A SANDBOX (cutbox-rows.mjs): the forced cells as the released guide's own fill.sh prints them over the translation 96fd04fc3f36ee25… (all of the seat's roots in one cut). By AI agents, Wed Nov 11 2026. No macro, syntax, notation, axiom, sorry.
-/
import Derived.Test.YtphegncldncaiaaChecked
import GoSem.Claim
import GoSem.ClaimJoined
import GoSem.ClaimMapViews
import Derived.JoinedTies
import Derived.KernelRfl
namespace Go.Proofs.Ytphegncldncaiaa
/- THE CELL 'sum', in the pinned program and in every row, IS THE sha256 OF THE DUMP (.gsa) THAT YtphegncldncaiaaProg.lean LOADS. Nothing in Lean hashes anything: it is a label: what it is worth is what the hold of that sum in a sandbox is worth. -/
noncomputable def Try.pinned : Pinned := { name := "ytphegncldncaiaa", sum := "96fd04fc3f36ee2592b4c5e3b89fe0f6b39f2ba71dd26712016f0ecc9f90c006", checked := Try.checked }
namespace Rows
def none {H : Type} : Left H := { results := [], args := [] }

/-- 'mailboatlaw16.ReplayAccept': WHATEVER THE INPUT: true; the input reads as it did. -/
def replayAcceptSpec : ChangeSpec := { name := "replayAccept", fn := fun _ => fun
  | [d1, d2] => { results := [.lit (.bool true)], args := [d1, d2] }
  | _ => none }
def replayAcceptRow : OpenClaim := { program := "ytphegncldncaiaa", sum := "96fd04fc3f36ee2592b4c5e3b89fe0f6b39f2ba71dd26712016f0ecc9f90c006", func := "mailboat/mailboatlaw16.ReplayAccept", spec := "replayAccept", unfollowed := true, recurses := true, apart := false }
def ReplayAcceptSaid : Prop := replayAcceptRow.holds Try.pinned (OpenSpec.ofChange replayAcceptSpec)

/-- ITS FALSE NEIGHBOUR: 'it returns false'. Refute it at one input. -/
def replayAcceptWrong : ChangeSpec := { name := "replayAccept", fn := fun _ => fun
  | [d1, d2] => { results := [.lit (.bool false)], args := [d1, d2] }
  | _ => none }
def ReplayAcceptWrongFalsely : Prop := replayAcceptRow.holds Try.pinned (OpenSpec.ofChange replayAcceptWrong)

/-- 'mailboatlaw16.ReplayJoin': WHATEVER THE INPUT: true; the input reads as it did. -/
def replayJoinSpec : ChangeSpec := { name := "replayJoin", fn := fun _ => fun
  | [d1, d2] => { results := [.lit (.bool true)], args := [d1, d2] }
  | _ => none }
def replayJoinRow : OpenClaim := { program := "ytphegncldncaiaa", sum := "96fd04fc3f36ee2592b4c5e3b89fe0f6b39f2ba71dd26712016f0ecc9f90c006", func := "mailboat/mailboatlaw16.ReplayJoin", spec := "replayJoin", unfollowed := true, recurses := true, apart := false }
def ReplayJoinSaid : Prop := replayJoinRow.holds Try.pinned (OpenSpec.ofChange replayJoinSpec)

/-- ITS FALSE NEIGHBOUR: 'it returns false'. Refute it at one input. -/
def replayJoinWrong : ChangeSpec := { name := "replayJoin", fn := fun _ => fun
  | [d1, d2] => { results := [.lit (.bool false)], args := [d1, d2] }
  | _ => none }
def ReplayJoinWrongFalsely : Prop := replayJoinRow.holds Try.pinned (OpenSpec.ofChange replayJoinWrong)

/-- 'mailboatlaw16.ReplayLattice': WHATEVER THE INPUT: true; the input reads as it did. -/
def replayLatticeSpec : ChangeSpec := { name := "replayLattice", fn := fun _ => fun
  | [d1, d2, d3] => { results := [.lit (.bool true)], args := [d1, d2, d3] }
  | _ => none }
def replayLatticeRow : OpenClaim := { program := "ytphegncldncaiaa", sum := "96fd04fc3f36ee2592b4c5e3b89fe0f6b39f2ba71dd26712016f0ecc9f90c006", func := "mailboat/mailboatlaw16.ReplayLattice", spec := "replayLattice", unfollowed := true, recurses := true, apart := false }
def ReplayLatticeSaid : Prop := replayLatticeRow.holds Try.pinned (OpenSpec.ofChange replayLatticeSpec)

/-- ITS FALSE NEIGHBOUR: 'it returns false'. Refute it at one input. -/
def replayLatticeWrong : ChangeSpec := { name := "replayLattice", fn := fun _ => fun
  | [d1, d2, d3] => { results := [.lit (.bool false)], args := [d1, d2, d3] }
  | _ => none }
def ReplayLatticeWrongFalsely : Prop := replayLatticeRow.holds Try.pinned (OpenSpec.ofChange replayLatticeWrong)

/-- 'mailboatlaw16.ReplayOnce': WHATEVER THE INPUT: true; the input reads as it did. -/
def replayOnceSpec : ChangeSpec := { name := "replayOnce", fn := fun _ => fun
  | [d1, d2] => { results := [.lit (.bool true)], args := [d1, d2] }
  | _ => none }
def replayOnceRow : OpenClaim := { program := "ytphegncldncaiaa", sum := "96fd04fc3f36ee2592b4c5e3b89fe0f6b39f2ba71dd26712016f0ecc9f90c006", func := "mailboat/mailboatlaw16.ReplayOnce", spec := "replayOnce", unfollowed := true, recurses := true, apart := false }
def ReplayOnceSaid : Prop := replayOnceRow.holds Try.pinned (OpenSpec.ofChange replayOnceSpec)

/-- ITS FALSE NEIGHBOUR: 'it returns false'. Refute it at one input. -/
def replayOnceWrong : ChangeSpec := { name := "replayOnce", fn := fun _ => fun
  | [d1, d2] => { results := [.lit (.bool false)], args := [d1, d2] }
  | _ => none }
def ReplayOnceWrongFalsely : Prop := replayOnceRow.holds Try.pinned (OpenSpec.ofChange replayOnceWrong)

/-- 'mailboatlaw16.ReplayDisorder': WHATEVER THE INPUT: true; the input reads as it did. -/
def replayDisorderSpec : ChangeSpec := { name := "replayDisorder", fn := fun _ => fun
  | [d1, d2] => { results := [.lit (.bool true)], args := [d1, d2] }
  | _ => none }
def replayDisorderRow : OpenClaim := { program := "ytphegncldncaiaa", sum := "96fd04fc3f36ee2592b4c5e3b89fe0f6b39f2ba71dd26712016f0ecc9f90c006", func := "mailboat/mailboatlaw16.ReplayDisorder", spec := "replayDisorder", unfollowed := true, recurses := true, apart := false }
def ReplayDisorderSaid : Prop := replayDisorderRow.holds Try.pinned (OpenSpec.ofChange replayDisorderSpec)

/-- ITS FALSE NEIGHBOUR: 'it returns false'. Refute it at one input. -/
def replayDisorderWrong : ChangeSpec := { name := "replayDisorder", fn := fun _ => fun
  | [d1, d2] => { results := [.lit (.bool false)], args := [d1, d2] }
  | _ => none }
def ReplayDisorderWrongFalsely : Prop := replayDisorderRow.holds Try.pinned (OpenSpec.ofChange replayDisorderWrong)

/-- 'mailboatlaw16.ReplayBytes': WHATEVER THE INPUT: true; the input reads as it did. -/
def replayBytesSpec : ChangeSpec := { name := "replayBytes", fn := fun _ => fun
  | [d1, d2] => { results := [.lit (.bool true)], args := [d1, d2] }
  | _ => none }
def replayBytesRow : OpenClaim := { program := "ytphegncldncaiaa", sum := "96fd04fc3f36ee2592b4c5e3b89fe0f6b39f2ba71dd26712016f0ecc9f90c006", func := "mailboat/mailboatlaw16.ReplayBytes", spec := "replayBytes", unfollowed := true, recurses := true, apart := false }
def ReplayBytesSaid : Prop := replayBytesRow.holds Try.pinned (OpenSpec.ofChange replayBytesSpec)

/-- ITS FALSE NEIGHBOUR: 'it returns false'. Refute it at one input. -/
def replayBytesWrong : ChangeSpec := { name := "replayBytes", fn := fun _ => fun
  | [d1, d2] => { results := [.lit (.bool false)], args := [d1, d2] }
  | _ => none }
def ReplayBytesWrongFalsely : Prop := replayBytesRow.holds Try.pinned (OpenSpec.ofChange replayBytesWrong)

/-- 'mailboatlaw16.ReplayBack': WHATEVER THE INPUT: true; the input reads as it did. -/
def replayBackSpec : ChangeSpec := { name := "replayBack", fn := fun _ => fun
  | [d1, d2] => { results := [.lit (.bool true)], args := [d1, d2] }
  | _ => none }
def replayBackRow : OpenClaim := { program := "ytphegncldncaiaa", sum := "96fd04fc3f36ee2592b4c5e3b89fe0f6b39f2ba71dd26712016f0ecc9f90c006", func := "mailboat/mailboatlaw16.ReplayBack", spec := "replayBack", unfollowed := true, recurses := true, apart := false }
def ReplayBackSaid : Prop := replayBackRow.holds Try.pinned (OpenSpec.ofChange replayBackSpec)

/-- ITS FALSE NEIGHBOUR: 'it returns false'. Refute it at one input. -/
def replayBackWrong : ChangeSpec := { name := "replayBack", fn := fun _ => fun
  | [d1, d2] => { results := [.lit (.bool false)], args := [d1, d2] }
  | _ => none }
def ReplayBackWrongFalsely : Prop := replayBackRow.holds Try.pinned (OpenSpec.ofChange replayBackWrong)

/- THE SECOND FORM. 'bulk': how many values and letters a reading holds, each counted each time it is reached (what is shared counts as often as it is met; a slice's spare places count too). A statement '..UptoSaid' is the law's where the arguments, and the package variables that the reading takes, are together of bulk at most 1048576: NARROWER than '..Said'. Prove '..Said' where nothing that the law and all that it calls make is longer than what came in: it says more and counts as full. Else prove '..UptoSaid'. A law counts once. -/
mutual
def uptoBulk {H : Type} : DataW H → Nat
  | .lit (.string bytes) => bytes.length + 1
  | .lit _ => 1
  | .nil => 1
  | .ptr d => uptoBulk d + 1
  | .slice elems spare => uptoBulkAll elems + uptoBulkAll spare + 1
  | .agg parts => uptoBulkAll parts + 1
  | .iface _ d => uptoBulk d + 1
  | .map entries => uptoBulkEntries entries + 1
  | .held _ => 1
def uptoBulkAll {H : Type} : List (DataW H) → Nat
  | [] => 0
  | d :: r => uptoBulk d + uptoBulkAll r
def uptoBulkEntries {H : Type} : List (Lit × DataW H) → Nat
  | [] => 0
  | x :: r => uptoBulkEntry x + uptoBulkEntries r
def uptoBulkEntry {H : Type} : Lit × DataW H → Nat
  | (.string bytes, d) => bytes.length + uptoBulk d + 1
  | (_, d) => uptoBulk d + 1
 end
def uptoSmall : (H : Type) → List (DataW H) → Bool := fun _ ds => decide (uptoBulkAll ds ≤ 1048576)
def OpenSpec.upto (s : _root_.Go.ChangeSpec) : _root_.Go.OpenSpec := { _root_.Go.OpenSpec.ofChange s with cond := some uptoSmall }

/-- 'mailboatlaw16.ReplayAccept', WHERE WHAT IT READS IS OF BULK AT MOST 1048576: true; the input reads as it did. -/
def replayAcceptUptoRow : OpenClaim := { program := "ytphegncldncaiaa", sum := "96fd04fc3f36ee2592b4c5e3b89fe0f6b39f2ba71dd26712016f0ecc9f90c006", func := "mailboat/mailboatlaw16.ReplayAccept", spec := "replayAccept", unfollowed := true, recurses := true, apart := false, narrowed := true }
def ReplayAcceptUptoSaid : Prop := replayAcceptUptoRow.holds Try.pinned (OpenSpec.upto replayAcceptSpec)

/-- 'mailboatlaw16.ReplayJoin', WHERE WHAT IT READS IS OF BULK AT MOST 1048576: true; the input reads as it did. -/
def replayJoinUptoRow : OpenClaim := { program := "ytphegncldncaiaa", sum := "96fd04fc3f36ee2592b4c5e3b89fe0f6b39f2ba71dd26712016f0ecc9f90c006", func := "mailboat/mailboatlaw16.ReplayJoin", spec := "replayJoin", unfollowed := true, recurses := true, apart := false, narrowed := true }
def ReplayJoinUptoSaid : Prop := replayJoinUptoRow.holds Try.pinned (OpenSpec.upto replayJoinSpec)

/-- 'mailboatlaw16.ReplayLattice', WHERE WHAT IT READS IS OF BULK AT MOST 1048576: true; the input reads as it did. -/
def replayLatticeUptoRow : OpenClaim := { program := "ytphegncldncaiaa", sum := "96fd04fc3f36ee2592b4c5e3b89fe0f6b39f2ba71dd26712016f0ecc9f90c006", func := "mailboat/mailboatlaw16.ReplayLattice", spec := "replayLattice", unfollowed := true, recurses := true, apart := false, narrowed := true }
def ReplayLatticeUptoSaid : Prop := replayLatticeUptoRow.holds Try.pinned (OpenSpec.upto replayLatticeSpec)

/-- 'mailboatlaw16.ReplayOnce', WHERE WHAT IT READS IS OF BULK AT MOST 1048576: true; the input reads as it did. -/
def replayOnceUptoRow : OpenClaim := { program := "ytphegncldncaiaa", sum := "96fd04fc3f36ee2592b4c5e3b89fe0f6b39f2ba71dd26712016f0ecc9f90c006", func := "mailboat/mailboatlaw16.ReplayOnce", spec := "replayOnce", unfollowed := true, recurses := true, apart := false, narrowed := true }
def ReplayOnceUptoSaid : Prop := replayOnceUptoRow.holds Try.pinned (OpenSpec.upto replayOnceSpec)

/-- 'mailboatlaw16.ReplayDisorder', WHERE WHAT IT READS IS OF BULK AT MOST 1048576: true; the input reads as it did. -/
def replayDisorderUptoRow : OpenClaim := { program := "ytphegncldncaiaa", sum := "96fd04fc3f36ee2592b4c5e3b89fe0f6b39f2ba71dd26712016f0ecc9f90c006", func := "mailboat/mailboatlaw16.ReplayDisorder", spec := "replayDisorder", unfollowed := true, recurses := true, apart := false, narrowed := true }
def ReplayDisorderUptoSaid : Prop := replayDisorderUptoRow.holds Try.pinned (OpenSpec.upto replayDisorderSpec)

/-- 'mailboatlaw16.ReplayBytes', WHERE WHAT IT READS IS OF BULK AT MOST 1048576: true; the input reads as it did. -/
def replayBytesUptoRow : OpenClaim := { program := "ytphegncldncaiaa", sum := "96fd04fc3f36ee2592b4c5e3b89fe0f6b39f2ba71dd26712016f0ecc9f90c006", func := "mailboat/mailboatlaw16.ReplayBytes", spec := "replayBytes", unfollowed := true, recurses := true, apart := false, narrowed := true }
def ReplayBytesUptoSaid : Prop := replayBytesUptoRow.holds Try.pinned (OpenSpec.upto replayBytesSpec)

/-- 'mailboatlaw16.ReplayBack', WHERE WHAT IT READS IS OF BULK AT MOST 1048576: true; the input reads as it did. -/
def replayBackUptoRow : OpenClaim := { program := "ytphegncldncaiaa", sum := "96fd04fc3f36ee2592b4c5e3b89fe0f6b39f2ba71dd26712016f0ecc9f90c006", func := "mailboat/mailboatlaw16.ReplayBack", spec := "replayBack", unfollowed := true, recurses := true, apart := false, narrowed := true }
def ReplayBackUptoSaid : Prop := replayBackUptoRow.holds Try.pinned (OpenSpec.upto replayBackSpec)

end Rows
end Go.Proofs.Ytphegncldncaiaa
