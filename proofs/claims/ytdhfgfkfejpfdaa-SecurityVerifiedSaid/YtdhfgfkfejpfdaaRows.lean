/-
  No cell of these rows narrows 'for every input' (looked for: loops, veiled, ifaces, maps, wideKeys, modest, calm, conditions, laid).
  DERIVED. THE GIVEN ROWS OF THIS SEAT. 6 by the template 'for every input the law returns true; each argument reads behind the call as it read before'; 0 by the template 'total and deterministic' (their statements: YtdhfgfkfejpfdaaTotals.lean).
  GIVEN WITH THE SEED: the statements are not yours to turn. If you find one false, say at which input.
  Laid BY PROGRAM, IN A SANDBOX (cutbox-rows.mjs): the forced cells as the released guide's own fill.sh prints them over the translation ac84bf4cb910185f… (all of the seat's roots in one cut). By AI agents, Wed Nov 11 2026. No macro, syntax, notation, axiom, sorry.
-/
import Derived.Test.YtdhfgfkfejpfdaaChecked
import GoSem.Claim
import GoSem.ClaimJoined
import GoSem.ClaimMapViews
import Derived.JoinedTies
import Derived.KernelRfl
namespace Go.Proofs.Ytdhfgfkfejpfdaa
/- THE CELL 'sum', in the pinned program and in every row, IS THE sha256 OF THE DUMP (.gsa) THAT YtdhfgfkfejpfdaaProg.lean LOADS. Nothing in Lean hashes anything: it is a label: what it is worth is what the hold of that sum in a sandbox is worth. -/
noncomputable def Try.pinned : Pinned := { name := "ytdhfgfkfejpfdaa", sum := "ac84bf4cb910185fe6763e90751f69ba41fd8842bf2e6ea7148c14904fe23d4a", checked := Try.checked }
namespace Rows
def none {H : Type} : Left H := { results := [], args := [] }

/-- 'mailboatlaw15.SecurityOrder': WHATEVER THE INPUT: true; the input reads as it did. -/
def securityOrderSpec : ChangeSpec := { name := "securityOrder", fn := fun _ => fun
  | [d1, d2, d3, d4, d5] => { results := [.lit (.bool true)], args := [d1, d2, d3, d4, d5] }
  | _ => none }
def securityOrderRow : OpenClaim := { program := "ytdhfgfkfejpfdaa", sum := "ac84bf4cb910185fe6763e90751f69ba41fd8842bf2e6ea7148c14904fe23d4a", func := "mailboat/mailboatlaw15.SecurityOrder", spec := "securityOrder", unfollowed := true, recurses := true, apart := false }
def SecurityOrderSaid : Prop := securityOrderRow.holds Try.pinned (OpenSpec.ofChange securityOrderSpec)

/-- ITS FALSE NEIGHBOUR: 'it returns false'. Refute it at one input. -/
def securityOrderWrong : ChangeSpec := { name := "securityOrder", fn := fun _ => fun
  | [d1, d2, d3, d4, d5] => { results := [.lit (.bool false)], args := [d1, d2, d3, d4, d5] }
  | _ => none }
def SecurityOrderWrongFalsely : Prop := securityOrderRow.holds Try.pinned (OpenSpec.ofChange securityOrderWrong)

/-- 'mailboatlaw15.SecurityTags': WHATEVER THE INPUT: true; the input reads as it did. -/
def securityTagsSpec : ChangeSpec := { name := "securityTags", fn := fun _ => fun
  | [d1, d2, d3] => { results := [.lit (.bool true)], args := [d1, d2, d3] }
  | _ => none }
def securityTagsRow : OpenClaim := { program := "ytdhfgfkfejpfdaa", sum := "ac84bf4cb910185fe6763e90751f69ba41fd8842bf2e6ea7148c14904fe23d4a", func := "mailboat/mailboatlaw15.SecurityTags", spec := "securityTags", unfollowed := true, recurses := true, apart := false }
def SecurityTagsSaid : Prop := securityTagsRow.holds Try.pinned (OpenSpec.ofChange securityTagsSpec)

/-- ITS FALSE NEIGHBOUR: 'it returns false'. Refute it at one input. -/
def securityTagsWrong : ChangeSpec := { name := "securityTags", fn := fun _ => fun
  | [d1, d2, d3] => { results := [.lit (.bool false)], args := [d1, d2, d3] }
  | _ => none }
def SecurityTagsWrongFalsely : Prop := securityTagsRow.holds Try.pinned (OpenSpec.ofChange securityTagsWrong)

/-- 'mailboatlaw15.SecurityFree': WHATEVER THE INPUT: true; the input reads as it did. -/
def securityFreeSpec : ChangeSpec := { name := "securityFree", fn := fun _ => fun
  | [d1, d2, d3, d4] => { results := [.lit (.bool true)], args := [d1, d2, d3, d4] }
  | _ => none }
def securityFreeRow : OpenClaim := { program := "ytdhfgfkfejpfdaa", sum := "ac84bf4cb910185fe6763e90751f69ba41fd8842bf2e6ea7148c14904fe23d4a", func := "mailboat/mailboatlaw15.SecurityFree", spec := "securityFree", unfollowed := true, recurses := true, apart := false }
def SecurityFreeSaid : Prop := securityFreeRow.holds Try.pinned (OpenSpec.ofChange securityFreeSpec)

/-- ITS FALSE NEIGHBOUR: 'it returns false'. Refute it at one input. -/
def securityFreeWrong : ChangeSpec := { name := "securityFree", fn := fun _ => fun
  | [d1, d2, d3, d4] => { results := [.lit (.bool false)], args := [d1, d2, d3, d4] }
  | _ => none }
def SecurityFreeWrongFalsely : Prop := securityFreeRow.holds Try.pinned (OpenSpec.ofChange securityFreeWrong)

/-- 'mailboatlaw15.SecurityStrip': WHATEVER THE INPUT: true; the input reads as it did. -/
def securityStripSpec : ChangeSpec := { name := "securityStrip", fn := fun _ => fun
  | [d1, d2] => { results := [.lit (.bool true)], args := [d1, d2] }
  | _ => none }
def securityStripRow : OpenClaim := { program := "ytdhfgfkfejpfdaa", sum := "ac84bf4cb910185fe6763e90751f69ba41fd8842bf2e6ea7148c14904fe23d4a", func := "mailboat/mailboatlaw15.SecurityStrip", spec := "securityStrip", unfollowed := true, recurses := true, apart := false }
def SecurityStripSaid : Prop := securityStripRow.holds Try.pinned (OpenSpec.ofChange securityStripSpec)

/-- ITS FALSE NEIGHBOUR: 'it returns false'. Refute it at one input. -/
def securityStripWrong : ChangeSpec := { name := "securityStrip", fn := fun _ => fun
  | [d1, d2] => { results := [.lit (.bool false)], args := [d1, d2] }
  | _ => none }
def SecurityStripWrongFalsely : Prop := securityStripRow.holds Try.pinned (OpenSpec.ofChange securityStripWrong)

/-- 'mailboatlaw15.SecurityStripped': WHATEVER THE INPUT: true; the input reads as it did. -/
def securityStrippedSpec : ChangeSpec := { name := "securityStripped", fn := fun _ => fun
  | [d1, d2, d3, d4] => { results := [.lit (.bool true)], args := [d1, d2, d3, d4] }
  | _ => none }
def securityStrippedRow : OpenClaim := { program := "ytdhfgfkfejpfdaa", sum := "ac84bf4cb910185fe6763e90751f69ba41fd8842bf2e6ea7148c14904fe23d4a", func := "mailboat/mailboatlaw15.SecurityStripped", spec := "securityStripped", unfollowed := true, recurses := true, apart := false }
def SecurityStrippedSaid : Prop := securityStrippedRow.holds Try.pinned (OpenSpec.ofChange securityStrippedSpec)

/-- ITS FALSE NEIGHBOUR: 'it returns false'. Refute it at one input. -/
def securityStrippedWrong : ChangeSpec := { name := "securityStripped", fn := fun _ => fun
  | [d1, d2, d3, d4] => { results := [.lit (.bool false)], args := [d1, d2, d3, d4] }
  | _ => none }
def SecurityStrippedWrongFalsely : Prop := securityStrippedRow.holds Try.pinned (OpenSpec.ofChange securityStrippedWrong)

/-- 'mailboatlaw15.SecurityVerified': WHATEVER THE INPUT: true; the input reads as it did. -/
def securityVerifiedSpec : ChangeSpec := { name := "securityVerified", fn := fun _ => fun
  | [d1, d2, d3] => { results := [.lit (.bool true)], args := [d1, d2, d3] }
  | _ => none }
def securityVerifiedRow : OpenClaim := { program := "ytdhfgfkfejpfdaa", sum := "ac84bf4cb910185fe6763e90751f69ba41fd8842bf2e6ea7148c14904fe23d4a", func := "mailboat/mailboatlaw15.SecurityVerified", spec := "securityVerified", unfollowed := true, recurses := true, apart := false }
def SecurityVerifiedSaid : Prop := securityVerifiedRow.holds Try.pinned (OpenSpec.ofChange securityVerifiedSpec)

/-- ITS FALSE NEIGHBOUR: 'it returns false'. Refute it at one input. -/
def securityVerifiedWrong : ChangeSpec := { name := "securityVerified", fn := fun _ => fun
  | [d1, d2, d3] => { results := [.lit (.bool false)], args := [d1, d2, d3] }
  | _ => none }
def SecurityVerifiedWrongFalsely : Prop := securityVerifiedRow.holds Try.pinned (OpenSpec.ofChange securityVerifiedWrong)

/- THE SECOND FORM. 'bulk': how many values and letters a reading holds, each counted each time it is reached (what is shared counts as often as it is met; a slice's spare places count too). A statement '..UptoSaid' is the law's where the arguments, and the package variables that the reading takes, are together of bulk at most 1048576: NARROWER than '..Said'. Prove '..Said' where nothing that the law and all that it calls make is longer than what came in: it says more and counts as full. Else prove '..UptoSaid'. A law counts once. -/
mutual
def uptoBulk {H : Type} : DataW H → Nat
  | .lit (.string bytes) => bytes.length + 1
  | .lit _ => 1
  | .nil => 1
  | .ptr d => uptoBulk d + 1
  | .slice elems spare => uptoBulkAll elems + uptoBulkAll spare + 1
  | .agg parts => uptoBulkAll parts + 1
  | .iface _ d => uptoBulk d + 1
  | .map entries => uptoBulkEntries entries + 1
  | .held _ => 1
def uptoBulkAll {H : Type} : List (DataW H) → Nat
  | [] => 0
  | d :: r => uptoBulk d + uptoBulkAll r
def uptoBulkEntries {H : Type} : List (Lit × DataW H) → Nat
  | [] => 0
  | x :: r => uptoBulkEntry x + uptoBulkEntries r
def uptoBulkEntry {H : Type} : Lit × DataW H → Nat
  | (.string bytes, d) => bytes.length + uptoBulk d + 1
  | (_, d) => uptoBulk d + 1
 end
def uptoSmall : (H : Type) → List (DataW H) → Bool := fun _ ds => decide (uptoBulkAll ds ≤ 1048576)
def OpenSpec.upto (s : _root_.Go.ChangeSpec) : _root_.Go.OpenSpec := { _root_.Go.OpenSpec.ofChange s with cond := some uptoSmall }

/-- 'mailboatlaw15.SecurityOrder', WHERE WHAT IT READS IS OF BULK AT MOST 1048576: true; the input reads as it did. -/
def securityOrderUptoRow : OpenClaim := { program := "ytdhfgfkfejpfdaa", sum := "ac84bf4cb910185fe6763e90751f69ba41fd8842bf2e6ea7148c14904fe23d4a", func := "mailboat/mailboatlaw15.SecurityOrder", spec := "securityOrder", unfollowed := true, recurses := true, apart := false, narrowed := true }
def SecurityOrderUptoSaid : Prop := securityOrderUptoRow.holds Try.pinned (OpenSpec.upto securityOrderSpec)

/-- 'mailboatlaw15.SecurityTags', WHERE WHAT IT READS IS OF BULK AT MOST 1048576: true; the input reads as it did. -/
def securityTagsUptoRow : OpenClaim := { program := "ytdhfgfkfejpfdaa", sum := "ac84bf4cb910185fe6763e90751f69ba41fd8842bf2e6ea7148c14904fe23d4a", func := "mailboat/mailboatlaw15.SecurityTags", spec := "securityTags", unfollowed := true, recurses := true, apart := false, narrowed := true }
def SecurityTagsUptoSaid : Prop := securityTagsUptoRow.holds Try.pinned (OpenSpec.upto securityTagsSpec)

/-- 'mailboatlaw15.SecurityFree', WHERE WHAT IT READS IS OF BULK AT MOST 1048576: true; the input reads as it did. -/
def securityFreeUptoRow : OpenClaim := { program := "ytdhfgfkfejpfdaa", sum := "ac84bf4cb910185fe6763e90751f69ba41fd8842bf2e6ea7148c14904fe23d4a", func := "mailboat/mailboatlaw15.SecurityFree", spec := "securityFree", unfollowed := true, recurses := true, apart := false, narrowed := true }
def SecurityFreeUptoSaid : Prop := securityFreeUptoRow.holds Try.pinned (OpenSpec.upto securityFreeSpec)

/-- 'mailboatlaw15.SecurityStrip', WHERE WHAT IT READS IS OF BULK AT MOST 1048576: true; the input reads as it did. -/
def securityStripUptoRow : OpenClaim := { program := "ytdhfgfkfejpfdaa", sum := "ac84bf4cb910185fe6763e90751f69ba41fd8842bf2e6ea7148c14904fe23d4a", func := "mailboat/mailboatlaw15.SecurityStrip", spec := "securityStrip", unfollowed := true, recurses := true, apart := false, narrowed := true }
def SecurityStripUptoSaid : Prop := securityStripUptoRow.holds Try.pinned (OpenSpec.upto securityStripSpec)

/-- 'mailboatlaw15.SecurityStripped', WHERE WHAT IT READS IS OF BULK AT MOST 1048576: true; the input reads as it did. -/
def securityStrippedUptoRow : OpenClaim := { program := "ytdhfgfkfejpfdaa", sum := "ac84bf4cb910185fe6763e90751f69ba41fd8842bf2e6ea7148c14904fe23d4a", func := "mailboat/mailboatlaw15.SecurityStripped", spec := "securityStripped", unfollowed := true, recurses := true, apart := false, narrowed := true }
def SecurityStrippedUptoSaid : Prop := securityStrippedUptoRow.holds Try.pinned (OpenSpec.upto securityStrippedSpec)

/-- 'mailboatlaw15.SecurityVerified', WHERE WHAT IT READS IS OF BULK AT MOST 1048576: true; the input reads as it did. -/
def securityVerifiedUptoRow : OpenClaim := { program := "ytdhfgfkfejpfdaa", sum := "ac84bf4cb910185fe6763e90751f69ba41fd8842bf2e6ea7148c14904fe23d4a", func := "mailboat/mailboatlaw15.SecurityVerified", spec := "securityVerified", unfollowed := true, recurses := true, apart := false, narrowed := true }
def SecurityVerifiedUptoSaid : Prop := securityVerifiedUptoRow.holds Try.pinned (OpenSpec.upto securityVerifiedSpec)

end Rows
end Go.Proofs.Ytdhfgfkfejpfdaa
