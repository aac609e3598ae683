/-
  No cell of these rows narrows 'for every input' (looked for: loops, veiled, ifaces, maps, wideKeys, modest, calm, conditions, laid).
  DERIVED. THE GIVEN ROWS OF THIS SEAT. 12 by the template 'for every input the law returns true; each argument reads behind the call as it read before'; 0 by the template 'total and deterministic' (their statements: YtggjngbighkdgaaGreatTotals.lean).
  GIVEN WITH THE SEED: the statements are not yours to turn. If you find one false, say at which input.
  Laid BY PROGRAM, IN A SANDBOX (cutbox-rows.mjs): the forced cells as the released guide's own fill.sh prints them over the translation 2025afb93692d994… (all of the seat's roots in one cut). By AI agents, Wed Nov 11 2026. No macro, syntax, notation, axiom, sorry.
-/
import Derived.Test.YtggjngbighkdgaaGreatChecked
import GoSem.Claim
import GoSem.ClaimJoined
import GoSem.ClaimMapViews
import Derived.JoinedTies
import Derived.KernelRfl
namespace Go.Proofs.YtggjngbighkdgaaGreat
/- THE CELL 'sum', in the pinned program and in every row, IS THE sha256 OF THE DUMP (.gsa) THAT YtggjngbighkdgaaGreatProg.lean LOADS. Nothing in Lean hashes anything: it is a label: what it is worth is what the hold of that sum in a sandbox is worth. -/
noncomputable def Tryz.pinned : Pinned := { name := "ytggjngbighkdgaagreat", sum := "2025afb93692d99419e37a9673ec9fe7bf60e8f693932d1ce89dda3f7d662f82", checked := Tryz.checked }
namespace Rows
def none {H : Type} : Left H := { results := [], args := [] }

/-- 'mailboatlaw47.NodeCheck': WHATEVER THE INPUT: true; the input reads as it did. -/
def nodeCheckSpec : ChangeSpec := { name := "nodeCheck", fn := fun _ => fun
  | [d1, d2, d3] => { results := [.lit (.bool true)], args := [d1, d2, d3] }
  | _ => none }
def nodeCheckRow : OpenClaim := { program := "ytggjngbighkdgaagreat", sum := "2025afb93692d99419e37a9673ec9fe7bf60e8f693932d1ce89dda3f7d662f82", func := "mailboat/mailboatlaw47.NodeCheck", spec := "nodeCheck", inPlace := ["internal/abi.NoEscape"], unfollowed := true, recurses := true, plainKeys := false, apart := false }
def NodeCheckSaid : Prop := nodeCheckRow.holds Tryz.pinned (OpenSpec.ofChange nodeCheckSpec)

/-- ITS FALSE NEIGHBOUR: 'it returns false'. Refute it at one input. -/
def nodeCheckWrong : ChangeSpec := { name := "nodeCheck", fn := fun _ => fun
  | [d1, d2, d3] => { results := [.lit (.bool false)], args := [d1, d2, d3] }
  | _ => none }
def NodeCheckWrongFalsely : Prop := nodeCheckRow.holds Tryz.pinned (OpenSpec.ofChange nodeCheckWrong)

/-- 'mailboatlaw47.NodePlay': WHATEVER THE INPUT: true; the input reads as it did. -/
def nodePlaySpec : ChangeSpec := { name := "nodePlay", fn := fun _ => fun
  | [d1, d2] => { results := [.lit (.bool true)], args := [d1, d2] }
  | _ => none }
def nodePlayRow : OpenClaim := { program := "ytggjngbighkdgaagreat", sum := "2025afb93692d99419e37a9673ec9fe7bf60e8f693932d1ce89dda3f7d662f82", func := "mailboat/mailboatlaw47.NodePlay", spec := "nodePlay", inPlace := ["internal/abi.NoEscape"], unfollowed := true, recurses := true, plainKeys := false, apart := false }
def NodePlaySaid : Prop := nodePlayRow.holds Tryz.pinned (OpenSpec.ofChange nodePlaySpec)

/-- ITS FALSE NEIGHBOUR: 'it returns false'. Refute it at one input. -/
def nodePlayWrong : ChangeSpec := { name := "nodePlay", fn := fun _ => fun
  | [d1, d2] => { results := [.lit (.bool false)], args := [d1, d2] }
  | _ => none }
def NodePlayWrongFalsely : Prop := nodePlayRow.holds Tryz.pinned (OpenSpec.ofChange nodePlayWrong)

/-- 'mailboatlaw47.NodeHandle': WHATEVER THE INPUT: true; the input reads as it did. -/
def nodeHandleSpec : ChangeSpec := { name := "nodeHandle", fn := fun _ => fun
  | [d1, d2] => { results := [.lit (.bool true)], args := [d1, d2] }
  | _ => none }
def nodeHandleRow : OpenClaim := { program := "ytggjngbighkdgaagreat", sum := "2025afb93692d99419e37a9673ec9fe7bf60e8f693932d1ce89dda3f7d662f82", func := "mailboat/mailboatlaw47.NodeHandle", spec := "nodeHandle", inPlace := ["internal/abi.NoEscape"], unfollowed := true, recurses := true, plainKeys := false, apart := false }
def NodeHandleSaid : Prop := nodeHandleRow.holds Tryz.pinned (OpenSpec.ofChange nodeHandleSpec)

/-- ITS FALSE NEIGHBOUR: 'it returns false'. Refute it at one input. -/
def nodeHandleWrong : ChangeSpec := { name := "nodeHandle", fn := fun _ => fun
  | [d1, d2] => { results := [.lit (.bool false)], args := [d1, d2] }
  | _ => none }
def NodeHandleWrongFalsely : Prop := nodeHandleRow.holds Tryz.pinned (OpenSpec.ofChange nodeHandleWrong)

/-- 'mailboatlaw47.NodeJournal': WHATEVER THE INPUT: true; the input reads as it did. -/
def nodeJournalSpec : ChangeSpec := { name := "nodeJournal", fn := fun _ => fun
  | [d1, d2, d3] => { results := [.lit (.bool true)], args := [d1, d2, d3] }
  | _ => none }
def nodeJournalRow : OpenClaim := { program := "ytggjngbighkdgaagreat", sum := "2025afb93692d99419e37a9673ec9fe7bf60e8f693932d1ce89dda3f7d662f82", func := "mailboat/mailboatlaw47.NodeJournal", spec := "nodeJournal", inPlace := ["internal/abi.NoEscape"], unfollowed := true, recurses := true, plainKeys := false, apart := false }
def NodeJournalSaid : Prop := nodeJournalRow.holds Tryz.pinned (OpenSpec.ofChange nodeJournalSpec)

/-- ITS FALSE NEIGHBOUR: 'it returns false'. Refute it at one input. -/
def nodeJournalWrong : ChangeSpec := { name := "nodeJournal", fn := fun _ => fun
  | [d1, d2, d3] => { results := [.lit (.bool false)], args := [d1, d2, d3] }
  | _ => none }
def NodeJournalWrongFalsely : Prop := nodeJournalRow.holds Tryz.pinned (OpenSpec.ofChange nodeJournalWrong)

/-- 'mailboatlaw47.NodeReplan': WHATEVER THE INPUT: true; the input reads as it did. -/
def nodeReplanSpec : ChangeSpec := { name := "nodeReplan", fn := fun _ => fun
  | [d1, d2, d3, d4, d5, d6] => { results := [.lit (.bool true)], args := [d1, d2, d3, d4, d5, d6] }
  | _ => none }
def nodeReplanRow : OpenClaim := { program := "ytggjngbighkdgaagreat", sum := "2025afb93692d99419e37a9673ec9fe7bf60e8f693932d1ce89dda3f7d662f82", func := "mailboat/mailboatlaw47.NodeReplan", spec := "nodeReplan", inPlace := ["internal/abi.NoEscape"], unfollowed := true, recurses := true, plainKeys := false, apart := false }
def NodeReplanSaid : Prop := nodeReplanRow.holds Tryz.pinned (OpenSpec.ofChange nodeReplanSpec)

/-- ITS FALSE NEIGHBOUR: 'it returns false'. Refute it at one input. -/
def nodeReplanWrong : ChangeSpec := { name := "nodeReplan", fn := fun _ => fun
  | [d1, d2, d3, d4, d5, d6] => { results := [.lit (.bool false)], args := [d1, d2, d3, d4, d5, d6] }
  | _ => none }
def NodeReplanWrongFalsely : Prop := nodeReplanRow.holds Tryz.pinned (OpenSpec.ofChange nodeReplanWrong)

/-- 'mailboatlaw47.NodeOnce': WHATEVER THE INPUT: true; the input reads as it did. -/
def nodeOnceSpec : ChangeSpec := { name := "nodeOnce", fn := fun _ => fun
  | [d1, d2, d3] => { results := [.lit (.bool true)], args := [d1, d2, d3] }
  | _ => none }
def nodeOnceRow : OpenClaim := { program := "ytggjngbighkdgaagreat", sum := "2025afb93692d99419e37a9673ec9fe7bf60e8f693932d1ce89dda3f7d662f82", func := "mailboat/mailboatlaw47.NodeOnce", spec := "nodeOnce", inPlace := ["internal/abi.NoEscape"], unfollowed := true, recurses := true, plainKeys := false, apart := false }
def NodeOnceSaid : Prop := nodeOnceRow.holds Tryz.pinned (OpenSpec.ofChange nodeOnceSpec)

/-- ITS FALSE NEIGHBOUR: 'it returns false'. Refute it at one input. -/
def nodeOnceWrong : ChangeSpec := { name := "nodeOnce", fn := fun _ => fun
  | [d1, d2, d3] => { results := [.lit (.bool false)], args := [d1, d2, d3] }
  | _ => none }
def NodeOnceWrongFalsely : Prop := nodeOnceRow.holds Tryz.pinned (OpenSpec.ofChange nodeOnceWrong)

/-- 'mailboatlaw47.NodeAnswers': WHATEVER THE INPUT: true; the input reads as it did. -/
def nodeAnswersSpec : ChangeSpec := { name := "nodeAnswers", fn := fun _ => fun
  | [d1, d2, d3] => { results := [.lit (.bool true)], args := [d1, d2, d3] }
  | _ => none }
def nodeAnswersRow : OpenClaim := { program := "ytggjngbighkdgaagreat", sum := "2025afb93692d99419e37a9673ec9fe7bf60e8f693932d1ce89dda3f7d662f82", func := "mailboat/mailboatlaw47.NodeAnswers", spec := "nodeAnswers", inPlace := ["internal/abi.NoEscape"], unfollowed := true, recurses := true, plainKeys := false, apart := false }
def NodeAnswersSaid : Prop := nodeAnswersRow.holds Tryz.pinned (OpenSpec.ofChange nodeAnswersSpec)

/-- ITS FALSE NEIGHBOUR: 'it returns false'. Refute it at one input. -/
def nodeAnswersWrong : ChangeSpec := { name := "nodeAnswers", fn := fun _ => fun
  | [d1, d2, d3] => { results := [.lit (.bool false)], args := [d1, d2, d3] }
  | _ => none }
def NodeAnswersWrongFalsely : Prop := nodeAnswersRow.holds Tryz.pinned (OpenSpec.ofChange nodeAnswersWrong)

/-- 'mailboatlaw47.NodeCustody': WHATEVER THE INPUT: true; the input reads as it did. -/
def nodeCustodySpec : ChangeSpec := { name := "nodeCustody", fn := fun _ => fun
  | [d1, d2, d3] => { results := [.lit (.bool true)], args := [d1, d2, d3] }
  | _ => none }
def nodeCustodyRow : OpenClaim := { program := "ytggjngbighkdgaagreat", sum := "2025afb93692d99419e37a9673ec9fe7bf60e8f693932d1ce89dda3f7d662f82", func := "mailboat/mailboatlaw47.NodeCustody", spec := "nodeCustody", inPlace := ["internal/abi.NoEscape"], unfollowed := true, recurses := true, plainKeys := false, apart := false }
def NodeCustodySaid : Prop := nodeCustodyRow.holds Tryz.pinned (OpenSpec.ofChange nodeCustodySpec)

/-- ITS FALSE NEIGHBOUR: 'it returns false'. Refute it at one input. -/
def nodeCustodyWrong : ChangeSpec := { name := "nodeCustody", fn := fun _ => fun
  | [d1, d2, d3] => { results := [.lit (.bool false)], args := [d1, d2, d3] }
  | _ => none }
def NodeCustodyWrongFalsely : Prop := nodeCustodyRow.holds Tryz.pinned (OpenSpec.ofChange nodeCustodyWrong)

/-- 'mailboatlaw48.RecoveryDurable': WHATEVER THE INPUT: true; the input reads as it did. -/
def recoveryDurableSpec : ChangeSpec := { name := "recoveryDurable", fn := fun _ => fun
  | [d] => { results := [.lit (.bool true)], args := [d] }
  | _ => none }
def recoveryDurableRow : OpenClaim := { program := "ytggjngbighkdgaagreat", sum := "2025afb93692d99419e37a9673ec9fe7bf60e8f693932d1ce89dda3f7d662f82", func := "mailboat/mailboatlaw48.RecoveryDurable", spec := "recoveryDurable", inPlace := ["internal/abi.NoEscape"], unfollowed := true, recurses := true, plainKeys := false, apart := false }
def RecoveryDurableSaid : Prop := recoveryDurableRow.holds Tryz.pinned (OpenSpec.ofChange recoveryDurableSpec)

/-- ITS FALSE NEIGHBOUR: 'it returns false'. Refute it at one input. -/
def recoveryDurableWrong : ChangeSpec := { name := "recoveryDurable", fn := fun _ => fun
  | [d] => { results := [.lit (.bool false)], args := [d] }
  | _ => none }
def RecoveryDurableWrongFalsely : Prop := recoveryDurableRow.holds Tryz.pinned (OpenSpec.ofChange recoveryDurableWrong)

/-- 'mailboatlaw48.RecoveryKeeps': WHATEVER THE INPUT: true; the input reads as it did. -/
def recoveryKeepsSpec : ChangeSpec := { name := "recoveryKeeps", fn := fun _ => fun
  | [d1, d2] => { results := [.lit (.bool true)], args := [d1, d2] }
  | _ => none }
def recoveryKeepsRow : OpenClaim := { program := "ytggjngbighkdgaagreat", sum := "2025afb93692d99419e37a9673ec9fe7bf60e8f693932d1ce89dda3f7d662f82", func := "mailboat/mailboatlaw48.RecoveryKeeps", spec := "recoveryKeeps", inPlace := ["internal/abi.NoEscape"], unfollowed := true, recurses := true, plainKeys := false, apart := false }
def RecoveryKeepsSaid : Prop := recoveryKeepsRow.holds Tryz.pinned (OpenSpec.ofChange recoveryKeepsSpec)

/-- ITS FALSE NEIGHBOUR: 'it returns false'. Refute it at one input. -/
def recoveryKeepsWrong : ChangeSpec := { name := "recoveryKeeps", fn := fun _ => fun
  | [d1, d2] => { results := [.lit (.bool false)], args := [d1, d2] }
  | _ => none }
def RecoveryKeepsWrongFalsely : Prop := recoveryKeepsRow.holds Tryz.pinned (OpenSpec.ofChange recoveryKeepsWrong)

/-- 'mailboatlaw48.RecoveryNodes': WHATEVER THE INPUT: true; the input reads as it did. -/
def recoveryNodesSpec : ChangeSpec := { name := "recoveryNodes", fn := fun _ => fun
  | [d1, d2, d3] => { results := [.lit (.bool true)], args := [d1, d2, d3] }
  | _ => none }
def recoveryNodesRow : OpenClaim := { program := "ytggjngbighkdgaagreat", sum := "2025afb93692d99419e37a9673ec9fe7bf60e8f693932d1ce89dda3f7d662f82", func := "mailboat/mailboatlaw48.RecoveryNodes", spec := "recoveryNodes", inPlace := ["internal/abi.NoEscape"], unfollowed := true, recurses := true, plainKeys := false, apart := false }
def RecoveryNodesSaid : Prop := recoveryNodesRow.holds Tryz.pinned (OpenSpec.ofChange recoveryNodesSpec)

/-- ITS FALSE NEIGHBOUR: 'it returns false'. Refute it at one input. -/
def recoveryNodesWrong : ChangeSpec := { name := "recoveryNodes", fn := fun _ => fun
  | [d1, d2, d3] => { results := [.lit (.bool false)], args := [d1, d2, d3] }
  | _ => none }
def RecoveryNodesWrongFalsely : Prop := recoveryNodesRow.holds Tryz.pinned (OpenSpec.ofChange recoveryNodesWrong)

/-- 'mailboatlaw48.RecoveryShrinks': WHATEVER THE INPUT: true; the input reads as it did. -/
def recoveryShrinksSpec : ChangeSpec := { name := "recoveryShrinks", fn := fun _ => fun
  | [d1, d2] => { results := [.lit (.bool true)], args := [d1, d2] }
  | _ => none }
def recoveryShrinksRow : OpenClaim := { program := "ytggjngbighkdgaagreat", sum := "2025afb93692d99419e37a9673ec9fe7bf60e8f693932d1ce89dda3f7d662f82", func := "mailboat/mailboatlaw48.RecoveryShrinks", spec := "recoveryShrinks", inPlace := ["internal/abi.NoEscape"], unfollowed := true, recurses := true, plainKeys := false, apart := false }
def RecoveryShrinksSaid : Prop := recoveryShrinksRow.holds Tryz.pinned (OpenSpec.ofChange recoveryShrinksSpec)

/-- ITS FALSE NEIGHBOUR: 'it returns false'. Refute it at one input. -/
def recoveryShrinksWrong : ChangeSpec := { name := "recoveryShrinks", fn := fun _ => fun
  | [d1, d2] => { results := [.lit (.bool false)], args := [d1, d2] }
  | _ => none }
def RecoveryShrinksWrongFalsely : Prop := recoveryShrinksRow.holds Tryz.pinned (OpenSpec.ofChange recoveryShrinksWrong)

/- THE SECOND FORM. 'bulk': how many values and letters a reading holds, each counted each time it is reached (what is shared counts as often as it is met; a slice's spare places count too). A statement '..UptoSaid' is the law's where the arguments, and the package variables that the reading takes, are together of bulk at most 1048576: NARROWER than '..Said'. Prove '..Said' where nothing that the law and all that it calls make is longer than what came in: it says more and counts as full. Else prove '..UptoSaid'. A law counts once. -/
mutual
def uptoBulk {H : Type} : DataW H → Nat
  | .lit (.string bytes) => bytes.length + 1
  | .lit _ => 1
  | .nil => 1
  | .ptr d => uptoBulk d + 1
  | .slice elems spare => uptoBulkAll elems + uptoBulkAll spare + 1
  | .agg parts => uptoBulkAll parts + 1
  | .iface _ d => uptoBulk d + 1
  | .map entries => uptoBulkEntries entries + 1
  | .held _ => 1
def uptoBulkAll {H : Type} : List (DataW H) → Nat
  | [] => 0
  | d :: r => uptoBulk d + uptoBulkAll r
def uptoBulkEntries {H : Type} : List (Lit × DataW H) → Nat
  | [] => 0
  | x :: r => uptoBulkEntry x + uptoBulkEntries r
def uptoBulkEntry {H : Type} : Lit × DataW H → Nat
  | (.string bytes, d) => bytes.length + uptoBulk d + 1
  | (_, d) => uptoBulk d + 1
 end
def uptoSmall : (H : Type) → List (DataW H) → Bool := fun _ ds => decide (uptoBulkAll ds ≤ 1048576)
def OpenSpec.upto (s : _root_.Go.ChangeSpec) : _root_.Go.OpenSpec := { _root_.Go.OpenSpec.ofChange s with cond := some uptoSmall }

/-- 'mailboatlaw47.NodeCheck', WHERE WHAT IT READS IS OF BULK AT MOST 1048576: true; the input reads as it did. -/
def nodeCheckUptoRow : OpenClaim := { program := "ytggjngbighkdgaagreat", sum := "2025afb93692d99419e37a9673ec9fe7bf60e8f693932d1ce89dda3f7d662f82", func := "mailboat/mailboatlaw47.NodeCheck", spec := "nodeCheck", inPlace := ["internal/abi.NoEscape"], unfollowed := true, recurses := true, plainKeys := false, apart := false, narrowed := true }
def NodeCheckUptoSaid : Prop := nodeCheckUptoRow.holds Tryz.pinned (OpenSpec.upto nodeCheckSpec)

/-- 'mailboatlaw47.NodePlay', WHERE WHAT IT READS IS OF BULK AT MOST 1048576: true; the input reads as it did. -/
def nodePlayUptoRow : OpenClaim := { program := "ytggjngbighkdgaagreat", sum := "2025afb93692d99419e37a9673ec9fe7bf60e8f693932d1ce89dda3f7d662f82", func := "mailboat/mailboatlaw47.NodePlay", spec := "nodePlay", inPlace := ["internal/abi.NoEscape"], unfollowed := true, recurses := true, plainKeys := false, apart := false, narrowed := true }
def NodePlayUptoSaid : Prop := nodePlayUptoRow.holds Tryz.pinned (OpenSpec.upto nodePlaySpec)

/-- 'mailboatlaw47.NodeHandle', WHERE WHAT IT READS IS OF BULK AT MOST 1048576: true; the input reads as it did. -/
def nodeHandleUptoRow : OpenClaim := { program := "ytggjngbighkdgaagreat", sum := "2025afb93692d99419e37a9673ec9fe7bf60e8f693932d1ce89dda3f7d662f82", func := "mailboat/mailboatlaw47.NodeHandle", spec := "nodeHandle", inPlace := ["internal/abi.NoEscape"], unfollowed := true, recurses := true, plainKeys := false, apart := false, narrowed := true }
def NodeHandleUptoSaid : Prop := nodeHandleUptoRow.holds Tryz.pinned (OpenSpec.upto nodeHandleSpec)

/-- 'mailboatlaw47.NodeJournal', WHERE WHAT IT READS IS OF BULK AT MOST 1048576: true; the input reads as it did. -/
def nodeJournalUptoRow : OpenClaim := { program := "ytggjngbighkdgaagreat", sum := "2025afb93692d99419e37a9673ec9fe7bf60e8f693932d1ce89dda3f7d662f82", func := "mailboat/mailboatlaw47.NodeJournal", spec := "nodeJournal", inPlace := ["internal/abi.NoEscape"], unfollowed := true, recurses := true, plainKeys := false, apart := false, narrowed := true }
def NodeJournalUptoSaid : Prop := nodeJournalUptoRow.holds Tryz.pinned (OpenSpec.upto nodeJournalSpec)

/-- 'mailboatlaw47.NodeReplan', WHERE WHAT IT READS IS OF BULK AT MOST 1048576: true; the input reads as it did. -/
def nodeReplanUptoRow : OpenClaim := { program := "ytggjngbighkdgaagreat", sum := "2025afb93692d99419e37a9673ec9fe7bf60e8f693932d1ce89dda3f7d662f82", func := "mailboat/mailboatlaw47.NodeReplan", spec := "nodeReplan", inPlace := ["internal/abi.NoEscape"], unfollowed := true, recurses := true, plainKeys := false, apart := false, narrowed := true }
def NodeReplanUptoSaid : Prop := nodeReplanUptoRow.holds Tryz.pinned (OpenSpec.upto nodeReplanSpec)

/-- 'mailboatlaw47.NodeOnce', WHERE WHAT IT READS IS OF BULK AT MOST 1048576: true; the input reads as it did. -/
def nodeOnceUptoRow : OpenClaim := { program := "ytggjngbighkdgaagreat", sum := "2025afb93692d99419e37a9673ec9fe7bf60e8f693932d1ce89dda3f7d662f82", func := "mailboat/mailboatlaw47.NodeOnce", spec := "nodeOnce", inPlace := ["internal/abi.NoEscape"], unfollowed := true, recurses := true, plainKeys := false, apart := false, narrowed := true }
def NodeOnceUptoSaid : Prop := nodeOnceUptoRow.holds Tryz.pinned (OpenSpec.upto nodeOnceSpec)

/-- 'mailboatlaw47.NodeAnswers', WHERE WHAT IT READS IS OF BULK AT MOST 1048576: true; the input reads as it did. -/
def nodeAnswersUptoRow : OpenClaim := { program := "ytggjngbighkdgaagreat", sum := "2025afb93692d99419e37a9673ec9fe7bf60e8f693932d1ce89dda3f7d662f82", func := "mailboat/mailboatlaw47.NodeAnswers", spec := "nodeAnswers", inPlace := ["internal/abi.NoEscape"], unfollowed := true, recurses := true, plainKeys := false, apart := false, narrowed := true }
def NodeAnswersUptoSaid : Prop := nodeAnswersUptoRow.holds Tryz.pinned (OpenSpec.upto nodeAnswersSpec)

/-- 'mailboatlaw47.NodeCustody', WHERE WHAT IT READS IS OF BULK AT MOST 1048576: true; the input reads as it did. -/
def nodeCustodyUptoRow : OpenClaim := { program := "ytggjngbighkdgaagreat", sum := "2025afb93692d99419e37a9673ec9fe7bf60e8f693932d1ce89dda3f7d662f82", func := "mailboat/mailboatlaw47.NodeCustody", spec := "nodeCustody", inPlace := ["internal/abi.NoEscape"], unfollowed := true, recurses := true, plainKeys := false, apart := false, narrowed := true }
def NodeCustodyUptoSaid : Prop := nodeCustodyUptoRow.holds Tryz.pinned (OpenSpec.upto nodeCustodySpec)

/-- 'mailboatlaw48.RecoveryDurable', WHERE WHAT IT READS IS OF BULK AT MOST 1048576: true; the input reads as it did. -/
def recoveryDurableUptoRow : OpenClaim := { program := "ytggjngbighkdgaagreat", sum := "2025afb93692d99419e37a9673ec9fe7bf60e8f693932d1ce89dda3f7d662f82", func := "mailboat/mailboatlaw48.RecoveryDurable", spec := "recoveryDurable", inPlace := ["internal/abi.NoEscape"], unfollowed := true, recurses := true, plainKeys := false, apart := false, narrowed := true }
def RecoveryDurableUptoSaid : Prop := recoveryDurableUptoRow.holds Tryz.pinned (OpenSpec.upto recoveryDurableSpec)

/-- 'mailboatlaw48.RecoveryKeeps', WHERE WHAT IT READS IS OF BULK AT MOST 1048576: true; the input reads as it did. -/
def recoveryKeepsUptoRow : OpenClaim := { program := "ytggjngbighkdgaagreat", sum := "2025afb93692d99419e37a9673ec9fe7bf60e8f693932d1ce89dda3f7d662f82", func := "mailboat/mailboatlaw48.RecoveryKeeps", spec := "recoveryKeeps", inPlace := ["internal/abi.NoEscape"], unfollowed := true, recurses := true, plainKeys := false, apart := false, narrowed := true }
def RecoveryKeepsUptoSaid : Prop := recoveryKeepsUptoRow.holds Tryz.pinned (OpenSpec.upto recoveryKeepsSpec)

/-- 'mailboatlaw48.RecoveryNodes', WHERE WHAT IT READS IS OF BULK AT MOST 1048576: true; the input reads as it did. -/
def recoveryNodesUptoRow : OpenClaim := { program := "ytggjngbighkdgaagreat", sum := "2025afb93692d99419e37a9673ec9fe7bf60e8f693932d1ce89dda3f7d662f82", func := "mailboat/mailboatlaw48.RecoveryNodes", spec := "recoveryNodes", inPlace := ["internal/abi.NoEscape"], unfollowed := true, recurses := true, plainKeys := false, apart := false, narrowed := true }
def RecoveryNodesUptoSaid : Prop := recoveryNodesUptoRow.holds Tryz.pinned (OpenSpec.upto recoveryNodesSpec)

/-- 'mailboatlaw48.RecoveryShrinks', WHERE WHAT IT READS IS OF BULK AT MOST 1048576: true; the input reads as it did. -/
def recoveryShrinksUptoRow : OpenClaim := { program := "ytggjngbighkdgaagreat", sum := "2025afb93692d99419e37a9673ec9fe7bf60e8f693932d1ce89dda3f7d662f82", func := "mailboat/mailboatlaw48.RecoveryShrinks", spec := "recoveryShrinks", inPlace := ["internal/abi.NoEscape"], unfollowed := true, recurses := true, plainKeys := false, apart := false, narrowed := true }
def RecoveryShrinksUptoSaid : Prop := recoveryShrinksUptoRow.holds Tryz.pinned (OpenSpec.upto recoveryShrinksSpec)

end Rows
end Go.Proofs.YtggjngbighkdgaaGreat
