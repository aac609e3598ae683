/-
  No cell of these rows narrows 'for every input' (looked for: loops, veiled, ifaces, maps, wideKeys, modest, calm, conditions, laid).
  DERIVED. THE GIVEN ROWS OF THIS SEAT. 9 by the template 'for every input the law returns true; each argument reads behind the call as it read before'; 0 by the template 'total and deterministic' (their statements: YtkgaaaidmaddnaaTotals.lean).
  GIVEN WITH THE SEED: the statements are not yours to turn. If you find one false, say at which input.
  Laid BY PROGRAM, IN A SANDBOX (cutbox-rows.mjs): the forced cells as the released guide's own fill.sh prints them over the translation 3c633b02aeb0599e… (all of the seat's roots in one cut). By AI agents, Wed Nov 11 2026. No macro, syntax, notation, axiom, sorry.
-/
import Derived.Test.YtkgaaaidmaddnaaChecked
import GoSem.Claim
import GoSem.ClaimJoined
import GoSem.ClaimMapViews
import Derived.JoinedTies
import Derived.KernelRfl
namespace Go.Proofs.Ytkgaaaidmaddnaa
/- THE CELL 'sum', in the pinned program and in every row, IS THE sha256 OF THE DUMP (.gsa) THAT YtkgaaaidmaddnaaProg.lean LOADS. Nothing in Lean hashes anything: it is a label: what it is worth is what the hold of that sum in a sandbox is worth. -/
noncomputable def Try.pinned : Pinned := { name := "ytkgaaaidmaddnaa", sum := "3c633b02aeb0599ec86ba5886542cd9640bb8b97a23ec587e090118f7793b8b5", checked := Try.checked }
namespace Rows
def none {H : Type} : Left H := { results := [], args := [] }

/-- 'mailboatlaw43.StoreApply': WHATEVER THE INPUT: true; the input reads as it did. -/
def storeApplySpec : ChangeSpec := { name := "storeApply", fn := fun _ => fun
  | [d1, d2] => { results := [.lit (.bool true)], args := [d1, d2] }
  | _ => none }
def storeApplyRow : OpenClaim := { program := "ytkgaaaidmaddnaa", sum := "3c633b02aeb0599ec86ba5886542cd9640bb8b97a23ec587e090118f7793b8b5", func := "mailboat/mailboatlaw43.StoreApply", spec := "storeApply", unfollowed := true, recurses := true, apart := false }
def StoreApplySaid : Prop := storeApplyRow.holds Try.pinned (OpenSpec.ofChange storeApplySpec)

/-- ITS FALSE NEIGHBOUR: 'it returns false'. Refute it at one input. -/
def storeApplyWrong : ChangeSpec := { name := "storeApply", fn := fun _ => fun
  | [d1, d2] => { results := [.lit (.bool false)], args := [d1, d2] }
  | _ => none }
def StoreApplyWrongFalsely : Prop := storeApplyRow.holds Try.pinned (OpenSpec.ofChange storeApplyWrong)

/-- 'mailboatlaw43.StoreOnce': WHATEVER THE INPUT: true; the input reads as it did. -/
def storeOnceSpec : ChangeSpec := { name := "storeOnce", fn := fun _ => fun
  | [d1, d2] => { results := [.lit (.bool true)], args := [d1, d2] }
  | _ => none }
def storeOnceRow : OpenClaim := { program := "ytkgaaaidmaddnaa", sum := "3c633b02aeb0599ec86ba5886542cd9640bb8b97a23ec587e090118f7793b8b5", func := "mailboat/mailboatlaw43.StoreOnce", spec := "storeOnce", unfollowed := true, recurses := true, apart := false }
def StoreOnceSaid : Prop := storeOnceRow.holds Try.pinned (OpenSpec.ofChange storeOnceSpec)

/-- ITS FALSE NEIGHBOUR: 'it returns false'. Refute it at one input. -/
def storeOnceWrong : ChangeSpec := { name := "storeOnce", fn := fun _ => fun
  | [d1, d2] => { results := [.lit (.bool false)], args := [d1, d2] }
  | _ => none }
def StoreOnceWrongFalsely : Prop := storeOnceRow.holds Try.pinned (OpenSpec.ofChange storeOnceWrong)

/-- 'mailboatlaw43.StoreStored': WHATEVER THE INPUT: true; the input reads as it did. -/
def storeStoredSpec : ChangeSpec := { name := "storeStored", fn := fun _ => fun
  | [d] => { results := [.lit (.bool true)], args := [d] }
  | _ => none }
def storeStoredRow : OpenClaim := { program := "ytkgaaaidmaddnaa", sum := "3c633b02aeb0599ec86ba5886542cd9640bb8b97a23ec587e090118f7793b8b5", func := "mailboat/mailboatlaw43.StoreStored", spec := "storeStored", unfollowed := true, recurses := true, apart := false }
def StoreStoredSaid : Prop := storeStoredRow.holds Try.pinned (OpenSpec.ofChange storeStoredSpec)

/-- ITS FALSE NEIGHBOUR: 'it returns false'. Refute it at one input. -/
def storeStoredWrong : ChangeSpec := { name := "storeStored", fn := fun _ => fun
  | [d] => { results := [.lit (.bool false)], args := [d] }
  | _ => none }
def StoreStoredWrongFalsely : Prop := storeStoredRow.holds Try.pinned (OpenSpec.ofChange storeStoredWrong)

/-- 'mailboatlaw43.StoreParts': WHATEVER THE INPUT: true; the input reads as it did. -/
def storePartsSpec : ChangeSpec := { name := "storeParts", fn := fun _ => fun
  | [d1, d2] => { results := [.lit (.bool true)], args := [d1, d2] }
  | _ => none }
def storePartsRow : OpenClaim := { program := "ytkgaaaidmaddnaa", sum := "3c633b02aeb0599ec86ba5886542cd9640bb8b97a23ec587e090118f7793b8b5", func := "mailboat/mailboatlaw43.StoreParts", spec := "storeParts", unfollowed := true, recurses := true, apart := false }
def StorePartsSaid : Prop := storePartsRow.holds Try.pinned (OpenSpec.ofChange storePartsSpec)

/-- ITS FALSE NEIGHBOUR: 'it returns false'. Refute it at one input. -/
def storePartsWrong : ChangeSpec := { name := "storeParts", fn := fun _ => fun
  | [d1, d2] => { results := [.lit (.bool false)], args := [d1, d2] }
  | _ => none }
def StorePartsWrongFalsely : Prop := storePartsRow.holds Try.pinned (OpenSpec.ofChange storePartsWrong)

/-- 'mailboatlaw43.StorePut': WHATEVER THE INPUT: true; the input reads as it did. -/
def storePutSpec : ChangeSpec := { name := "storePut", fn := fun _ => fun
  | [d] => { results := [.lit (.bool true)], args := [d] }
  | _ => none }
def storePutRow : OpenClaim := { program := "ytkgaaaidmaddnaa", sum := "3c633b02aeb0599ec86ba5886542cd9640bb8b97a23ec587e090118f7793b8b5", func := "mailboat/mailboatlaw43.StorePut", spec := "storePut", unfollowed := true, recurses := true, apart := false }
def StorePutSaid : Prop := storePutRow.holds Try.pinned (OpenSpec.ofChange storePutSpec)

/-- ITS FALSE NEIGHBOUR: 'it returns false'. Refute it at one input. -/
def storePutWrong : ChangeSpec := { name := "storePut", fn := fun _ => fun
  | [d] => { results := [.lit (.bool false)], args := [d] }
  | _ => none }
def StorePutWrongFalsely : Prop := storePutRow.holds Try.pinned (OpenSpec.ofChange storePutWrong)

/-- 'mailboatlaw43.StoreExpired': WHATEVER THE INPUT: true; the input reads as it did. -/
def storeExpiredSpec : ChangeSpec := { name := "storeExpired", fn := fun _ => fun
  | [d1, d2] => { results := [.lit (.bool true)], args := [d1, d2] }
  | _ => none }
def storeExpiredRow : OpenClaim := { program := "ytkgaaaidmaddnaa", sum := "3c633b02aeb0599ec86ba5886542cd9640bb8b97a23ec587e090118f7793b8b5", func := "mailboat/mailboatlaw43.StoreExpired", spec := "storeExpired", unfollowed := true, recurses := true, apart := false }
def StoreExpiredSaid : Prop := storeExpiredRow.holds Try.pinned (OpenSpec.ofChange storeExpiredSpec)

/-- ITS FALSE NEIGHBOUR: 'it returns false'. Refute it at one input. -/
def storeExpiredWrong : ChangeSpec := { name := "storeExpired", fn := fun _ => fun
  | [d1, d2] => { results := [.lit (.bool false)], args := [d1, d2] }
  | _ => none }
def StoreExpiredWrongFalsely : Prop := storeExpiredRow.holds Try.pinned (OpenSpec.ofChange storeExpiredWrong)

/-- 'mailboatlaw43.StoreRemoved': WHATEVER THE INPUT: true; the input reads as it did. -/
def storeRemovedSpec : ChangeSpec := { name := "storeRemoved", fn := fun _ => fun
  | [d1, d2, d3] => { results := [.lit (.bool true)], args := [d1, d2, d3] }
  | _ => none }
def storeRemovedRow : OpenClaim := { program := "ytkgaaaidmaddnaa", sum := "3c633b02aeb0599ec86ba5886542cd9640bb8b97a23ec587e090118f7793b8b5", func := "mailboat/mailboatlaw43.StoreRemoved", spec := "storeRemoved", unfollowed := true, recurses := true, apart := false }
def StoreRemovedSaid : Prop := storeRemovedRow.holds Try.pinned (OpenSpec.ofChange storeRemovedSpec)

/-- ITS FALSE NEIGHBOUR: 'it returns false'. Refute it at one input. -/
def storeRemovedWrong : ChangeSpec := { name := "storeRemoved", fn := fun _ => fun
  | [d1, d2, d3] => { results := [.lit (.bool false)], args := [d1, d2, d3] }
  | _ => none }
def StoreRemovedWrongFalsely : Prop := storeRemovedRow.holds Try.pinned (OpenSpec.ofChange storeRemovedWrong)

/-- 'mailboatlaw43.StoreCheck': WHATEVER THE INPUT: true; the input reads as it did. -/
def storeCheckSpec : ChangeSpec := { name := "storeCheck", fn := fun _ => fun
  | [d1, d2, d3] => { results := [.lit (.bool true)], args := [d1, d2, d3] }
  | _ => none }
def storeCheckRow : OpenClaim := { program := "ytkgaaaidmaddnaa", sum := "3c633b02aeb0599ec86ba5886542cd9640bb8b97a23ec587e090118f7793b8b5", func := "mailboat/mailboatlaw43.StoreCheck", spec := "storeCheck", unfollowed := true, recurses := true, apart := false }
def StoreCheckSaid : Prop := storeCheckRow.holds Try.pinned (OpenSpec.ofChange storeCheckSpec)

/-- ITS FALSE NEIGHBOUR: 'it returns false'. Refute it at one input. -/
def storeCheckWrong : ChangeSpec := { name := "storeCheck", fn := fun _ => fun
  | [d1, d2, d3] => { results := [.lit (.bool false)], args := [d1, d2, d3] }
  | _ => none }
def StoreCheckWrongFalsely : Prop := storeCheckRow.holds Try.pinned (OpenSpec.ofChange storeCheckWrong)

/-- 'mailboatlaw43.StoreOrder': WHATEVER THE INPUT: true; the input reads as it did. -/
def storeOrderSpec : ChangeSpec := { name := "storeOrder", fn := fun _ => fun
  | [d] => { results := [.lit (.bool true)], args := [d] }
  | _ => none }
def storeOrderRow : OpenClaim := { program := "ytkgaaaidmaddnaa", sum := "3c633b02aeb0599ec86ba5886542cd9640bb8b97a23ec587e090118f7793b8b5", func := "mailboat/mailboatlaw43.StoreOrder", spec := "storeOrder", unfollowed := true, recurses := true, apart := false }
def StoreOrderSaid : Prop := storeOrderRow.holds Try.pinned (OpenSpec.ofChange storeOrderSpec)

/-- ITS FALSE NEIGHBOUR: 'it returns false'. Refute it at one input. -/
def storeOrderWrong : ChangeSpec := { name := "storeOrder", fn := fun _ => fun
  | [d] => { results := [.lit (.bool false)], args := [d] }
  | _ => none }
def StoreOrderWrongFalsely : Prop := storeOrderRow.holds Try.pinned (OpenSpec.ofChange storeOrderWrong)

/- THE SECOND FORM. 'bulk': how many values and letters a reading holds, each counted each time it is reached (what is shared counts as often as it is met; a slice's spare places count too). A statement '..UptoSaid' is the law's where the arguments, and the package variables that the reading takes, are together of bulk at most 1048576: NARROWER than '..Said'. Prove '..Said' where nothing that the law and all that it calls make is longer than what came in: it says more and counts as full. Else prove '..UptoSaid'. A law counts once. -/
mutual
def uptoBulk {H : Type} : DataW H → Nat
  | .lit (.string bytes) => bytes.length + 1
  | .lit _ => 1
  | .nil => 1
  | .ptr d => uptoBulk d + 1
  | .slice elems spare => uptoBulkAll elems + uptoBulkAll spare + 1
  | .agg parts => uptoBulkAll parts + 1
  | .iface _ d => uptoBulk d + 1
  | .map entries => uptoBulkEntries entries + 1
  | .held _ => 1
def uptoBulkAll {H : Type} : List (DataW H) → Nat
  | [] => 0
  | d :: r => uptoBulk d + uptoBulkAll r
def uptoBulkEntries {H : Type} : List (Lit × DataW H) → Nat
  | [] => 0
  | x :: r => uptoBulkEntry x + uptoBulkEntries r
def uptoBulkEntry {H : Type} : Lit × DataW H → Nat
  | (.string bytes, d) => bytes.length + uptoBulk d + 1
  | (_, d) => uptoBulk d + 1
 end
def uptoSmall : (H : Type) → List (DataW H) → Bool := fun _ ds => decide (uptoBulkAll ds ≤ 1048576)
def OpenSpec.upto (s : _root_.Go.ChangeSpec) : _root_.Go.OpenSpec := { _root_.Go.OpenSpec.ofChange s with cond := some uptoSmall }

/-- 'mailboatlaw43.StoreApply', WHERE WHAT IT READS IS OF BULK AT MOST 1048576: true; the input reads as it did. -/
def storeApplyUptoRow : OpenClaim := { program := "ytkgaaaidmaddnaa", sum := "3c633b02aeb0599ec86ba5886542cd9640bb8b97a23ec587e090118f7793b8b5", func := "mailboat/mailboatlaw43.StoreApply", spec := "storeApply", unfollowed := true, recurses := true, apart := false, narrowed := true }
def StoreApplyUptoSaid : Prop := storeApplyUptoRow.holds Try.pinned (OpenSpec.upto storeApplySpec)

/-- 'mailboatlaw43.StoreOnce', WHERE WHAT IT READS IS OF BULK AT MOST 1048576: true; the input reads as it did. -/
def storeOnceUptoRow : OpenClaim := { program := "ytkgaaaidmaddnaa", sum := "3c633b02aeb0599ec86ba5886542cd9640bb8b97a23ec587e090118f7793b8b5", func := "mailboat/mailboatlaw43.StoreOnce", spec := "storeOnce", unfollowed := true, recurses := true, apart := false, narrowed := true }
def StoreOnceUptoSaid : Prop := storeOnceUptoRow.holds Try.pinned (OpenSpec.upto storeOnceSpec)

/-- 'mailboatlaw43.StoreStored', WHERE WHAT IT READS IS OF BULK AT MOST 1048576: true; the input reads as it did. -/
def storeStoredUptoRow : OpenClaim := { program := "ytkgaaaidmaddnaa", sum := "3c633b02aeb0599ec86ba5886542cd9640bb8b97a23ec587e090118f7793b8b5", func := "mailboat/mailboatlaw43.StoreStored", spec := "storeStored", unfollowed := true, recurses := true, apart := false, narrowed := true }
def StoreStoredUptoSaid : Prop := storeStoredUptoRow.holds Try.pinned (OpenSpec.upto storeStoredSpec)

/-- 'mailboatlaw43.StoreParts', WHERE WHAT IT READS IS OF BULK AT MOST 1048576: true; the input reads as it did. -/
def storePartsUptoRow : OpenClaim := { program := "ytkgaaaidmaddnaa", sum := "3c633b02aeb0599ec86ba5886542cd9640bb8b97a23ec587e090118f7793b8b5", func := "mailboat/mailboatlaw43.StoreParts", spec := "storeParts", unfollowed := true, recurses := true, apart := false, narrowed := true }
def StorePartsUptoSaid : Prop := storePartsUptoRow.holds Try.pinned (OpenSpec.upto storePartsSpec)

/-- 'mailboatlaw43.StorePut', WHERE WHAT IT READS IS OF BULK AT MOST 1048576: true; the input reads as it did. -/
def storePutUptoRow : OpenClaim := { program := "ytkgaaaidmaddnaa", sum := "3c633b02aeb0599ec86ba5886542cd9640bb8b97a23ec587e090118f7793b8b5", func := "mailboat/mailboatlaw43.StorePut", spec := "storePut", unfollowed := true, recurses := true, apart := false, narrowed := true }
def StorePutUptoSaid : Prop := storePutUptoRow.holds Try.pinned (OpenSpec.upto storePutSpec)

/-- 'mailboatlaw43.StoreExpired', WHERE WHAT IT READS IS OF BULK AT MOST 1048576: true; the input reads as it did. -/
def storeExpiredUptoRow : OpenClaim := { program := "ytkgaaaidmaddnaa", sum := "3c633b02aeb0599ec86ba5886542cd9640bb8b97a23ec587e090118f7793b8b5", func := "mailboat/mailboatlaw43.StoreExpired", spec := "storeExpired", unfollowed := true, recurses := true, apart := false, narrowed := true }
def StoreExpiredUptoSaid : Prop := storeExpiredUptoRow.holds Try.pinned (OpenSpec.upto storeExpiredSpec)

/-- 'mailboatlaw43.StoreRemoved', WHERE WHAT IT READS IS OF BULK AT MOST 1048576: true; the input reads as it did. -/
def storeRemovedUptoRow : OpenClaim := { program := "ytkgaaaidmaddnaa", sum := "3c633b02aeb0599ec86ba5886542cd9640bb8b97a23ec587e090118f7793b8b5", func := "mailboat/mailboatlaw43.StoreRemoved", spec := "storeRemoved", unfollowed := true, recurses := true, apart := false, narrowed := true }
def StoreRemovedUptoSaid : Prop := storeRemovedUptoRow.holds Try.pinned (OpenSpec.upto storeRemovedSpec)

/-- 'mailboatlaw43.StoreCheck', WHERE WHAT IT READS IS OF BULK AT MOST 1048576: true; the input reads as it did. -/
def storeCheckUptoRow : OpenClaim := { program := "ytkgaaaidmaddnaa", sum := "3c633b02aeb0599ec86ba5886542cd9640bb8b97a23ec587e090118f7793b8b5", func := "mailboat/mailboatlaw43.StoreCheck", spec := "storeCheck", unfollowed := true, recurses := true, apart := false, narrowed := true }
def StoreCheckUptoSaid : Prop := storeCheckUptoRow.holds Try.pinned (OpenSpec.upto storeCheckSpec)

/-- 'mailboatlaw43.StoreOrder', WHERE WHAT IT READS IS OF BULK AT MOST 1048576: true; the input reads as it did. -/
def storeOrderUptoRow : OpenClaim := { program := "ytkgaaaidmaddnaa", sum := "3c633b02aeb0599ec86ba5886542cd9640bb8b97a23ec587e090118f7793b8b5", func := "mailboat/mailboatlaw43.StoreOrder", spec := "storeOrder", unfollowed := true, recurses := true, apart := false, narrowed := true }
def StoreOrderUptoSaid : Prop := storeOrderUptoRow.holds Try.pinned (OpenSpec.upto storeOrderSpec)

end Rows
end Go.Proofs.Ytkgaaaidmaddnaa
