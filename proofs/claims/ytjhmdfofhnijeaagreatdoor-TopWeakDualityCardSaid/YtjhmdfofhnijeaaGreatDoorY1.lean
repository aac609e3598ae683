import Derived.Test.YtjhmdfofhnijeaaGreatDoorRows
import Derived.LaidByTextLater
import Derived.SevenTiedAt
set_option linter.unusedSimpArgs false
set_option linter.unusedSectionVars false
set_option linter.unusedVariables false
namespace Go.Proofs.YtjhmdfofhnijeaaGreatDoor
open Go
set_option maxRecDepth 100000
def tieL : List (String × DataW Unit) := [("unicode/utf8.acceptRanges", Rows.laid_unicode_utf8_acceptRanges)]
theorem tie1:Tryz.prog.worded (varsWordLater true) = true:=by kernel_rfl
theorem tie2:Tryz.prog.worded (varsWordLater false) = false:=by kernel_rfl
theorem tie3:Tryz.prog.worded rootWordLater = true:=by kernel_rfl
theorem tie4:tieL.map (fun x=>Tryz.prog.kindOfLater x.1) = [LaidKind.data].map some:=by kernel_rfl
theorem tie5 : (Tryz.prog.funcNamed "gosem.cut.vars").isSome = true := by kernel_rfl
theorem tie6:varsNamedLaterB Tryz.prog (varsId Tryz.prog) tieL = true:=by kernel_rfl
theorem tie7 (os:Os) (tape:Tape):varsDone Tryz.prog 400 (varsId Tryz.prog) os tape = true:=by kernel_rfl
theorem tie8 (os:Os) (tape:Tape):(DataW.laidRun Tryz.prog (varsWorld Tryz.prog 400 (varsId Tryz.prog) os tape).memory 8 (tieL.map (·.1))).map (·.1) = some tieL:=by kernel_rfl
theorem tie9 (os:Os) (tape:Tape):(DataW.laidRun Tryz.prog (varsWorld Tryz.prog 400 (varsId Tryz.prog) os tape).memory 8 (tieL.map (·.1))).map (fun x=>decide x.2.Nodup && laidRowsB Tryz.prog (varsWorld Tryz.prog 400 (varsId Tryz.prog) os tape).memory x.2) = some true:=by kernel_rfl
theorem tie:Tryz.prog.laidByTextLater tieL [.data] true:=Program.laidByTextLater_by_run 400 8 tie1 tie2 tie3 tie4 tie5 tie6 tie7 tie8 tie9
theorem pinFits : Tryz.pinned.checked.prog.pinnedFits "unicode/utf8.first" = true := by kernel_rfl
theorem noOwnUnsafe : Tryz.pinned.checked.prog.headLifts.contains "ownunsafe" = false := by kernel_rfl
theorem fits1 : Tryz.pinned.checked.prog.listedFits [("unicode/utf8.first", Rows.laid_unicode_utf8_first), ("unicode/utf8.acceptRanges", Rows.laid_unicode_utf8_acceptRanges)] = true := by
 unfold Program.listedFits
 rw [noOwnUnsafe]
 kernel_rfl
end Go.Proofs.YtjhmdfofhnijeaaGreatDoor
