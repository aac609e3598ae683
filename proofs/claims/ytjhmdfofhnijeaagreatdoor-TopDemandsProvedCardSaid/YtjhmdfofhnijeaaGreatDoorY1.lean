import Derived.Test.YtjhmdfofhnijeaaGreatDoorRows
import Derived.LaidByTextLater
import Derived.SevenTiedAt
open Go.Proofs.Tryz renaming prog->aa
set_option linter.all false
namespace Go.Proofs.YtjhmdfofhnijeaaGreatDoor
open Go
set_option maxRecDepth 100000
def zB:List (String×DataW Unit):=[("unicode/utf8.acceptRanges",Rows.laid_unicode_utf8_acceptRanges)]
theorem aq8:aa.worded (varsWordLater true)=true:=by kernel_rfl
theorem aq9:aa.worded (varsWordLater false)=false:=by kernel_rfl
theorem ara:aa.worded rootWordLater=true:=by kernel_rfl
theorem arb:zB.map (λx=>aa.kindOfLater x.1)=[LaidKind.data].map some:=by kernel_rfl
theorem ard:(aa.funcNamed "gosem.cut.vars").isSome=true:=by kernel_rfl
theorem arf:varsNamedLaterB aa (varsId aa) zB=true:=by kernel_rfl
theorem arh(os:Os)(tape:Tape):varsDone aa 400 (varsId aa) os tape=true:=by kernel_rfl
theorem ari(os:Os)(tape:Tape):(DataW.laidRun aa (varsWorld aa 400 (varsId aa) os tape).memory 8 (zB.map (·.1))).map (·.1)=some zB:=by kernel_rfl
theorem arj(os:Os)(tape:Tape):(DataW.laidRun aa (varsWorld aa 400 (varsId aa) os tape).memory 8 (zB.map (·.1))).map (λx=>decide x.2.Nodup&&laidRowsB aa (varsWorld aa 400 (varsId aa) os tape).memory x.2)=some true:=by kernel_rfl
theorem tie:aa.laidByTextLater zB [.data] true:=Program.laidByTextLater_by_run 400 8 aq8 aq9 ara arb ard arf arh ari arj
theorem ark:Tryz.pinned.checked.prog.pinnedFits "unicode/utf8.first" =true:=by kernel_rfl
theorem arl:Tryz.pinned.checked.prog.headLifts.contains "ownunsafe" =false:=by kernel_rfl
theorem arn:Tryz.pinned.checked.prog.listedFits [("unicode/utf8.first",Rows.laid_unicode_utf8_first),("unicode/utf8.acceptRanges",Rows.laid_unicode_utf8_acceptRanges)]=true:=by
 unfold Program.listedFits;rw[arl];kernel_rfl
end Go.Proofs.YtjhmdfofhnijeaaGreatDoor
