import Derived.Test.YtjhmdfofhnijeaaGreatDoorS6
import Derived.Shelf.Strings.Builder1
import Derived.Shelf.Strings.BuilderF
import Derived.Shelf.Strings.BuilderK
import Derived.Test.YtjhmdfofhnijeaaGreatDoorProg
set_option linter.unusedSimpArgs false
set_option linter.unusedSectionVars false
set_option linter.unusedVariables false
namespace Go.Proofs
open Go.Shelf
def Tryz.ly169_ren:Go.Shelf.Ren:=⟨fun | 169=>339 | n=>n,fun | 70=>511 | 9=>9 | 0=>0 | 72=>514 | 37=>512 | 127=>583 | 3=>3 | 5=>5 | n=>n,fun | n=>n⟩
theorem Tryz.ly169:Go.Proofs.Lays.n169 Tryz.prog Tryz.ly169_ren:={
 mixed:=by kernel_rfl
 f169:=Tryz.func339.trans (congrArg some (by kernel_rfl))
 t0:=Tryz.underlying0
 a0:=Tryz.isAgg0
 z0:=Tryz.sizeOf0
 v0:=Tryz.zeroValue0
 t3:=Tryz.underlying3
 a3:=Tryz.isAgg3
 z3:=Tryz.sizeOf3
 v3:=Tryz.zeroValue3
 t9:=Tryz.underlying9
 a9:=Tryz.isAgg9
 z9:=Tryz.sizeOf9
 v9:=Tryz.zeroValue9
 t37:=Tryz.underlying512
 a37:=Tryz.isAgg512
 z37:=Tryz.sizeOf512
 v37:=Tryz.zeroValue512
 t70:=Tryz.underlying511
 a70:=Tryz.isAgg511
 z70:=Tryz.sizeOf511
 v70:=Tryz.zeroValue511
 t72:=Tryz.underlying514
 a72:=Tryz.isAgg514
 z72:=Tryz.sizeOf514
 v72:=Tryz.zeroValue514
 t127:=Tryz.underlying583
 a127:=Tryz.isAgg583
 z127:=Tryz.sizeOf583
 v127:=Tryz.zeroValue583 }
def Tryz.ly170_ren:Go.Shelf.Ren:=⟨fun | 170=>338 | n=>n,fun | 70=>511 | 3=>3 | 0=>0 | 72=>514 | 37=>512 | 5=>5 | n=>n,fun | n=>n⟩
theorem Tryz.ly170:Go.Proofs.Lays.n170 Tryz.prog Tryz.ly170_ren:={
 mixed:=by kernel_rfl
 f170:=Tryz.func338.trans (congrArg some (by kernel_rfl))
 t0:=Tryz.underlying0
 a0:=Tryz.isAgg0
 z0:=Tryz.sizeOf0
 v0:=Tryz.zeroValue0
 t3:=Tryz.underlying3
 a3:=Tryz.isAgg3
 z3:=Tryz.sizeOf3
 v3:=Tryz.zeroValue3
 t37:=Tryz.underlying512
 a37:=Tryz.isAgg512
 z37:=Tryz.sizeOf512
 v37:=Tryz.zeroValue512
 t70:=Tryz.underlying511
 a70:=Tryz.isAgg511
 z70:=Tryz.sizeOf511
 v70:=Tryz.zeroValue511
 t72:=Tryz.underlying514
 a72:=Tryz.isAgg514
 z72:=Tryz.sizeOf514
 v72:=Tryz.zeroValue514 }
end Go.Proofs
