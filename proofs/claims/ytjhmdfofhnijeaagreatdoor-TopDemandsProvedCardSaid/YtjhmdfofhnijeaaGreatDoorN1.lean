import Derived.Test.YtjhmdfofhnijeaaGreatDoorS6
import Derived.Shelf.Strings.Builder1
import Derived.Shelf.Strings.BuilderF
import Derived.Shelf.Strings.BuilderK
import Derived.Test.YtjhmdfofhnijeaaGreatDoorProg
open Go.Proofs.Tryz renaming underlying514->aa, underlying512->ab, underlying511->ae, zeroValue514->af, zeroValue512->ai, zeroValue511->aj, underlying3->ak, underlying0->al, zeroValue3->aq, zeroValue0->ar, sizeOf514->au, sizeOf512->av, sizeOf511->ay, isAgg514->az, isAgg512->aA, isAgg511->aB, sizeOf3->aC, sizeOf0->aD, isAgg3->aF, isAgg0->aG, prog->aH
set_option linter.all false
namespace Go.Proofs
open Go.Shelf
def Tryz.TK:Go.Shelf.Ren:=⟨λ|169=>339|n=>n,λ|70=>511|9=>9|0=>0|72=>514|37=>512|127=>583|3=>3|5=>5|n=>n,λ|n=>n⟩
theorem Tryz.TL:Go.Proofs.Lays.n169 aH Tryz.TK:={
 mixed:=by kernel_rfl
 f169:=dO Tryz.func339
 t0:=al
 a0:=aG
 z0:=aD
 v0:=ar
 t3:=ak
 a3:=aF
 z3:=aC
 v3:=aq
 t9:=Tryz.underlying9
 a9:=Tryz.isAgg9
 z9:=Tryz.sizeOf9
 v9:=Tryz.zeroValue9
 t37:=ab
 a37:=aA
 z37:=av
 v37:=ai
 t70:=ae
 a70:=aB
 z70:=ay
 v70:=aj
 t72:=aa
 a72:=az
 z72:=au
 v72:=af
 t127:=Tryz.underlying583
 a127:=Tryz.isAgg583
 z127:=Tryz.sizeOf583
 v127:=Tryz.zeroValue583 }
def Tryz.aj5:Go.Shelf.Ren:=⟨λ|170=>338|n=>n,λ|70=>511|3=>3|0=>0|72=>514|37=>512|5=>5|n=>n,λ|n=>n⟩
theorem Tryz.aj6:Go.Proofs.Lays.n170 aH Tryz.aj5:={
 mixed:=by kernel_rfl
 f170:=dO Tryz.func338
 t0:=al
 a0:=aG
 z0:=aD
 v0:=ar
 t3:=ak
 a3:=aF
 z3:=aC
 v3:=aq
 t37:=ab
 a37:=aA
 z37:=av
 v37:=ai
 t70:=ae
 a70:=aB
 z70:=ay
 v70:=aj
 t72:=aa
 a72:=az
 z72:=au
 v72:=af }
end Go.Proofs
