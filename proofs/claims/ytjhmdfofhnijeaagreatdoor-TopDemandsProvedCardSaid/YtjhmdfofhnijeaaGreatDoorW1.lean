import Derived.Test.YtjhmdfofhnijeaaGreatDoorProg
import Derived.KernelRfl
import Derived.WalkKit
open Go.Proofs.Tryz renaming prog->aa
open List renaming range'->ab, all_eq_true->ae
set_option linter.all false
namespace Go.Proofs.YtjhmdfofhnijeaaGreatDoor
open Go
set_option maxRecDepth 100000
theorem lo0:((ab 0 64).all (rowFine aa))=true:=by kernel_rfl
theorem lo1:((ab 64 64).all (rowFine aa))=true:=by kernel_rfl
theorem lo2:((ab 128 64).all (rowFine aa))=true:=by kernel_rfl
theorem lo3:((ab 192 64).all (rowFine aa))=true:=by kernel_rfl
theorem lo4:((ab 256 64).all (rowFine aa))=true:=by kernel_rfl
theorem lo5:((ab 320 64).all (rowFine aa))=true:=by kernel_rfl
theorem lo6:((ab 384 64).all (rowFine aa))=true:=by kernel_rfl
theorem lo7:((ab 448 64).all (rowFine aa))=true:=by kernel_rfl
theorem lo8:((ab 512 64).all (rowFine aa))=true:=by kernel_rfl
theorem lo9:((ab 576 64).all (rowFine aa))=true:=by kernel_rfl
theorem aqn:((ab 640 64).all (rowFine aa))=true:=by kernel_rfl
theorem aqo:((ab 704 64).all (rowFine aa))=true:=by kernel_rfl
theorem aqp:((ab 768 64).all (rowFine aa))=true:=by kernel_rfl
theorem aqq:((ab 832 14).all (rowFine aa))=true:=by kernel_rfl
theorem aqr:aa.types.size=846:=by kernel_rfl
theorem aqs:aa.globals.all (λg=>decide (g.type<aa.types.size))=true:=by kernel_rfl
theorem aqt:aa.funcs.all (λf=>f.params.all λt=>decide (t<aa.types.size))=true:=by kernel_rfl
theorem oH{a n t:Nat}{p:Nat->Bool}(h:(ab a n).all p=true)(h1:a<=t)(h2:t<a+n):p t=true:=ae.1 h t (List.mem_range'_1.2 ⟨h1,h2⟩)
theorem aqu(t:Nat)(h:t<846):rowFine aa t=true:=by
 by_cases h0:t<64
 .exact oH lo0 (by omega) (by omega)
 by_cases h1:t<128
 .exact oH lo1 (by omega) (by omega)
 by_cases h2:t<192
 .exact oH lo2 (by omega) (by omega)
 by_cases h3:t<256
 .exact oH lo3 (by omega) (by omega)
 by_cases h4:t<320
 .exact oH lo4 (by omega) (by omega)
 by_cases h5:t<384
 .exact oH lo5 (by omega) (by omega)
 by_cases h6:t<448
 .exact oH lo6 (by omega) (by omega)
 by_cases h7:t<512
 .exact oH lo7 (by omega) (by omega)
 by_cases h8:t<576
 .exact oH lo8 (by omega) (by omega)
 by_cases h9:t<640
 .exact oH lo9 (by omega) (by omega)
 by_cases h10:t<704
 .exact oH aqn (by omega) (by omega)
 by_cases h11:t<768
 .exact oH aqo (by omega) (by omega)
 by_cases h12:t<832
 .exact oH aqp (by omega) (by omega)
 exact oH aqq (by omega) (by omega)
theorem laidOut:laidOutB aa=true:=by
 unfold laidOutB;rw[aqs,aqt,Bool.and_true,Bool.and_true,ae];intro t ht;rw[List.mem_range,aqr]at ht;exact aqu t ht
end Go.Proofs.YtjhmdfofhnijeaaGreatDoor
