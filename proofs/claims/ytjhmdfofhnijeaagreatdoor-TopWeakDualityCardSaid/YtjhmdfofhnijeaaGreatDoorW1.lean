import Derived.Test.YtjhmdfofhnijeaaGreatDoorProg
import Derived.KernelRfl
import Derived.WalkKit
set_option linter.unusedSimpArgs false
set_option linter.unusedSectionVars false
set_option linter.unusedVariables false
namespace Go.Proofs.YtjhmdfofhnijeaaGreatDoor
open Go
set_option maxRecDepth 100000
theorem lo0:((List.range' 0 64).all (rowFine Tryz.prog)) = true:=by kernel_rfl
theorem lo1:((List.range' 64 64).all (rowFine Tryz.prog)) = true:=by kernel_rfl
theorem lo2:((List.range' 128 64).all (rowFine Tryz.prog)) = true:=by kernel_rfl
theorem lo3:((List.range' 192 64).all (rowFine Tryz.prog)) = true:=by kernel_rfl
theorem lo4:((List.range' 256 64).all (rowFine Tryz.prog)) = true:=by kernel_rfl
theorem lo5:((List.range' 320 64).all (rowFine Tryz.prog)) = true:=by kernel_rfl
theorem lo6:((List.range' 384 64).all (rowFine Tryz.prog)) = true:=by kernel_rfl
theorem lo7:((List.range' 448 64).all (rowFine Tryz.prog)) = true:=by kernel_rfl
theorem lo8:((List.range' 512 64).all (rowFine Tryz.prog)) = true:=by kernel_rfl
theorem lo9:((List.range' 576 64).all (rowFine Tryz.prog)) = true:=by kernel_rfl
theorem lo10:((List.range' 640 64).all (rowFine Tryz.prog)) = true:=by kernel_rfl
theorem lo11:((List.range' 704 64).all (rowFine Tryz.prog)) = true:=by kernel_rfl
theorem lo12:((List.range' 768 64).all (rowFine Tryz.prog)) = true:=by kernel_rfl
theorem lo13:((List.range' 832 14).all (rowFine Tryz.prog)) = true:=by kernel_rfl
theorem tySize:Tryz.prog.types.size = 846:=by kernel_rfl
theorem gloFine:Tryz.prog.globals.all (fun g=>decide (g.type < Tryz.prog.types.size)) = true:=by kernel_rfl
theorem funFine:Tryz.prog.funcs.all (fun f=>f.params.all fun t=>decide (t < Tryz.prog.types.size)) = true:=by kernel_rfl
theorem in_part {a n t:Nat} {p:Nat -> Bool} (h:(List.range' a n).all p = true) (h1:a <= t) (h2:t < a + n):p t = true:=List.all_eq_true.1 h t (List.mem_range'_1.2 ⟨h1,h2⟩)
theorem rowsFine (t:Nat) (h:t < 846):rowFine Tryz.prog t = true:=by
 by_cases h0:t < 64
 ·exact in_part lo0 (by omega) (by omega)
 by_cases h1:t < 128
 ·exact in_part lo1 (by omega) (by omega)
 by_cases h2:t < 192
 ·exact in_part lo2 (by omega) (by omega)
 by_cases h3:t < 256
 ·exact in_part lo3 (by omega) (by omega)
 by_cases h4:t < 320
 ·exact in_part lo4 (by omega) (by omega)
 by_cases h5:t < 384
 ·exact in_part lo5 (by omega) (by omega)
 by_cases h6:t < 448
 ·exact in_part lo6 (by omega) (by omega)
 by_cases h7:t < 512
 ·exact in_part lo7 (by omega) (by omega)
 by_cases h8:t < 576
 ·exact in_part lo8 (by omega) (by omega)
 by_cases h9:t < 640
 ·exact in_part lo9 (by omega) (by omega)
 by_cases h10:t < 704
 ·exact in_part lo10 (by omega) (by omega)
 by_cases h11:t < 768
 ·exact in_part lo11 (by omega) (by omega)
 by_cases h12:t < 832
 ·exact in_part lo12 (by omega) (by omega)
 exact in_part lo13 (by omega) (by omega)
theorem laidOut:laidOutB Tryz.prog = true:=by
 unfold laidOutB
 rw [gloFine,funFine,Bool.and_true,Bool.and_true,List.all_eq_true]
 intro t ht
 rw [List.mem_range,tySize] at ht
 exact rowsFine t ht
end Go.Proofs.YtjhmdfofhnijeaaGreatDoor
