import Derived.Test.YtggjngbighkdgaaGreatL01
set_option linter.unusedSimpArgs false
set_option linter.unusedSectionVars false
set_option linter.unusedVariables false
namespace Go.Mb
open Go.Sy
set_option maxRecDepth 100000
end Go.Mb
namespace Go.Proofs.YtggjngbighkdgaaGreat
open Go.Sy Go.Mb
set_option maxRecDepth 100000
section
variable {H : Type} {enc : TypeId × Value → H} {W : World} {base : Nat} {spare : Nat → Bool} {held : Bool} {v : Value} {dd : DataW H} {ps : List MemPlace} {r : Reach} {b0 : Nat}
theorem argBool (hok : Value.okWide Tryz.prog W r b0 4 v) (h : DataW.Trod enc Tryz.prog W base spare held 4 v dd ps) : ∃ x : Bool, R W (fun _ => False) (.bool x) virg v := by
 obtain ⟨cs, hl, hr, hs⟩ := lift_arg (X := fun _ => False) (fun _ h => h) (show shOf Tryz.prog 6 4 = some [.bool] by kernel_rfl) hok h
 have harg : argA Tryz.prog 4 cs = getA cs 0 := by unfold argA; rw [show isAggT Tryz.prog 4 = some false by kernel_rfl]
 rw [harg] at hr
 obtain ⟨h0, _⟩ := hs
 rw [bool_of h0] at hr
 exact ⟨_, hr⟩
theorem argU8 (hok : Value.okWide Tryz.prog W r b0 5 v) (h : DataW.Trod enc Tryz.prog W base spare held 5 v dd ps) : ∃ x : Nat, x < 256 ∧ R W (fun _ => False) (.int .u8 x) virg v := by
 obtain ⟨cs, hl, hr, hs⟩ := lift_arg (X := fun _ => False) (fun _ h => h) (show shOf Tryz.prog 6 5 = some [.int .u8] by kernel_rfl) hok h
 have harg : argA Tryz.prog 5 cs = getA cs 0 := by unfold argA; rw [show isAggT Tryz.prog 5 = some false by kernel_rfl]
 rw [harg] at hr
 obtain ⟨⟨n, e, hw⟩, _⟩ := hs
 rw [e] at hr
 have h0 : 0 ≤ n ∧ n < 256 := by
  have hmin : IntKind.u8.min = 0 := by decide
  have hmax : IntKind.u8.max = 255 := by decide
  simp [Lit.wf, hmin, hmax] at hw
  omega
 refine ⟨n.toNat, by omega, ?_⟩
 rw [Int.toNat_of_nonneg h0.1]; exact hr
end
end Go.Proofs.YtggjngbighkdgaaGreat

