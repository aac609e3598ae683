/- Reading the arguments of the statements about segments. -/
import Derived.Test.YtbpdbibnfmdpoaaIR
import Derived.Test.YtbpdbibnfmdpoaaGA
set_option linter.unusedSimpArgs false
set_option linter.unusedSectionVars false
set_option linter.unusedVariables false
namespace Go.Mb
open Go.Sy
set_option linter.unusedVariables false
set_option maxRecDepth 100000

def boolA : A → Bool
  | .bool b => b
  | _ => false
def strA : A → ByteArray
  | .str s => s
  | _ => .empty
theorem bool_of {a : A} (h : ShA .bool a) : a = .bool (boolA a) := by obtain ⟨n, rfl⟩ := h; rfl
theorem str_of {a : A} (h : ShA .str a) : a = .str (strA a) := by obtain ⟨n, rfl, _⟩ := h; rfl
def segSh : List Sh := [.int .i64, .int .i64, .int .i64, .int .i64, .int .i64, .bool, .str, .sl 2 spnSh]
structure Ctc where
  fr : Int
  to : Int
  start : Int
  stop : Int
  rate : Int
  rng : Int
  loss : Int
def Ctc.cells (c : Ctc) : List A := [.int .i64 c.fr, .int .i64 c.to, .int .i64 c.start, .int .i64 c.stop, .int .i64 c.rate, .int .i64 c.rng, .int .i64 c.loss]
end Go.Mb
namespace Go.Proofs.Ytbpdbibnfmdpoaa
open Go.Sy Go.Mb
set_option linter.unusedVariables false
set_option maxRecDepth 100000

section
variable {H : Type} {enc : TypeId × Value → H} {W : World} {base : Nat} {spare : Nat → Bool} {held : Bool} {v : Value} {dd : DataW H} {ps : List MemPlace} {r : Reach} {b0 : Nat}

theorem argStr (hok : Value.okWide Try.prog W r b0 9 v) (h : DataW.Trod enc Try.prog W base spare held 9 v dd ps) : ∃ x : ByteArray, R W (fun _ => False) (.str x) virg v := by
  obtain ⟨cs, hl, hr, hs⟩ := lift_arg (X := fun _ => False) (fun _ h => h) (show shOf Try.prog 6 9 = some [.str] by kernel_rfl) hok h
  have harg : argA Try.prog 9 cs = getA cs 0 := by unfold argA; rw [show isAggT Try.prog 9 = some false by kernel_rfl]
  rw [harg] at hr
  obtain ⟨⟨s, h0, hm⟩, _⟩ := hs
  rw [h0] at hr
  exact ⟨_, hr⟩
theorem argU8 (hok : Value.okWide Try.prog W r b0 5 v) (h : DataW.Trod enc Try.prog W base spare held 5 v dd ps) : ∃ x : Nat, x < 256 ∧ R W (fun _ => False) (.int .u8 x) virg v := by
  obtain ⟨cs, hl, hr, hs⟩ := lift_arg (X := fun _ => False) (fun _ h => h) (show shOf Try.prog 6 5 = some [.int .u8] by kernel_rfl) hok h
  have harg : argA Try.prog 5 cs = getA cs 0 := by unfold argA; rw [show isAggT Try.prog 5 = some false by kernel_rfl]
  rw [harg] at hr
  obtain ⟨⟨n, e, hw⟩, _⟩ := hs
  rw [e] at hr
  have h0 : 0 ≤ n ∧ n < 256 := by
    have hmin : IntKind.u8.min = 0 := by decide
    have hmax : IntKind.u8.max = 255 := by decide
    simp [Lit.wf, hmin, hmax] at hw
    omega
  refine ⟨n.toNat, by omega, ?_⟩
  rw [Int.toNat_of_nonneg h0.1]; exact hr
theorem argSeg (hok : Value.okWide Try.prog W r b0 24 v) (h : DataW.Trod enc Try.prog W base spare held 24 v dd ps) : ∃ x : Seg, R W (fun _ => False) (.agg x.cells) virg v := by
  obtain ⟨cs, hl, hr, hs⟩ := lift_arg (X := fun _ => False) (fun _ h => h) (show shOf Try.prog 6 24 = some segSh by kernel_rfl) hok h
  have harg : argA Try.prog 24 cs = .agg cs := by unfold argA; rw [show isAggT Try.prog 24 = some true by kernel_rfl]
  rw [harg] at hr
  obtain ⟨h0, h1, h2, h3, h4, h5, h6, ⟨n, el, e0, _, hel⟩, _⟩ := hs
  obtain ⟨l, _, hle⟩ := spns_of hel
  refine ⟨⟨intA (getA cs 0), intA (getA cs 1), intA (getA cs 2), intA (getA cs 3), intA (getA cs 4), boolA (getA cs 5), strA (getA cs 6), l⟩, LeA.agg (LeL_get (by rw [hl]; rfl) fun j hj => ?_) _ _ _ _ hr⟩
  rw [hl] at hj
  match j, hj with
  | 0, _ => exact LeA.of (int_of h0)
  | 1, _ => exact LeA.of (int_of h1)
  | 2, _ => exact LeA.of (int_of h2)
  | 3, _ => exact LeA.of (int_of h3)
  | 4, _ => exact LeA.of (int_of h4)
  | 5, _ => exact LeA.of (bool_of h5)
  | 6, _ => exact LeA.of (str_of h6)
  | 7, _ => rw [show getA cs 7 = _ from e0]; exact hle
theorem argCtc (hok : Value.okWide Try.prog W r b0 53 v) (h : DataW.Trod enc Try.prog W base spare held 53 v dd ps) : ∃ x : Ctc, R W (fun _ => False) (.agg x.cells) virg v := by
  obtain ⟨cs, hl, hr, hs⟩ := lift_arg (X := fun _ => False) (fun _ h => h) (show shOf Try.prog 6 53 = some [.int .i64, .int .i64, .int .i64, .int .i64, .int .i64, .int .i64, .int .i64] by kernel_rfl) hok h
  have harg : argA Try.prog 53 cs = .agg cs := by unfold argA; rw [show isAggT Try.prog 53 = some true by kernel_rfl]
  rw [harg] at hr
  obtain ⟨h0, h1, h2, h3, h4, h5, h6, _⟩ := hs
  refine ⟨⟨intA (getA cs 0), intA (getA cs 1), intA (getA cs 2), intA (getA cs 3), intA (getA cs 4), intA (getA cs 5), intA (getA cs 6)⟩, LeA.agg (LeL_get (by rw [hl]; rfl) fun j hj => ?_) _ _ _ _ hr⟩
  rw [hl] at hj
  match j, hj with
  | 0, _ => exact LeA.of (int_of h0)
  | 1, _ => exact LeA.of (int_of h1)
  | 2, _ => exact LeA.of (int_of h2)
  | 3, _ => exact LeA.of (int_of h3)
  | 4, _ => exact LeA.of (int_of h4)
  | 5, _ => exact LeA.of (int_of h5)
  | 6, _ => exact LeA.of (int_of h6)
end
end Go.Proofs.Ytbpdbibnfmdpoaa
