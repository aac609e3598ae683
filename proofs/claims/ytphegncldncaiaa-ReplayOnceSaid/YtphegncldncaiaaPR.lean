/- Reading the arguments of the statements about replay windows. -/
import Derived.Test.YtphegncldncaiaaSyE
import Derived.Test.YtphegncldncaiaaPB
set_option linter.unusedSimpArgs false
set_option linter.unusedSectionVars false
set_option linter.unusedVariables false
namespace Go.Mb
open Go.Sy
set_option linter.unusedVariables false
set_option maxRecDepth 100000

def intA : A → Int
  | .int _ n => n
  | _ => 0
theorem int_of {a : A} {k : IntKind} (h : ShA (.int k) a) : a = .int k (intA a) := by obtain ⟨n, rfl, _⟩ := h; rfl
theorem LeL_get : ∀ {l m : List A}, l.length = m.length → (∀ j, j < l.length → LeA (getA l j) (getA m j)) → LeL l m
  | [], [], _, _ => LeL.nil
  | [], b :: m, h, _ => by simp at h
  | a :: l, [], h, _ => by simp at h
  | a :: l, b :: m, h, hj => LeL.cons (hj 0 (by simp)) (LeL_get (by simpa using h) fun j hlt => hj (j + 1) (by simpa using hlt))
theorem ints_of {n : Nat} {el : Nat → Nat → A} (h : ∀ i, i < n → ShAs [.int .i64] (el i) 0) : ∃ l : List Int, l.length = n ∧ LeA (.sl 1 n el) (slN l) := by
  refine ⟨(List.range n).map fun i => intA (el i 0), by simp, LeA.sl (by simp) fun i hi j hj => ?_⟩
  obtain rfl : j = 0 := by omega
  obtain ⟨h0, _⟩ := h i hi
  rw [int_of h0]
  simp [rowL, nC, getA, hi]
end Go.Mb
namespace Go.Proofs.Ytphegncldncaiaa
open Go.Sy Go.Mb
set_option linter.unusedVariables false
set_option maxRecDepth 100000

section
variable {H : Type} {enc : TypeId × Value → H} {W : World} {base : Nat} {spare : Nat → Bool} {held : Bool} {v : Value} {dd : DataW H} {ps : List MemPlace} {r : Reach} {b0 : Nat}

theorem argInt (hok : Value.okWide Try.prog W r b0 3 v) (h : DataW.Trod enc Try.prog W base spare held 3 v dd ps) : ∃ x : Int, R W (fun _ => False) (.int .i64 x) virg v := by
  obtain ⟨cs, hl, hr, hs⟩ := lift_arg (X := fun _ => False) (fun _ h => h) (show shOf Try.prog 6 3 = some [.int .i64] by kernel_rfl) hok h
  have harg : argA Try.prog 3 cs = getA cs 0 := by unfold argA; rw [show isAggT Try.prog 3 = some false by kernel_rfl]
  rw [harg] at hr
  obtain ⟨h0, _⟩ := hs
  rw [int_of h0] at hr
  exact ⟨_, hr⟩
theorem argStr (hok : Value.okWide Try.prog W r b0 9 v) (h : DataW.Trod enc Try.prog W base spare held 9 v dd ps) : ∃ x : ByteArray, R W (fun _ => False) (.str x) virg v := by
  obtain ⟨cs, hl, hr, hs⟩ := lift_arg (X := fun _ => False) (fun _ h => h) (show shOf Try.prog 6 9 = some [.str] by kernel_rfl) hok h
  have harg : argA Try.prog 9 cs = getA cs 0 := by unfold argA; rw [show isAggT Try.prog 9 = some false by kernel_rfl]
  rw [harg] at hr
  obtain ⟨⟨s, h0, hm⟩, _⟩ := hs
  rw [h0] at hr
  exact ⟨_, hr⟩
theorem argInts (hok : Value.okWide Try.prog W r b0 22 v) (h : DataW.Trod enc Try.prog W base spare held 22 v dd ps) : ∃ x : List Int, R W (fun _ => False) (slN x) virg v := by
  obtain ⟨cs, hl, hr, hs⟩ := lift_arg (X := fun _ => False) (fun _ h => h) (show shOf Try.prog 6 22 = some [.sl 1 [.int .i64]] by kernel_rfl) hok h
  have harg : argA Try.prog 22 cs = getA cs 0 := by unfold argA; rw [show isAggT Try.prog 22 = some false by kernel_rfl]
  rw [harg] at hr
  obtain ⟨⟨n, el, e0, _, hel⟩, _⟩ := hs
  obtain ⟨l, _, hle⟩ := ints_of hel
  rw [e0] at hr
  exact ⟨l, hle _ _ _ _ hr⟩
theorem argWin (hok : Value.okWide Try.prog W r b0 24 v) (h : DataW.Trod enc Try.prog W base spare held 24 v dd ps) : ∃ x : Win, R W (fun _ => False) (.agg x.cells) virg v := by
  obtain ⟨cs, hl, hr, hs⟩ := lift_arg (X := fun _ => False) (fun _ h => h) (show shOf Try.prog 6 24 = some [.int .i64, .int .i64, .sl 1 [.int .i64]] by kernel_rfl) hok h
  have harg : argA Try.prog 24 cs = .agg cs := by unfold argA; rw [show isAggT Try.prog 24 = some true by kernel_rfl]
  rw [harg] at hr
  obtain ⟨h0, h1, ⟨n, el, e0, _, hel⟩, _⟩ := hs
  obtain ⟨l, _, hle⟩ := ints_of hel
  refine ⟨⟨intA (getA cs 0), intA (getA cs 1), l⟩, LeA.agg (LeL_get (by rw [hl]; rfl) fun j hj => ?_) _ _ _ _ hr⟩
  rw [hl] at hj
  match j, hj with
  | 0, _ => exact LeA.of (int_of h0)
  | 1, _ => exact LeA.of (int_of h1)
  | 2, _ => rw [show getA cs 2 = _ from e0]; exact hle
end
end Go.Proofs.Ytphegncldncaiaa
