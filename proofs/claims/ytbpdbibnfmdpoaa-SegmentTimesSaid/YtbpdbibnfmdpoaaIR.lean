/- Reading the arguments of the statements. -/
import Derived.Test.YtbpdbibnfmdpoaaSyE
import Derived.Test.YtbpdbibnfmdpoaaIB
set_option linter.unusedSimpArgs false
set_option linter.unusedSectionVars false
set_option linter.unusedVariables false
namespace Go.Mb
open Go.Sy
set_option linter.unusedVariables false
set_option maxRecDepth 100000

def intA : A → Int
  | .int _ n => n
  | _ => 0
theorem int_of {a : A} {k : IntKind} (h : ShA (.int k) a) : a = .int k (intA a) := by obtain ⟨n, rfl, _⟩ := h; rfl
theorem LeL_get : ∀ {l m : List A}, l.length = m.length → (∀ j, j < l.length → LeA (getA l j) (getA m j)) → LeL l m
  | [], [], _, _ => LeL.nil
  | [], b :: m, h, _ => by simp at h
  | a :: l, [], h, _ => by simp at h
  | a :: l, b :: m, h, hj => LeL.cons (hj 0 (by simp)) (LeL_get (by simpa using h) fun j hlt => hj (j + 1) (by simpa using hlt))
def spnSh : List Sh := [.int .i64, .int .i64]
def spnOf (f : Nat → A) : Spn := ⟨intA (f 0), intA (f 1)⟩
theorem spn_cells {f : Nat → A} (h : ShAs spnSh f 0) : ∀ j, j < 2 → f j = getA (spnOf f).cells j := by
  obtain ⟨h0, h1, _⟩ := h
  intro j hj
  match j, hj with
  | 0, _ => exact int_of h0
  | 1, _ => exact int_of h1
theorem spns_of {n : Nat} {el : Nat → Nat → A} (h : ∀ i, i < n → ShAs spnSh (el i) 0) : ∃ l : List Spn, l.length = n ∧ LeA (.sl 2 n el) (slS l) := by
  refine ⟨(List.range n).map fun i => spnOf (el i), by simp, LeA.sl (by simp) fun i hi j hj => ?_⟩
  rw [spn_cells (h i hi) j hj]
  simp [rowL, hi]
end Go.Mb
namespace Go.Proofs.Ytbpdbibnfmdpoaa
open Go.Sy Go.Mb
set_option linter.unusedVariables false
set_option maxRecDepth 100000

section
variable {H : Type} {enc : TypeId × Value → H} {W : World} {base : Nat} {spare : Nat → Bool} {held : Bool} {v : Value} {dd : DataW H} {ps : List MemPlace} {r : Reach} {b0 : Nat}

theorem argInt (hok : Value.okWide Try.prog W r b0 3 v) (h : DataW.Trod enc Try.prog W base spare held 3 v dd ps) : ∃ x : Int, R W (fun _ => False) (.int .i64 x) virg v := by
  obtain ⟨cs, hl, hr, hs⟩ := lift_arg (X := fun _ => False) (fun _ h => h) (show shOf Try.prog 6 3 = some [.int .i64] by kernel_rfl) hok h
  have harg : argA Try.prog 3 cs = getA cs 0 := by unfold argA; rw [show isAggT Try.prog 3 = some false by kernel_rfl]
  rw [harg] at hr
  obtain ⟨h0, _⟩ := hs
  rw [int_of h0] at hr
  exact ⟨_, hr⟩
theorem argBool (hok : Value.okWide Try.prog W r b0 4 v) (h : DataW.Trod enc Try.prog W base spare held 4 v dd ps) : ∃ x : Bool, R W (fun _ => False) (.bool x) virg v := by
  obtain ⟨cs, hl, hr, hs⟩ := lift_arg (X := fun _ => False) (fun _ h => h) (show shOf Try.prog 6 4 = some [.bool] by kernel_rfl) hok h
  have harg : argA Try.prog 4 cs = getA cs 0 := by unfold argA; rw [show isAggT Try.prog 4 = some false by kernel_rfl]
  rw [harg] at hr
  obtain ⟨⟨b, h0⟩, _⟩ := hs
  rw [h0] at hr
  exact ⟨_, hr⟩
theorem argU16 (hok : Value.okWide Try.prog W r b0 38 v) (h : DataW.Trod enc Try.prog W base spare held 38 v dd ps) : ∃ x : Nat, x < 65536 ∧ R W (fun _ => False) (.int .u16 x) virg v := by
  obtain ⟨cs, hl, hr, hs⟩ := lift_arg (X := fun _ => False) (fun _ h => h) (show shOf Try.prog 6 38 = some [.int .u16] by kernel_rfl) hok h
  have harg : argA Try.prog 38 cs = getA cs 0 := by unfold argA; rw [show isAggT Try.prog 38 = some false by kernel_rfl]
  rw [harg] at hr
  obtain ⟨⟨n, e, hw⟩, _⟩ := hs
  rw [e] at hr
  have h0 : 0 ≤ n ∧ n < 65536 := by
    have hmin : IntKind.u16.min = 0 := by decide
    have hmax : IntKind.u16.max = 65535 := by decide
    simp [Lit.wf, hmin, hmax] at hw
    omega
  refine ⟨n.toNat, by omega, ?_⟩
  rw [Int.toNat_of_nonneg h0.1]; exact hr
theorem argSpan (hok : Value.okWide Try.prog W r b0 49 v) (h : DataW.Trod enc Try.prog W base spare held 49 v dd ps) : ∃ x : Spn, R W (fun _ => False) (.agg x.cells) virg v := by
  obtain ⟨cs, hl, hr, hs⟩ := lift_arg (X := fun _ => False) (fun _ h => h) (show shOf Try.prog 6 49 = some spnSh by kernel_rfl) hok h
  have harg : argA Try.prog 49 cs = .agg cs := by unfold argA; rw [show isAggT Try.prog 49 = some true by kernel_rfl]
  rw [harg] at hr
  have hc := spn_cells hs
  exact ⟨_, LeA.agg (LeL_get (by rw [hl]; rfl) fun j hj => LeA.of (hc j (by rw [hl] at hj; exact hj))) _ _ _ _ hr⟩
theorem argSpans (hok : Value.okWide Try.prog W r b0 22 v) (h : DataW.Trod enc Try.prog W base spare held 22 v dd ps) : ∃ x : List Spn, R W (fun _ => False) (slS x) virg v := by
  obtain ⟨cs, hl, hr, hs⟩ := lift_arg (X := fun _ => False) (fun _ h => h) (show shOf Try.prog 6 22 = some [.sl 2 spnSh] by kernel_rfl) hok h
  have harg : argA Try.prog 22 cs = getA cs 0 := by unfold argA; rw [show isAggT Try.prog 22 = some false by kernel_rfl]
  rw [harg] at hr
  obtain ⟨⟨n, el, e0, _, hel⟩, _⟩ := hs
  obtain ⟨l, _, hle⟩ := spns_of hel
  rw [e0] at hr
  exact ⟨l, hle _ _ _ _ hr⟩
end
end Go.Proofs.Ytbpdbibnfmdpoaa
