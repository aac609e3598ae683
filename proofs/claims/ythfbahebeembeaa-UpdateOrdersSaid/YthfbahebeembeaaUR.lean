/- Reading the arguments of the statements. -/
import Derived.Test.YthfbahebeembeaaProg
import Derived.Test.YthfbahebeembeaaSyE
import Derived.Test.YthfbahebeembeaaUA
set_option linter.unusedSimpArgs false
set_option linter.unusedSectionVars false
set_option linter.unusedVariables false
namespace Go.Mb
open Go.Sy
set_option linter.unusedVariables false
set_option maxRecDepth 100000

def intA : A → Int
  | .int _ n => n
  | _ => 0
def boolA : A → Bool
  | .bool b => b
  | _ => false
def strA : A → ByteArray
  | .str s => s
  | _ => .empty
theorem int_of {a : A} {k : IntKind} (h : ShA (.int k) a) : a = .int k (intA a) := by obtain ⟨n, rfl, _⟩ := h; rfl
theorem bool_of {a : A} (h : ShA .bool a) : a = .bool (boolA a) := by obtain ⟨n, rfl⟩ := h; rfl
theorem str_of {a : A} (h : ShA .str a) : a = .str (strA a) := by obtain ⟨n, rfl, _⟩ := h; rfl
theorem LeL_get : ∀ {l m : List A}, l.length = m.length → (∀ j, j < l.length → LeA (getA l j) (getA m j)) → LeL l m
  | [], [], _, _ => LeL.nil
  | [], b :: m, h, _ => by simp at h
  | a :: l, [], h, _ => by simp at h
  | a :: l, b :: m, h, hj => LeL.cons (hj 0 (by simp)) (LeL_get (by simpa using h) fun j hlt => hj (j + 1) (by simpa using hlt))
theorem ints_of {n : Nat} {el : Nat → Nat → A} (h : ∀ i, i < n → ShAs [.int .i64] (el i) 0) : ∃ l : List Int, l.length = n ∧ LeA (.sl 1 n el) (slN l) := by
  refine ⟨(List.range n).map fun i => intA (el i 0), by simp, LeA.sl (by simp) fun i hi j hj => ?_⟩
  obtain rfl : j = 0 := by omega
  obtain ⟨h0, _⟩ := h i hi
  rw [int_of h0]
  simp [rowL, nC, getA, hi]
theorem u8s_of {n : Nat} {el : Nat → Nat → A} (h : ∀ i, i < n → ShAs [.int .u8] (el i) 0) : ∃ l : List Nat, l.length = n ∧ (∀ x ∈ l, x < 256) ∧ LeA (.sl 1 n el) (slU l) := by
  have hw : ∀ i, i < n → ∃ m : Nat, m < 256 ∧ el i 0 = .int .u8 m := fun i hi => by
    obtain ⟨⟨m, e, hw⟩, _⟩ := h i hi
    have h0 : 0 ≤ m ∧ m < 256 := by
      have hmin : IntKind.u8.min = 0 := by decide
      have hmax : IntKind.u8.max = 255 := by decide
      simp [Lit.wf, hmin, hmax] at hw
      omega
    exact ⟨m.toNat, by omega, by rw [e, Int.toNat_of_nonneg h0.1]⟩
  refine ⟨(List.range n).map fun i => (intA (el i 0)).toNat, by simp, fun x hx => ?_, LeA.sl (by simp) fun i hi j hj => ?_⟩
  · simp only [List.mem_map, List.mem_range] at hx
    obtain ⟨i, hi, rfl⟩ := hx
    obtain ⟨m, h1, h2⟩ := hw i hi
    rw [h2]; simpa [intA] using h1
  · obtain rfl : j = 0 := by omega
    obtain ⟨m, h1, h2⟩ := hw i hi
    rw [h2]
    simp [rowL, uC, getA, hi, h2, intA]
def shCtc : List Sh := [.int .i64, .int .i64, .int .i64, .int .i64, .int .i64, .int .i64, .int .i64]
def ofCtc (f : Nat → A) : Ctc := ⟨intA (f 0), intA (f 1), intA (f 2), intA (f 3), intA (f 4), intA (f 5), intA (f 6)⟩
theorem cellsCtc {f : Nat → A} (h : ShAs shCtc f 0) : ∀ j, j < 7 → f j = getA (ofCtc f).cells j := by
  obtain ⟨h0, h1, h2, h3, h4, h5, h6, _⟩ := h
  intro j hj
  match j, hj with
  | 0, _ => exact int_of h0
  | 1, _ => exact int_of h1
  | 2, _ => exact int_of h2
  | 3, _ => exact int_of h3
  | 4, _ => exact int_of h4
  | 5, _ => exact int_of h5
  | 6, _ => exact int_of h6
theorem listCtc {n : Nat} {el : Nat → Nat → A} (h : ∀ i, i < n → ShAs shCtc (el i) 0) : ∃ l : List Ctc, l.length = n ∧ LeA (.sl 7 n el) (slCtc l) := by
  refine ⟨(List.range n).map fun i => ofCtc (el i), by simp, LeA.sl (by simp) fun i hi j hj => ?_⟩
  rw [cellsCtc (h i hi) j hj]
  simp [rowL, hi]
def shChg : List Sh := [.int .i64, .int .i64, .int .i64, .int .i64, .int .i64, .int .i64, .int .i64, .int .i64, .int .i64, .int .i64, .int .i64]
def ofChg (f : Nat → A) : Chg := ⟨intA (f 0), intA (f 1), intA (f 2), intA (f 3), ⟨intA (f 4), intA (f 5), intA (f 6), intA (f 7), intA (f 8), intA (f 9), intA (f 10)⟩⟩
theorem cellsChg {f : Nat → A} (h : ShAs shChg f 0) : ∀ j, j < 11 → f j = getA (ofChg f).cells j := by
  obtain ⟨h0, h1, h2, h3, h4, h5, h6, h7, h8, h9, h10, _⟩ := h
  intro j hj
  match j, hj with
  | 0, _ => exact int_of h0
  | 1, _ => exact int_of h1
  | 2, _ => exact int_of h2
  | 3, _ => exact int_of h3
  | 4, _ => exact int_of h4
  | 5, _ => exact int_of h5
  | 6, _ => exact int_of h6
  | 7, _ => exact int_of h7
  | 8, _ => exact int_of h8
  | 9, _ => exact int_of h9
  | 10, _ => exact int_of h10
theorem listChg {n : Nat} {el : Nat → Nat → A} (h : ∀ i, i < n → ShAs shChg (el i) 0) : ∃ l : List Chg, l.length = n ∧ LeA (.sl 11 n el) (slChg l) := by
  refine ⟨(List.range n).map fun i => ofChg (el i), by simp, LeA.sl (by simp) fun i hi j hj => ?_⟩
  rw [cellsChg (h i hi) j hj]
  simp [rowL, hi]
def shHis : List Sh := [.int .i64, .sl 11 shChg]
def shScr : List Sh := [.sl 1 [.int .u8], .sl 7 shCtc]
end Go.Mb
namespace Go.Proofs.Ythfbahebeembeaa
open Go.Sy Go.Mb
set_option linter.unusedVariables false
set_option maxRecDepth 100000

section
variable {H : Type} {enc : TypeId × Value → H} {W : World} {base : Nat} {spare : Nat → Bool} {held : Bool} {v : Value} {dd : DataW H} {ps : List MemPlace} {r : Reach} {b0 : Nat}

theorem argInt (hok : Value.okWide Try.prog W r b0 3 v) (h : DataW.Trod enc Try.prog W base spare held 3 v dd ps) : ∃ x : Int, R W (fun _ => False) (.int .i64 x) virg v := by
  obtain ⟨cs, hl, hr, hs⟩ := lift_arg (X := fun _ => False) (fun _ h => h) (show shOf Try.prog 6 3 = some [.int .i64] by kernel_rfl) hok h
  have harg : argA Try.prog 3 cs = getA cs 0 := by unfold argA; rw [show isAggT Try.prog 3 = some false by kernel_rfl]
  rw [harg] at hr
  obtain ⟨h0, _⟩ := hs
  rw [int_of h0] at hr
  exact ⟨_, hr⟩
theorem argU8 (hok : Value.okWide Try.prog W r b0 5 v) (h : DataW.Trod enc Try.prog W base spare held 5 v dd ps) : ∃ x : Nat, x < 256 ∧ R W (fun _ => False) (.int .u8 x) virg v := by
  obtain ⟨cs, hl, hr, hs⟩ := lift_arg (X := fun _ => False) (fun _ h => h) (show shOf Try.prog 6 5 = some [.int .u8] by kernel_rfl) hok h
  have harg : argA Try.prog 5 cs = getA cs 0 := by unfold argA; rw [show isAggT Try.prog 5 = some false by kernel_rfl]
  rw [harg] at hr
  obtain ⟨⟨n, e, hw⟩, _⟩ := hs
  rw [e] at hr
  have h0 : 0 ≤ n ∧ n < 256 := by
    have hmin : IntKind.u8.min = 0 := by decide
    have hmax : IntKind.u8.max = 255 := by decide
    simp [Lit.wf, hmin, hmax] at hw
    omega
  refine ⟨n.toNat, by omega, ?_⟩
  rw [Int.toNat_of_nonneg h0.1]; exact hr
theorem argCtc (hok : Value.okWide Try.prog W r b0 26 v) (h : DataW.Trod enc Try.prog W base spare held 26 v dd ps) : ∃ x : Ctc, R W (fun _ => False) (.agg x.cells) virg v := by
  obtain ⟨cs, hl, hr, hs⟩ := lift_arg (X := fun _ => False) (fun _ h => h) (show shOf Try.prog 6 26 = some shCtc by kernel_rfl) hok h
  have harg : argA Try.prog 26 cs = .agg cs := by unfold argA; rw [show isAggT Try.prog 26 = some true by kernel_rfl]
  rw [harg] at hr
  have hc := cellsCtc hs
  exact ⟨_, LeA.agg (LeL_get (by rw [hl]; rfl) fun j hj => LeA.of (hc j (by rw [hl] at hj; exact hj))) _ _ _ _ hr⟩
theorem argHis (hok : Value.okWide Try.prog W r b0 24 v) (h : DataW.Trod enc Try.prog W base spare held 24 v dd ps) : ∃ x : His, R W (fun _ => False) (.agg x.cells) virg v := by
  obtain ⟨cs, hl, hr, hs⟩ := lift_arg (X := fun _ => False) (fun _ h => h) (show shOf Try.prog 6 24 = some shHis by kernel_rfl) hok h
  have harg : argA Try.prog 24 cs = .agg cs := by unfold argA; rw [show isAggT Try.prog 24 = some true by kernel_rfl]
  rw [harg] at hr
  obtain ⟨h0, ⟨n1, el1, e1, _, hel1⟩, _⟩ := hs
  obtain ⟨l1, _, hle1⟩ := listChg hel1
  refine ⟨⟨intA (getA cs 0), l1⟩, LeA.agg (LeL_get (by rw [hl]; rfl) fun j hj => ?_) _ _ _ _ hr⟩
  rw [hl] at hj
  match j, hj with
  | 0, _ => exact LeA.of (int_of h0)
  | 1, _ => rw [show getA cs 1 = _ from e1]; exact hle1
theorem argChgs (hok : Value.okWide Try.prog W r b0 22 v) (h : DataW.Trod enc Try.prog W base spare held 22 v dd ps) : ∃ x : List Chg, R W (fun _ => False) (slChg x) virg v := by
  obtain ⟨cs, hl, hr, hs⟩ := lift_arg (X := fun _ => False) (fun _ h => h) (show shOf Try.prog 6 22 = some [.sl 11 shChg] by kernel_rfl) hok h
  have harg : argA Try.prog 22 cs = getA cs 0 := by unfold argA; rw [show isAggT Try.prog 22 = some false by kernel_rfl]
  rw [harg] at hr
  obtain ⟨⟨n, el, e0, _, hel⟩, _⟩ := hs
  obtain ⟨l, _, hle⟩ := listChg hel
  rw [show getA cs 0 = _ from e0] at hr
  exact ⟨l, hle _ _ _ _ hr⟩
theorem argVec (hok : Value.okWide Try.prog W r b0 36 v) (h : DataW.Trod enc Try.prog W base spare held 36 v dd ps) : ∃ x : List Int, R W (fun _ => False) (slN x) virg v := by
  obtain ⟨cs, hl, hr, hs⟩ := lift_arg (X := fun _ => False) (fun _ h => h) (show shOf Try.prog 6 36 = some [.sl 1 [.int .i64]] by kernel_rfl) hok h
  have harg : argA Try.prog 36 cs = getA cs 0 := by unfold argA; rw [show isAggT Try.prog 36 = some false by kernel_rfl]
  rw [harg] at hr
  obtain ⟨⟨n, el, e0, _, hel⟩, _⟩ := hs
  obtain ⟨l, _, hle⟩ := ints_of hel
  rw [show getA cs 0 = _ from e0] at hr
  exact ⟨l, hle _ _ _ _ hr⟩
theorem argScr (hok : Value.okWide Try.prog W r b0 64 v) (h : DataW.Trod enc Try.prog W base spare held 64 v dd ps) : ∃ x : Scr, (∀ y ∈ x.acts, y < 256) ∧ R W (fun _ => False) (.agg x.cells) virg v := by
  obtain ⟨cs, hl, hr, hs⟩ := lift_arg (X := fun _ => False) (fun _ h => h) (show shOf Try.prog 6 64 = some shScr by kernel_rfl) hok h
  have harg : argA Try.prog 64 cs = .agg cs := by unfold argA; rw [show isAggT Try.prog 64 = some true by kernel_rfl]
  rw [harg] at hr
  obtain ⟨⟨n0, el0, e0, _, hel0⟩, ⟨n1, el1, e1, _, hel1⟩, _⟩ := hs
  obtain ⟨l0, _, hlt0, hle0⟩ := u8s_of hel0
  obtain ⟨l1, _, hle1⟩ := listCtc hel1
  refine ⟨⟨l0, l1⟩, hlt0, LeA.agg (LeL_get (by rw [hl]; rfl) fun j hj => ?_) _ _ _ _ hr⟩
  rw [hl] at hj
  match j, hj with
  | 0, _ => rw [show getA cs 0 = _ from e0]; exact hle0
  | 1, _ => rw [show getA cs 1 = _ from e1]; exact hle1
end
end Go.Proofs.Ythfbahebeembeaa
