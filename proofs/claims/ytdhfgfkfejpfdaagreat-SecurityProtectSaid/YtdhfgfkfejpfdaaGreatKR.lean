/- Reading the arguments of the statements. -/
import Derived.Test.YtdhfgfkfejpfdaaGreatProg
import Derived.Test.YtdhfgfkfejpfdaaGreatSyE
import Derived.Test.YtdhfgfkfejpfdaaGreatKA
set_option linter.unusedSimpArgs false
set_option linter.unusedSectionVars false
set_option linter.unusedVariables false
namespace Go.Mb
open Go.Sy
set_option linter.unusedVariables false
set_option maxRecDepth 100000

def intA : A → Int
  | .int _ n => n
  | _ => 0
def boolA : A → Bool
  | .bool b => b
  | _ => false
def strA : A → ByteArray
  | .str s => s
  | _ => .empty
theorem int_of {a : A} {k : IntKind} (h : ShA (.int k) a) : a = .int k (intA a) := by obtain ⟨n, rfl, _⟩ := h; rfl
theorem bool_of {a : A} (h : ShA .bool a) : a = .bool (boolA a) := by obtain ⟨n, rfl⟩ := h; rfl
theorem str_of {a : A} (h : ShA .str a) : a = .str (strA a) := by obtain ⟨n, rfl, _⟩ := h; rfl
theorem LeL_get : ∀ {l m : List A}, l.length = m.length → (∀ j, j < l.length → LeA (getA l j) (getA m j)) → LeL l m
  | [], [], _, _ => LeL.nil
  | [], b :: m, h, _ => by simp at h
  | a :: l, [], h, _ => by simp at h
  | a :: l, b :: m, h, hj => LeL.cons (hj 0 (by simp)) (LeL_get (by simpa using h) fun j hlt => hj (j + 1) (by simpa using hlt))
theorem ints_of {n : Nat} {el : Nat → Nat → A} (h : ∀ i, i < n → ShAs [.int .i64] (el i) 0) : ∃ l : List Int, l.length = n ∧ LeA (.sl 1 n el) (slN l) := by
  refine ⟨(List.range n).map fun i => intA (el i 0), by simp, LeA.sl (by simp) fun i hi j hj => ?_⟩
  obtain rfl : j = 0 := by omega
  obtain ⟨h0, _⟩ := h i hi
  rw [int_of h0]
  simp [rowL, nC, getA, hi]
def shBlk : List Sh := [.int .i64, .int .i64, .str]
def ofBlk (f : Nat → A) : Blk := ⟨intA (f 0), intA (f 1), strA (f 2)⟩
theorem cellsBlk {f : Nat → A} (h : ShAs shBlk f 0) : ∀ j, j < 3 → f j = getA (ofBlk f).cells j := by
  obtain ⟨h0, h1, h2, _⟩ := h
  intro j hj
  match j, hj with
  | 0, _ => exact int_of h0
  | 1, _ => exact int_of h1
  | 2, _ => exact str_of h2
theorem listBlk {n : Nat} {el : Nat → Nat → A} (h : ∀ i, i < n → ShAs shBlk (el i) 0) : ∃ l : List Blk, l.length = n ∧ LeA (.sl 3 n el) (slBlk l) := by
  refine ⟨(List.range n).map fun i => ofBlk (el i), by simp, LeA.sl (by simp) fun i hi j hj => ?_⟩
  rw [cellsBlk (h i hi) j hj]
  simp [rowL, hi]
def shEid : List Sh := [.int .i64, .int .i64, .int .i64, .int .i64, .int .i64]
def ofEid (f : Nat → A) : Eid := ⟨intA (f 0), intA (f 1), intA (f 2), intA (f 3), intA (f 4)⟩
theorem cellsEid {f : Nat → A} (h : ShAs shEid f 0) : ∀ j, j < 5 → f j = getA (ofEid f).cells j := by
  obtain ⟨h0, h1, h2, h3, h4, _⟩ := h
  intro j hj
  match j, hj with
  | 0, _ => exact int_of h0
  | 1, _ => exact int_of h1
  | 2, _ => exact int_of h2
  | 3, _ => exact int_of h3
  | 4, _ => exact int_of h4
theorem listEid {n : Nat} {el : Nat → Nat → A} (h : ∀ i, i < n → ShAs shEid (el i) 0) : ∃ l : List Eid, l.length = n ∧ LeA (.sl 5 n el) (slEid l) := by
  refine ⟨(List.range n).map fun i => ofEid (el i), by simp, LeA.sl (by simp) fun i hi j hj => ?_⟩
  rw [cellsEid (h i hi) j hj]
  simp [rowL, hi]
def shDst : List Sh := [.int .i64, .int .i64]
def ofDst (f : Nat → A) : Dst := ⟨intA (f 0), intA (f 1)⟩
theorem cellsDst {f : Nat → A} (h : ShAs shDst f 0) : ∀ j, j < 2 → f j = getA (ofDst f).cells j := by
  obtain ⟨h0, h1, _⟩ := h
  intro j hj
  match j, hj with
  | 0, _ => exact int_of h0
  | 1, _ => exact int_of h1
theorem listDst {n : Nat} {el : Nat → Nat → A} (h : ∀ i, i < n → ShAs shDst (el i) 0) : ∃ l : List Dst, l.length = n ∧ LeA (.sl 2 n el) (slDst l) := by
  refine ⟨(List.range n).map fun i => ofDst (el i), by simp, LeA.sl (by simp) fun i hi j hj => ?_⟩
  rw [cellsDst (h i hi) j hj]
  simp [rowL, hi]
def shBun : List Sh := [.int .i64, .int .i64, .int .i64, .int .i64, .int .i64, .int .i64, .int .i64, .int .i64, .int .i64, .int .i64, .sl 3 shBlk, .str]
end Go.Mb
namespace Go.Proofs.YtdhfgfkfejpfdaaGreat
open Go.Sy Go.Mb
set_option linter.unusedVariables false
set_option maxRecDepth 100000

section
variable {H : Type} {enc : TypeId × Value → H} {W : World} {base : Nat} {spare : Nat → Bool} {held : Bool} {v : Value} {dd : DataW H} {ps : List MemPlace} {r : Reach} {b0 : Nat}

theorem argBun (hok : Value.okWide Tryz.prog W r b0 28 v) (h : DataW.Trod enc Tryz.prog W base spare held 28 v dd ps) : ∃ x : Bun, R W (fun _ => False) (.agg x.cells) virg v := by
  obtain ⟨cs, hl, hr, hs⟩ := lift_arg (X := fun _ => False) (fun _ h => h) (show shOf Tryz.prog 6 28 = some shBun by kernel_rfl) hok h
  have harg : argA Tryz.prog 28 cs = .agg cs := by unfold argA; rw [show isAggT Tryz.prog 28 = some true by kernel_rfl]
  rw [harg] at hr
  obtain ⟨h0, h1, h2, h3, h4, h5, h6, h7, h8, h9, ⟨n10, el10, e10, _, hel10⟩, h11, _⟩ := hs
  obtain ⟨l10, _, hle10⟩ := listBlk hel10
  refine ⟨⟨⟨intA (getA cs 0), intA (getA cs 1), intA (getA cs 2), intA (getA cs 3), intA (getA cs 4)⟩, ⟨intA (getA cs 5), intA (getA cs 6)⟩, intA (getA cs 7), intA (getA cs 8), intA (getA cs 9), l10, strA (getA cs 11)⟩, LeA.agg (LeL_get (by rw [hl]; rfl) fun j hj => ?_) _ _ _ _ hr⟩
  rw [hl] at hj
  match j, hj with
  | 0, _ => exact LeA.of (int_of h0)
  | 1, _ => exact LeA.of (int_of h1)
  | 2, _ => exact LeA.of (int_of h2)
  | 3, _ => exact LeA.of (int_of h3)
  | 4, _ => exact LeA.of (int_of h4)
  | 5, _ => exact LeA.of (int_of h5)
  | 6, _ => exact LeA.of (int_of h6)
  | 7, _ => exact LeA.of (int_of h7)
  | 8, _ => exact LeA.of (int_of h8)
  | 9, _ => exact LeA.of (int_of h9)
  | 10, _ => rw [show getA cs 10 = _ from e10]; exact hle10
  | 11, _ => exact LeA.of (str_of h11)
theorem argBlk (hok : Value.okWide Tryz.prog W r b0 41 v) (h : DataW.Trod enc Tryz.prog W base spare held 41 v dd ps) : ∃ x : Blk, R W (fun _ => False) (.agg x.cells) virg v := by
  obtain ⟨cs, hl, hr, hs⟩ := lift_arg (X := fun _ => False) (fun _ h => h) (show shOf Tryz.prog 6 41 = some shBlk by kernel_rfl) hok h
  have harg : argA Tryz.prog 41 cs = .agg cs := by unfold argA; rw [show isAggT Tryz.prog 41 = some true by kernel_rfl]
  rw [harg] at hr
  have hc := cellsBlk hs
  exact ⟨_, LeA.agg (LeL_get (by rw [hl]; rfl) fun j hj => LeA.of (hc j (by rw [hl] at hj; exact hj))) _ _ _ _ hr⟩
theorem argInt (hok : Value.okWide Tryz.prog W r b0 3 v) (h : DataW.Trod enc Tryz.prog W base spare held 3 v dd ps) : ∃ x : Int, R W (fun _ => False) (.int .i64 x) virg v := by
  obtain ⟨cs, hl, hr, hs⟩ := lift_arg (X := fun _ => False) (fun _ h => h) (show shOf Tryz.prog 6 3 = some [.int .i64] by kernel_rfl) hok h
  have harg : argA Tryz.prog 3 cs = getA cs 0 := by unfold argA; rw [show isAggT Tryz.prog 3 = some false by kernel_rfl]
  rw [harg] at hr
  obtain ⟨h0, _⟩ := hs
  rw [int_of h0] at hr
  exact ⟨_, hr⟩
theorem argStr (hok : Value.okWide Tryz.prog W r b0 9 v) (h : DataW.Trod enc Tryz.prog W base spare held 9 v dd ps) : ∃ x : ByteArray, R W (fun _ => False) (.str x) virg v := by
  obtain ⟨cs, hl, hr, hs⟩ := lift_arg (X := fun _ => False) (fun _ h => h) (show shOf Tryz.prog 6 9 = some [.str] by kernel_rfl) hok h
  have harg : argA Tryz.prog 9 cs = getA cs 0 := by unfold argA; rw [show isAggT Tryz.prog 9 = some false by kernel_rfl]
  rw [harg] at hr
  obtain ⟨h0, _⟩ := hs
  rw [str_of h0] at hr
  exact ⟨_, hr⟩
end
end Go.Proofs.YtdhfgfkfejpfdaaGreat
