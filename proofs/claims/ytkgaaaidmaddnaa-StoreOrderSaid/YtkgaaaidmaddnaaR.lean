/- Reading the arguments of the statements. -/
import Derived.Test.YtkgaaaidmaddnaaSyLift
import Derived.Test.YtkgaaaidmaddnaaD
set_option linter.unusedSimpArgs false
set_option linter.unusedSectionVars false
set_option linter.unusedVariables false
namespace Go.Mb
open Go.Sy
set_option linter.unusedVariables false
set_option maxRecDepth 100000

def intA : A → Int
  | .int _ n => n
  | _ => 0
def boolA : A → Bool
  | .bool b => b
  | _ => false
def strA : A → ByteArray
  | .str s => s
  | _ => ⟨#[]⟩
theorem int_of {a : A} {k : IntKind} (h : ShA (.int k) a) : a = .int k (intA a) := by obtain ⟨n, rfl, _⟩ := h; rfl
theorem bool_of {a : A} (h : ShA .bool a) : a = .bool (boolA a) := by obtain ⟨n, rfl⟩ := h; rfl
theorem str_of {a : A} (h : ShA .str a) : a = .str (strA a) := by obtain ⟨n, rfl, _⟩ := h; rfl
theorem LeL_get : ∀ {l m : List A}, l.length = m.length → (∀ j, j < l.length → LeA (getA l j) (getA m j)) → LeL l m
  | [], [], _, _ => LeL.nil
  | [], b :: m, h, _ => by simp at h
  | a :: l, [], h, _ => by simp at h
  | a :: l, b :: m, h, hj => LeL.cons (hj 0 (by simp)) (LeL_get (by simpa using h) fun j hlt => hj (j + 1) (by simpa using hlt))

def nidSh : List Sh := [.int .i64, .int .i64, .int .i64, .int .i64, .int .i64]
def nidOf (f : Nat → A) : Nid := ⟨intA (f 0), intA (f 1), intA (f 2), intA (f 3), intA (f 4)⟩
theorem nid_cells {f : Nat → A} (h : ShAs nidSh f 0) : ∀ j, j < 5 → f j = getA (nidOf f).cells j := by
  obtain ⟨h0, h1, h2, h3, h4, _⟩ := h
  intro j hj
  match j, hj with
  | 0, _ => exact int_of h0
  | 1, _ => exact int_of h1
  | 2, _ => exact int_of h2
  | 3, _ => exact int_of h3
  | 4, _ => exact int_of h4
  | j + 5, hj => omega
def itmSh : List Sh := [.int .i64, .int .i64, .int .i64, .int .i64, .int .i64, .int .i64, .int .i64, .int .i64, .int .i64, .bool, .str]
def itmOf (f : Nat → A) : Itm := ⟨intA (f 0), ⟨intA (f 1), intA (f 2), intA (f 3), intA (f 4), intA (f 5)⟩, intA (f 6), intA (f 7), intA (f 8), boolA (f 9), strA (f 10)⟩
theorem itm_cells {f : Nat → A} (h : ShAs itmSh f 0) : ∀ j, j < 11 → f j = getA (itmOf f).cells j := by
  obtain ⟨h0, h1, h2, h3, h4, h5, h6, h7, h8, h9, h10, _⟩ := h
  intro j hj
  match j, hj with
  | 0, _ => exact int_of h0
  | 1, _ => exact int_of h1
  | 2, _ => exact int_of h2
  | 3, _ => exact int_of h3
  | 4, _ => exact int_of h4
  | 5, _ => exact int_of h5
  | 6, _ => exact int_of h6
  | 7, _ => exact int_of h7
  | 8, _ => exact int_of h8
  | 9, _ => exact bool_of h9
  | 10, _ => exact str_of h10
  | j + 11, hj => omega
def recSh : List Sh := [.int .i64, .int .i64, .int .i64, .int .i64, .int .i64, .int .i64, .int .i64, .int .i64, .int .i64, .int .i64, .bool, .str, .int .i64, .int .i64, .int .i64, .int .i64, .int .i64, .int .i64, .int .i64]
def recOf (f : Nat → A) : Jrec := ⟨intA (f 0), ⟨intA (f 1), ⟨intA (f 2), intA (f 3), intA (f 4), intA (f 5), intA (f 6)⟩, intA (f 7), intA (f 8), intA (f 9), boolA (f 10), strA (f 11)⟩, ⟨intA (f 12), intA (f 13), intA (f 14), intA (f 15), intA (f 16)⟩, intA (f 17), intA (f 18)⟩
theorem rec_cells {f : Nat → A} (h : ShAs recSh f 0) : ∀ j, j < 19 → f j = getA (recOf f).cells j := by
  obtain ⟨h0, h1, h2, h3, h4, h5, h6, h7, h8, h9, h10, h11, h12, h13, h14, h15, h16, h17, h18, _⟩ := h
  intro j hj
  match j, hj with
  | 0, _ => exact int_of h0
  | 1, _ => exact int_of h1
  | 2, _ => exact int_of h2
  | 3, _ => exact int_of h3
  | 4, _ => exact int_of h4
  | 5, _ => exact int_of h5
  | 6, _ => exact int_of h6
  | 7, _ => exact int_of h7
  | 8, _ => exact int_of h8
  | 9, _ => exact int_of h9
  | 10, _ => exact bool_of h10
  | 11, _ => exact str_of h11
  | 12, _ => exact int_of h12
  | 13, _ => exact int_of h13
  | 14, _ => exact int_of h14
  | 15, _ => exact int_of h15
  | 16, _ => exact int_of h16
  | 17, _ => exact int_of h17
  | 18, _ => exact int_of h18
  | j + 19, hj => omega
theorem itms_of {n : Nat} {el : Nat → Nat → A} (h : ∀ i, i < n → ShAs itmSh (el i) 0) : ∃ l : List Itm, l.length = n ∧ LeA (.sl 11 n el) (.sl 11 l.length (rowL Itm.cells l)) := by
  refine ⟨(List.range n).map fun i => itmOf (el i), by simp, LeA.sl (by simp) fun i hi j hj => ?_⟩
  rw [itm_cells (h i hi) j hj]
  simp [rowL, hi]
theorem recs_of {n : Nat} {el : Nat → Nat → A} (h : ∀ i, i < n → ShAs recSh (el i) 0) : ∃ l : List Jrec, l.length = n ∧ LeA (.sl 19 n el) (.sl 19 l.length (rowL Jrec.cells l)) := by
  refine ⟨(List.range n).map fun i => recOf (el i), by simp, LeA.sl (by simp) fun i hi j hj => ?_⟩
  rw [rec_cells (h i hi) j hj]
  simp [rowL, hi]
end Go.Mb
