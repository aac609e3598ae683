/- Plain words for rows out of lists; nothing of a program. -/
import Derived.Test.YtphegncldncaiaaSyX
set_option linter.unusedSimpArgs false
set_option linter.unusedSectionVars false
set_option linter.unusedVariables false
namespace Go.Mb
open Go.Sy
set_option linter.unusedVariables false

theorem wrap_u8m (n : Int) : IntKind.u8.wrap n = n % 256 := by
  have hb : IntKind.u8.bits = 8 := rfl
  have hs : IntKind.u8.signed = false := rfl
  unfold IntKind.wrap
  simp only [hb, hs, Bool.false_and, Bool.false_eq_true, if_false]
  rfl
theorem wrap_u32m (n : Int) : IntKind.u32.wrap n = n % 4294967296 := by
  have hb : IntKind.u32.bits = 32 := rfl
  have hs : IntKind.u32.signed = false := rfl
  unfold IntKind.wrap
  simp only [hb, hs, Bool.false_and, Bool.false_eq_true, if_false]
  rfl
theorem wrap_u64m (n : Int) : IntKind.u64.wrap n = n % 18446744073709551616 := by
  have hb : IntKind.u64.bits = 64 := rfl
  have hs : IntKind.u64.signed = false := rfl
  unfold IntKind.wrap
  simp only [hb, hs, Bool.false_and, Bool.false_eq_true, if_false]
  rfl
theorem wrap_u32 {n : Int} (h : 0 ≤ n) (h' : n ≤ 4294967295) : IntKind.u32.wrap n = n := by rw [wrap_u32m]; omega
theorem wrap_u64 {n : Int} (h : 0 ≤ n) (h' : n ≤ 18446744073709551615) : IntKind.u64.wrap n = n := by rw [wrap_u64m]; omega

/-- Rows of cells out of a list. -/
def rowL {α : Type} [Inhabited α] (cells : α → List A) (l : List α) : Nat → Nat → A := fun i j => getA (cells (l.getD i default)) j

section
variable {α : Type} [Inhabited α]
theorem getD_lt {l : List α} {i : Nat} (h : i < l.length) : l.getD i default = l[i] := by simp [List.getD, h]
theorem take_snoc {l : List α} {k : Nat} (h : k < l.length) : l.take (k + 1) = l.take k ++ [l.getD k default] := by
  rw [List.take_succ_eq_append_getElem h, getD_lt h]
theorem take_all {l : List α} {k : Nat} (h : l.length ≤ k) : l.take k = l := List.take_of_length_le h
theorem getD_append_left {l m : List α} {i : Nat} (h : i < l.length) : (l ++ m).getD i default = l.getD i default := by
  simp [List.getD, List.getElem?_append_left h]
theorem getD_append_right {l m : List α} {i : Nat} (h : l.length ≤ i) : (l ++ m).getD i default = m.getD (i - l.length) default := by
  simp [List.getD, List.getElem?_append_right h]
theorem rowL_append (cells : α → List A) (l m : List α) (i j : Nat) : (if i < l.length then rowL cells l i j else rowL cells m (i - l.length) j) = rowL cells (l ++ m) i j := by
  unfold rowL
  split
  · rename_i h; rw [getD_append_left h]
  · rename_i h; rw [getD_append_right (by omega)]

/-- The number of the first element with a property; -1 if there is none. -/
def idx (p : α → Bool) (l : List α) : Int := if l.findIdx p < l.length then (l.findIdx p : Int) else -1
theorem idx_found {p : α → Bool} {l : List α} {k : Nat} (h : k < l.length) (hp : p (l.getD k default) = true) (hn : ∀ i, i < k → p (l.getD i default) = false) : idx p l = k := by
  have : l.findIdx p = k := by
    rw [List.findIdx_eq h]
    refine ⟨by rw [← getD_lt h]; exact hp, fun j hj => ?_⟩
    rw [← getD_lt (by omega)]; exact hn j hj
  unfold idx; rw [this, if_pos h]
theorem idx_none {p : α → Bool} {l : List α} (hn : ∀ i, i < l.length → p (l.getD i default) = false) : idx p l = -1 := by
  have : ¬ l.findIdx p < l.length := by
    intro h
    have h1 := List.findIdx_getElem (w := h)
    have h2 := hn _ h
    rw [getD_lt h] at h2
    rw [h1] at h2; cases h2
  unfold idx; rw [if_neg this]
theorem idx_cases (p : α → Bool) (l : List α) : (idx p l = -1 ∧ ∀ x ∈ l, p x = false) ∨ ∃ k, k < l.length ∧ idx p l = (k : Int) ∧ p (l.getD k default) = true ∧ ∀ i, i < k → p (l.getD i default) = false := by
  by_cases h : l.findIdx p < l.length
  · refine .inr ⟨l.findIdx p, h, by unfold idx; rw [if_pos h], ?_, fun i hi => ?_⟩
    · rw [getD_lt h]; exact List.findIdx_getElem (w := h)
    · rw [getD_lt (by omega)]; simpa using List.not_of_lt_findIdx hi
  · refine .inl ⟨by unfold idx; rw [if_neg h], fun x hx => ?_⟩
    have := List.findIdx_lt_length (p := p) (xs := l)
    rw [← Bool.not_eq_true]
    intro hp
    exact h (this.2 ⟨x, hx, hp⟩)
theorem idx_lt (p : α → Bool) (l : List α) : -1 ≤ idx p l ∧ idx p l < l.length := by
  rcases idx_cases p l with ⟨h, _⟩ | ⟨k, hk, h, _⟩ <;> rw [h] <;> omega
theorem idx_neg (p : α → Bool) (l : List α) : idx p l < 0 ↔ l.any p = false := by
  rcases idx_cases p l with ⟨h, h2⟩ | ⟨k, hk, h, h2, _⟩
  · rw [h]; simp; intro x hx; exact h2 x hx
  · rw [h]
    rw [getD_lt hk] at h2
    constructor
    · intro h; omega
    · intro h3
      rw [List.any_eq_false] at h3
      exact absurd h2 (h3 _ (List.getElem_mem hk))
end

theorem ba_inj {a b : ByteArray} : a.toList = b.toList ↔ a = b := by
  constructor
  · intro h
    have : a.data.toList = b.data.toList := by simpa [ByteArray.toList_eq] using h
    cases a; cases b; simp only [ByteArray.mk.injEq]; exact Array.toList_inj.1 this
  · rintro rfl; rfl
/-- lo <= n <= hi -/
def inR (n lo hi : Int) : Bool := decide (lo ≤ n ∧ n ≤ hi)
theorem inR_t {n lo hi : Int} (h : decide (n ≥ lo) = true) : decide (n ≤ hi) = inR n lo hi := by
  simp at h; unfold inR; rw [Bool.eq_iff_iff]; simp; omega
theorem inR_f {n lo hi : Int} (h : decide (n ≥ lo) = false) : false = inR n lo hi := by
  simp at h; unfold inR; rw [Bool.eq_iff_iff]; simp; omega

theorem row_snoc {α : Type} [Inhabited α] {cells : α → List A} {l : List α} {x : α} {c : Nat} {cs : List A} (hcs : cs = cells x) : ∀ i, i < l.length + 1 → ∀ j, j < c → (if i < l.length then rowL cells l i j else getA cs ((i - l.length) * c + j)) = rowL cells (l ++ [x]) i j := by
  intro i hi j hj
  rw [← rowL_append]
  split
  · rfl
  · have : i - l.length = 0 := by omega
    rw [this, hcs]
    simp [rowL]
theorem ren_row {σ : Nat → Nat} {e c m n : Nat} {el' el : Nat → Nat → A} {b : Ob} (h : b = .row e c m el') (hm : m = n) (hel : ∀ i, i < n → ∀ j, j < c → el' i j = el i j) : RenO σ (.row e c n el) b := by
  subst hm; exact ⟨el', h, hel⟩
theorem i64_k {k n : Nat} (h : k < n) (hn : n ≤ 9000000000000000000) : IntKind.i64.wrap ((k : Int) + 1) = ((k + 1 : Nat) : Int) := by
  rw [wrap_i64 (by omega) (by omega)]; omega

/-- Two lists have the same elements, by a test. -/
def sameBy {α : Type} (eqv : α → α → Bool) : List α → List α → Bool
  | [], [] => true
  | a :: l, b :: m => eqv a b && sameBy eqv l m
  | _, _ => false
theorem sameBy_iff {α : Type} {eqv : α → α → Bool} (h : ∀ a b, eqv a b = true ↔ a = b) : ∀ {l m : List α}, sameBy eqv l m = true ↔ l = m
  | [], [] => by simp [sameBy]
  | [], b :: m => by simp [sameBy]
  | a :: l, [] => by simp [sameBy]
  | a :: l, b :: m => by simp [sameBy, h, sameBy_iff h (l := l) (m := m)]
theorem sameBy_f {α : Type} [Inhabited α] {eqv : α → α → Bool} (h : ∀ a b, eqv a b = true ↔ a = b) {l m : List α} {k : Nat} (hk : eqv (l.getD k default) (m.getD k default) = false) : sameBy eqv l m = false := by
  rw [← Bool.not_eq_true, sameBy_iff h]
  rintro rfl
  rw [(h _ _).2 rfl] at hk; cases hk
theorem sameBy_len {α : Type} {eqv : α → α → Bool} (h : ∀ a b, eqv a b = true ↔ a = b) {l m : List α} (hl : l.length ≠ m.length) : sameBy eqv l m = false := by
  rw [← Bool.not_eq_true, sameBy_iff h]
  rintro rfl; exact hl rfl
theorem sameBy_t {α : Type} [Inhabited α] {eqv : α → α → Bool} (h : ∀ a b, eqv a b = true ↔ a = b) {l m : List α} (hl : l.length = m.length) (hk : ∀ k, k < l.length → eqv (l.getD k default) (m.getD k default) = true) : sameBy eqv l m = true := by
  rw [sameBy_iff h]
  refine List.ext_getElem hl fun i h1 h2 => ?_
  have := (h _ _).1 (hk i h1)
  rwa [getD_lt h1, getD_lt h2] at this
theorem row_one {α : Type} [Inhabited α] {cells : α → List A} {x : α} {c : Nat} {cs : List A} (hcs : cs = cells x) : ∀ i, i < 1 → ∀ j, j < c → getA cs (i * c + j) = rowL cells [x] i j := by
  intro i hi j hj
  have : i = 0 := by omega
  subst this
  rw [hcs]; simp [rowL]
theorem flat_getA {cs : List A} (h : allL (flat 3) cs = true) (j : Nat) : flat 3 (getA cs j) = true := by
  induction cs generalizing j with
  | nil => rfl
  | cons a l ih =>
    simp only [allL, Bool.and_eq_true] at h
    cases j with
    | zero => exact h.1
    | succ j => exact ih h.2 j
theorem not_t {b : Bool} (h : (!b) = true) : b = false := by cases b <;> first | rfl | cases h
theorem not_f {b : Bool} (h : (!b) = false) : b = true := by cases b <;> first | rfl | cases h

theorem drop_cons {α : Type} [Inhabited α] {l : List α} {k : Nat} (h : k < l.length) : l.drop k = l.getD k default :: l.drop (k + 1) := by
  rw [List.drop_eq_getElem_cons h, getD_lt h]
theorem drop_end {α : Type} {l : List α} {k : Nat} (h : l.length ≤ k) : l.drop k = [] := List.drop_eq_nil_of_le h
def nC (n : Int) : List A := [.int .i64 n]
def slN (l : List Int) : A := .sl 1 l.length (rowL nC l)
theorem flatN (l : List Int) (i j : Nat) : flat 3 (rowL nC l i j) = true := flat_getA rfl j
theorem memD {α : Type} [Inhabited α] {L : List α} {p : α → Prop} (h : ∀ x ∈ L, p x) {j : Nat} (hj : j < L.length) : p (L.getD j default) := by
  rw [getD_lt hj]; exact h _ (List.getElem_mem _)
theorem getD_setG {α : Type} [Inhabited α] (L : List α) (i : Nat) (x : α) (q : Nat) (hi : i < L.length) : (L.set i x).getD q default = if q = i then x else L.getD q default := by
  simp only [List.getD, List.getElem?_set]
  by_cases h : q = i
  · subst h; simp [hi]
  · rw [if_neg h, if_neg (fun e => h e.symm)]
theorem row_setG {α : Type} [Inhabited α] {cells : α → List A} {c : Nat} (L : List α) (i : Nat) (x : α) (hi : i < L.length) (q j : Nat) (hj : j < c) : (if q = i ∧ 0 ≤ j ∧ j < 0 + c then getA (cells x) (j - 0) else rowL cells L q j) = rowL cells (L.set i x) q j := by
  unfold rowL
  rw [getD_setG _ _ _ _ hi]
  by_cases h : q = i
  · rw [if_pos ⟨h, by omega, by omega⟩, if_pos h]; rfl
  · rw [if_neg (by omega), if_neg h]
theorem i64_s {k n : Nat} (h : k < n) (hn : n ≤ 9000000000000000000) : IntKind.i64.wrap (((k + 1 : Nat) : Int) - 1) = (k : Int) := by
  rw [wrap_i64 (by omega) (by omega)]; omega
end Go.Mb
