/- The data of the storage, and what the checks answer, in plain words. -/
import Derived.Test.YtkgaaaidmaddnaaSyX
set_option linter.unusedSimpArgs false
set_option linter.unusedSectionVars false
set_option linter.unusedVariables false
namespace Go.Mb
open Go.Sy
set_option linter.unusedVariables false

/-- Rows of cells out of a list. -/
def rowL {α : Type} [Inhabited α] (cells : α → List A) (l : List α) : Nat → Nat → A := fun i j => getA (cells (l.getD i default)) j

section
variable {α : Type} [Inhabited α]
theorem getD_lt {l : List α} {i : Nat} (h : i < l.length) : l.getD i default = l[i] := by simp [List.getD, h]
theorem take_snoc {l : List α} {k : Nat} (h : k < l.length) : l.take (k + 1) = l.take k ++ [l.getD k default] := by
  rw [List.take_succ_eq_append_getElem h, getD_lt h]
theorem take_all {l : List α} {k : Nat} (h : l.length ≤ k) : l.take k = l := List.take_of_length_le h
theorem getD_append_left {l m : List α} {i : Nat} (h : i < l.length) : (l ++ m).getD i default = l.getD i default := by
  simp [List.getD, List.getElem?_append_left h]
theorem getD_append_right {l m : List α} {i : Nat} (h : l.length ≤ i) : (l ++ m).getD i default = m.getD (i - l.length) default := by
  simp [List.getD, List.getElem?_append_right h]
theorem rowL_append (cells : α → List A) (l m : List α) (i j : Nat) : (if i < l.length then rowL cells l i j else rowL cells m (i - l.length) j) = rowL cells (l ++ m) i j := by
  unfold rowL
  split
  · rename_i h; rw [getD_append_left h]
  · rename_i h; rw [getD_append_right (by omega)]

/-- The number of the first element with a property; -1 if there is none. -/
def idx (p : α → Bool) (l : List α) : Int := if l.findIdx p < l.length then (l.findIdx p : Int) else -1
theorem idx_found {p : α → Bool} {l : List α} {k : Nat} (h : k < l.length) (hp : p (l.getD k default) = true) (hn : ∀ i, i < k → p (l.getD i default) = false) : idx p l = k := by
  have : l.findIdx p = k := by
    rw [List.findIdx_eq h]
    refine ⟨by rw [← getD_lt h]; exact hp, fun j hj => ?_⟩
    rw [← getD_lt (by omega)]; exact hn j hj
  unfold idx; rw [this, if_pos h]
theorem idx_none {p : α → Bool} {l : List α} (hn : ∀ i, i < l.length → p (l.getD i default) = false) : idx p l = -1 := by
  have : ¬ l.findIdx p < l.length := by
    intro h
    have h1 := List.findIdx_getElem (w := h)
    have h2 := hn _ h
    rw [getD_lt h] at h2
    rw [h1] at h2; cases h2
  unfold idx; rw [if_neg this]
theorem idx_cases (p : α → Bool) (l : List α) : (idx p l = -1 ∧ ∀ x ∈ l, p x = false) ∨ ∃ k, k < l.length ∧ idx p l = (k : Int) ∧ p (l.getD k default) = true ∧ ∀ i, i < k → p (l.getD i default) = false := by
  by_cases h : l.findIdx p < l.length
  · refine .inr ⟨l.findIdx p, h, by unfold idx; rw [if_pos h], ?_, fun i hi => ?_⟩
    · rw [getD_lt h]; exact List.findIdx_getElem (w := h)
    · rw [getD_lt (by omega)]; simpa using List.not_of_lt_findIdx hi
  · refine .inl ⟨by unfold idx; rw [if_neg h], fun x hx => ?_⟩
    have := List.findIdx_lt_length (p := p) (xs := l)
    rw [← Bool.not_eq_true]
    intro hp
    exact h (this.2 ⟨x, hx, hp⟩)
theorem idx_lt (p : α → Bool) (l : List α) : -1 ≤ idx p l ∧ idx p l < l.length := by
  rcases idx_cases p l with ⟨h, _⟩ | ⟨k, hk, h, _⟩ <;> rw [h] <;> omega
theorem idx_neg (p : α → Bool) (l : List α) : idx p l < 0 ↔ l.any p = false := by
  rcases idx_cases p l with ⟨h, h2⟩ | ⟨k, hk, h, h2, _⟩
  · rw [h]; simp; intro x hx; exact h2 x hx
  · rw [h]
    rw [getD_lt hk] at h2
    constructor
    · intro h; omega
    · intro h3
      rw [List.any_eq_false] at h3
      exact absurd h2 (h3 _ (List.getElem_mem hk))
end

structure Nid where
  source : Int
  created : Int
  seq : Int
  off : Int
  total : Int
structure Itm where
  ticket : Int
  id : Nid
  dest : Int
  expires : Int
  prio : Int
  custody : Bool
  data : ByteArray
structure Jrec where
  kind : Int
  item : Itm
  id : Nid
  ticket : Int
  time : Int
structure Dur where
  items : List Itm
  inbox : List Itm

def Nid.zero : Nid := ⟨0, 0, 0, 0, 0⟩
def Itm.zero : Itm := ⟨0, .zero, 0, 0, 0, false, ⟨#[]⟩⟩
def Jrec.zero : Jrec := ⟨0, .zero, .zero, 0, 0⟩
instance : Inhabited Nid := ⟨.zero⟩
instance : Inhabited Itm := ⟨.zero⟩
instance : Inhabited Jrec := ⟨.zero⟩

def Nid.cells (x : Nid) : List A := [.int .i64 x.source, .int .i64 x.created, .int .i64 x.seq, .int .i64 x.off, .int .i64 x.total]
def Itm.cells (x : Itm) : List A := [.int .i64 x.ticket, .int .i64 x.id.source, .int .i64 x.id.created, .int .i64 x.id.seq, .int .i64 x.id.off, .int .i64 x.id.total, .int .i64 x.dest, .int .i64 x.expires, .int .i64 x.prio, .bool x.custody, .str x.data]
def Jrec.cells (x : Jrec) : List A := [.int .i64 x.kind, .int .i64 x.item.ticket, .int .i64 x.item.id.source, .int .i64 x.item.id.created, .int .i64 x.item.id.seq, .int .i64 x.item.id.off, .int .i64 x.item.id.total, .int .i64 x.item.dest, .int .i64 x.item.expires, .int .i64 x.item.prio, .bool x.item.custody, .str x.item.data,
  .int .i64 x.id.source, .int .i64 x.id.created, .int .i64 x.id.seq, .int .i64 x.id.off, .int .i64 x.id.total, .int .i64 x.ticket, .int .i64 x.time]
def slI (l : List Itm) : A := .sl 11 l.length (rowL Itm.cells l)
def slR (l : List Jrec) : A := .sl 19 l.length (rowL Jrec.cells l)
def Dur.cells (d : Dur) : List A := [slI d.items, slI d.inbox]

def Nid.eqv (a b : Nid) : Bool := a.source == b.source && (a.created == b.created && (a.seq == b.seq && (a.off == b.off && (a.total == b.total && true))))
def Itm.eqv (a b : Itm) : Bool := a.ticket == b.ticket && (a.id.source == b.id.source && (a.id.created == b.id.created && (a.id.seq == b.id.seq && (a.id.off == b.id.off && (a.id.total == b.id.total && (a.dest == b.dest && (a.expires == b.expires && (a.prio == b.prio && (a.custody == b.custody && (a.data.toList == b.data.toList && true))))))))))
def Jrec.eqv (a b : Jrec) : Bool := a.kind == b.kind && (a.item.ticket == b.item.ticket && (a.item.id.source == b.item.id.source && (a.item.id.created == b.item.id.created && (a.item.id.seq == b.item.id.seq && (a.item.id.off == b.item.id.off && (a.item.id.total == b.item.id.total && (a.item.dest == b.item.dest && (a.item.expires == b.item.expires && (a.item.prio == b.item.prio && (a.item.custody == b.item.custody && (a.item.data.toList == b.item.data.toList && (a.id.source == b.id.source && (a.id.created == b.id.created && (a.id.seq == b.id.seq && (a.id.off == b.id.off && (a.id.total == b.id.total && (a.ticket == b.ticket && (a.time == b.time && true))))))))))))))))))
theorem ba_inj {a b : ByteArray} : a.toList = b.toList ↔ a = b := by
  constructor
  · intro h
    have : a.data.toList = b.data.toList := by simpa [ByteArray.toList_eq] using h
    cases a; cases b; simp only [ByteArray.mk.injEq]; exact Array.toList_inj.1 this
  · rintro rfl; rfl
theorem Nid.eqv_iff {a b : Nid} : a.eqv b = true ↔ a = b := by
  cases a; cases b; simp [Nid.eqv]
theorem Itm.eqv_iff {a b : Itm} : a.eqv b = true ↔ a = b := by
  obtain ⟨t, ⟨i1, i2, i3, i4, i5⟩, d, e, p, c, x⟩ := a
  obtain ⟨t', ⟨i1', i2', i3', i4', i5'⟩, d', e', p', c', x'⟩ := b
  simp only [Itm.eqv, Bool.and_eq_true, beq_iff_eq, ba_inj, Itm.mk.injEq, Nid.mk.injEq, and_true]
  constructor
  · rintro ⟨h1, h2, h3, h4, h5, h6, h7, h8, h9, h10, h11⟩; exact ⟨h1, ⟨h2, h3, h4, h5, h6⟩, h7, h8, h9, h10, h11⟩
  · rintro ⟨h1, ⟨h2, h3, h4, h5, h6⟩, h7, h8, h9, h10, h11⟩; exact ⟨h1, h2, h3, h4, h5, h6, h7, h8, h9, h10, h11⟩
theorem Jrec.eqv_iff {a b : Jrec} : a.eqv b = true ↔ a = b := by
  obtain ⟨k, ⟨t, ⟨i1, i2, i3, i4, i5⟩, d, e, p, c, x⟩, ⟨j1, j2, j3, j4, j5⟩, tk, tm⟩ := a
  obtain ⟨k', ⟨t', ⟨i1', i2', i3', i4', i5'⟩, d', e', p', c', x'⟩, ⟨j1', j2', j3', j4', j5'⟩, tk', tm'⟩ := b
  simp only [Jrec.eqv, Bool.and_eq_true, beq_iff_eq, ba_inj, Jrec.mk.injEq, Itm.mk.injEq, Nid.mk.injEq, and_true]
  constructor
  · rintro ⟨h0, h1, h2, h3, h4, h5, h6, h7, h8, h9, h10, h11, g1, g2, g3, g4, g5, g6, g7⟩; exact ⟨h0, ⟨h1, ⟨h2, h3, h4, h5, h6⟩, h7, h8, h9, h10, h11⟩, ⟨g1, g2, g3, g4, g5⟩, g6, g7⟩
  · rintro ⟨h0, ⟨h1, ⟨h2, h3, h4, h5, h6⟩, h7, h8, h9, h10, h11⟩, ⟨g1, g2, g3, g4, g5⟩, g6, g7⟩; exact ⟨h0, h1, h2, h3, h4, h5, h6, h7, h8, h9, h10, h11, g1, g2, g3, g4, g5, g6, g7⟩

/-- lo <= n <= hi -/
def inR (n lo hi : Int) : Bool := decide (lo ≤ n ∧ n ≤ hi)
theorem inR_t {n lo hi : Int} (h : decide (n ≥ lo) = true) : decide (n ≤ hi) = inR n lo hi := by
  simp at h; unfold inR; rw [Bool.eq_iff_iff]; simp; omega
theorem inR_f {n lo hi : Int} (h : decide (n ≥ lo) = false) : false = inR n lo hi := by
  simp at h; unfold inR; rw [Bool.eq_iff_iff]; simp; omega

def validId (x : Nid) : Bool :=
  inR x.source 0 15 && inR x.created 0 1099511627776 && inR x.seq 0 1099511627776 && ((x.off == 0 && x.total == 0) || (inR x.total 1 4096 && inR x.off 0 (IntKind.i64.wrap (x.total - 1))))
def itemErr (x : Itm) : Int :=
  if validId x.id && inR x.ticket 0 1152921504606846976 && inR x.dest 0 15 && inR x.expires 1 1099511627776 && inR x.prio 0 2 then (if inR x.data.size 1 65536 then 0 else 4) else 2
def recErr (r : Jrec) : Int :=
  if inR r.kind 1 4 then
    (if inR r.time 0 1099511627776 then
      (if r.kind == 1 || r.kind == 3 then
        (if itemErr r.item != 0 then itemErr r.item else if !r.id.eqv .zero || r.ticket != 0 then 1 else 0)
      else if !validId r.id || (r.kind == 4 && !inR r.ticket 0 1152921504606846976) then 2
      else if !r.item.eqv .zero || (r.kind == 2 && r.ticket != 0) then 1 else 0)
    else 2)
  else 8
end Go.Mb
