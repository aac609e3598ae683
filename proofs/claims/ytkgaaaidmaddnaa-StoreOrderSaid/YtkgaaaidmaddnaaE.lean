/- What the functions of the storage answer, in plain words. -/
import Derived.Test.YtkgaaaidmaddnaaD
set_option linter.unusedSimpArgs false
set_option linter.unusedSectionVars false
set_option linter.unusedVariables false
namespace Go.Mb
open Go.Sy
set_option linter.unusedVariables false

def hasId (id : Nid) (x : Itm) : Bool := x.id.eqv id
theorem hasId_self (x : Itm) : hasId x.id x = true := Nid.eqv_iff.2 rfl
def okItem (x : Itm) : Bool := itemErr x == 0
def badItem (x : Itm) : Bool := !okItem x
theorem recErr_store (x : Itm) : (recErr ⟨1, x, .zero, 0, 0⟩ == 0) = okItem x := by
  unfold recErr okItem
  have h1 : inR 1 1 4 = true := rfl
  have h2 : inR 0 0 1099511627776 = true := rfl
  have h3 : Nid.zero.eqv Nid.zero = true := rfl
  simp only [h1, h2, h3, if_true]
  by_cases h : itemErr x = 0
  · simp [h]
  · have : (itemErr x != 0) = true := by simpa using h
    simp [this]

/-- An id occurs twice. -/
def twiceM (l : List Itm) : Bool := (List.range l.length).any fun i => idx (hasId (l.getD i default).id) l != (i : Int)
theorem idx_le {p : Itm → Bool} {l : List Itm} {k : Nat} (h : k < l.length) (hp : p (l.getD k default) = true) : 0 ≤ idx p l ∧ idx p l ≤ k := by
  rcases idx_cases p l with ⟨_, h2⟩ | ⟨m, hm, e, _, h3⟩
  · have := h2 (l.getD k default) (by rw [getD_lt h]; exact List.getElem_mem h)
    rw [hp] at this; cases this
  · rw [e]
    refine ⟨by omega, ?_⟩
    rcases Nat.lt_or_ge k m with hlt | hge
    · have := h3 k hlt; rw [hp] at this; cases this
    · omega
theorem twice_t {l : List Itm} {k : Nat} (h : k < l.length) (hn : idx (hasId (l.getD k default).id) l ≠ k) : twiceM l = true := by
  unfold twiceM
  rw [List.any_eq_true]
  exact ⟨k, List.mem_range.2 h, by simpa using hn⟩
theorem twice_f {l : List Itm} (hn : ∀ k, k < l.length → idx (hasId (l.getD k default).id) l = k) : twiceM l = false := by
  unfold twiceM
  rw [List.any_eq_false]
  intro i hi
  rw [List.mem_range] at hi
  rw [hn i hi]; simp

/-- How many bytes the items have, as Go adds them up. -/
def usedM (l : List Itm) : Int := l.foldl (fun n x => IntKind.i64.wrap (n + (x.data.size : Int))) 0
theorem used_snoc (l : List Itm) (x : Itm) : usedM (l ++ [x]) = IntKind.i64.wrap (usedM l + (x.data.size : Int)) := by simp [usedM]

def checkM (d : Dur) : Int := if d.items.any badItem || d.inbox.any badItem then 1 else if twiceM d.items || twiceM d.inbox then 6 else 0
def validM (d : Dur) : Bool := d.items.all okItem && d.inbox.all okItem && !twiceM d.items && !twiceM d.inbox
theorem valid_check (d : Dur) : validM d = (checkM d == 0) := by
  have h1 : ∀ l : List Itm, l.any badItem = !l.all okItem := by
    intro l; rw [Bool.eq_iff_iff]; simp [badItem]
  unfold validM checkM
  rw [h1, h1]
  cases d.items.all okItem <;> cases d.inbox.all okItem <;> cases twiceM d.items <;> cases twiceM d.inbox <;> rfl
def checkQ (d : Dur) (quota : Int) : Int := if inR quota 0 1073741824 then (if checkM d != 0 then checkM d else if usedM d.items > quota then 15 else 0) else 2

def putM (d : Dur) (self quota : Int) (x : Itm) (now : Int) : List Jrec × Int × Int :=
  if checkM d != 0 || !okItem x then ([], 0, 1)
  else if !(decide (0 ≤ self) && decide (self < 16) && inR quota 0 1073741824 && inR now 0 1099511627776) then ([], 0, 2)
  else if x.expires ≤ now then ([], 5, 0)
  else if 0 ≤ idx (hasId x.id) d.items ∨ 0 ≤ idx (hasId x.id) d.inbox then ([], 3, 0)
  else if x.dest = self then ([⟨3, x, .zero, 0, now⟩], 2, 0)
  else if IntKind.i64.wrap (usedM d.items + (x.data.size : Int)) > quota then ([], 4, 0)
  else ([⟨1, x, .zero, 0, now⟩], 1, 0)
def removeM (d : Dur) (id : Nid) (now : Int) : List Jrec × Int :=
  if checkM d != 0 then ([], 1)
  else if !inR now 0 1099511627776 then ([], 2)
  else if idx (hasId id) d.items < 0 then ([], 7)
  else ([⟨2, .zero, id, 0, now⟩], 0)
def expRec (now : Int) (x : Itm) : List Jrec := if x.expires ≤ now then [⟨2, .zero, x.id, 0, now⟩] else []
def expRecs (now : Int) (l : List Itm) : List Jrec := l.flatMap (expRec now)
theorem expRecs_snoc (now : Int) (l : List Itm) (x : Itm) : expRecs now (l ++ [x]) = expRecs now l ++ expRec now x := by simp [expRecs]
theorem expRecs_len (now : Int) (l : List Itm) : (expRecs now l).length ≤ l.length := by
  induction l with
  | nil => simp [expRecs]
  | cons x l ih =>
    simp only [expRecs, List.flatMap_cons, List.length_append] at ih ⊢
    have : (expRec now x).length ≤ 1 := by unfold expRec; split <;> simp
    simp only [List.length_cons]; omega
def expireM (d : Dur) (now : Int) : List Jrec × Int :=
  if checkM d != 0 then ([], 1)
  else if !inR now 0 1099511627776 then ([], 2)
  else (expRecs now d.items, 0)

theorem row_snoc {α : Type} [Inhabited α] {cells : α → List A} {l : List α} {x : α} {c : Nat} {cs : List A} (hcs : cs = cells x) : ∀ i, i < l.length + 1 → ∀ j, j < c → (if i < l.length then rowL cells l i j else getA cs ((i - l.length) * c + j)) = rowL cells (l ++ [x]) i j := by
  intro i hi j hj
  rw [← rowL_append]
  split
  · rfl
  · have : i - l.length = 0 := by omega
    rw [this, hcs]
    simp [rowL]
theorem ren_row {σ : Nat → Nat} {e c m n : Nat} {el' el : Nat → Nat → A} {b : Ob} (h : b = .row e c m el') (hm : m = n) (hel : ∀ i, i < n → ∀ j, j < c → el' i j = el i j) : RenO σ (.row e c n el) b := by
  subst hm; exact ⟨el', h, hel⟩
theorem i64_k {k n : Nat} (h : k < n) (hn : n ≤ 9000000000000000000) : IntKind.i64.wrap ((k : Int) + 1) = ((k + 1 : Nat) : Int) := by
  rw [wrap_i64 (by omega) (by omega)]; omega

/-- Two lists have the same elements, by a test. -/
def sameBy {α : Type} (eqv : α → α → Bool) : List α → List α → Bool
  | [], [] => true
  | a :: l, b :: m => eqv a b && sameBy eqv l m
  | _, _ => false
theorem sameBy_iff {α : Type} {eqv : α → α → Bool} (h : ∀ a b, eqv a b = true ↔ a = b) : ∀ {l m : List α}, sameBy eqv l m = true ↔ l = m
  | [], [] => by simp [sameBy]
  | [], b :: m => by simp [sameBy]
  | a :: l, [] => by simp [sameBy]
  | a :: l, b :: m => by simp [sameBy, h, sameBy_iff h (l := l) (m := m)]
theorem sameBy_f {α : Type} [Inhabited α] {eqv : α → α → Bool} (h : ∀ a b, eqv a b = true ↔ a = b) {l m : List α} {k : Nat} (hk : eqv (l.getD k default) (m.getD k default) = false) : sameBy eqv l m = false := by
  rw [← Bool.not_eq_true, sameBy_iff h]
  rintro rfl
  rw [(h _ _).2 rfl] at hk; cases hk
theorem sameBy_len {α : Type} {eqv : α → α → Bool} (h : ∀ a b, eqv a b = true ↔ a = b) {l m : List α} (hl : l.length ≠ m.length) : sameBy eqv l m = false := by
  rw [← Bool.not_eq_true, sameBy_iff h]
  rintro rfl; exact hl rfl
theorem sameBy_t {α : Type} [Inhabited α] {eqv : α → α → Bool} (h : ∀ a b, eqv a b = true ↔ a = b) {l m : List α} (hl : l.length = m.length) (hk : ∀ k, k < l.length → eqv (l.getD k default) (m.getD k default) = true) : sameBy eqv l m = true := by
  rw [sameBy_iff h]
  refine List.ext_getElem hl fun i h1 h2 => ?_
  have := (h _ _).1 (hk i h1)
  rwa [getD_lt h1, getD_lt h2] at this
end Go.Mb
