/- Bundles and blocks in plain words: checks. -/
import Derived.Test.YtdhfgfkfejpfdaaGreatKA
set_option linter.unusedSimpArgs false
set_option linter.unusedSectionVars false
set_option linter.unusedVariables false
namespace Go.Mb
open Go.Sy
set_option linter.unusedVariables false

/-- A bit of flags. -/
def bit (n k : Int) : Bool := decide ((n / k) % 2 = 1)
def okE (x : Eid) : Bool := decide (0 ≤ x.src ∧ x.src ≤ 15 ∧ 0 ≤ x.cre ∧ x.cre ≤ 1099511627776 ∧ 0 ≤ x.seq ∧ x.seq ≤ 1099511627776 ∧ ((x.off = 0 ∧ x.tot = 0) ∨ (1 ≤ x.tot ∧ x.tot ≤ 4096 ∧ 0 ≤ x.off ∧ x.off < x.tot)))
def chkDst (d : Dst) : Int := if d.kind = 1 then (if 0 ≤ d.num ∧ d.num < 16 then 0 else 2) else if d.kind = 2 then (if 0 ≤ d.num ∧ d.num < 8 then 0 else 2) else 8
def okF (b : Bun) : Bool := decide (0 ≤ b.flags ∧ b.flags ≤ 127) && (!(bit b.flags 4 && bit b.flags 64) && !(decide (0 < b.id.tot) && bit b.flags 2))
def chkK (x : Blk) : Int := if x.kind < 1 ∨ 255 < x.kind then 8 else if x.flags < 0 ∨ 15 < x.flags then 2 else if (x.data.size : Int) > 1024 then 4 else 0
/-- The first error of a block. -/
def fstE : List Blk → Int
  | [] => 0
  | x :: l => if chkK x != 0 then chkK x else fstE l
/-- The kinds grow. -/
def ordB : Option Blk → List Blk → Bool
  | _, [] => true
  | none, x :: l => ordB (some x) l
  | some p, x :: l => decide (p.kind < x.kind) && ordB (some x) l
def chkBs (l : List Blk) : Int := if decide ((l.length : Int) > 8) then 4 else if fstE l != 0 then fstE l else if ordB none l then 0 else 9
def chkP (b : Bun) : Int := if (b.pay.size : Int) > 4096 then 4 else if 0 < b.id.tot ∧ ((b.pay.size : Int) < 1 ∨ (b.pay.size : Int) > b.id.tot - b.id.off) then 10 else 0
def chkB (b : Bun) : Int :=
  if okE b.id then
    if chkDst b.dest != 0 then chkDst b.dest else
    if decide (b.life < 1) || decide (b.life > 1099511627776 - b.id.cre) then 2 else
    if decide (b.prio < 0) || decide (b.prio > 2) then 8 else
    if okF b then (if chkBs b.l != 0 then chkBs b.l else chkP b) else 1
  else 2
/-- The error of a list: blocks and order one after the other. -/
def chkA : Option Blk → List Blk → Int
  | _, [] => 0
  | none, x :: l => if chkK x != 0 then chkK x else chkA (some x) l
  | some p, x :: l => if chkK x != 0 then chkK x else if decide (x.kind ≤ p.kind) then 9 else chkA (some x) l
def chkL (l : List Blk) : Int := if decide ((l.length : Int) > 8) then 4 else chkA none l
theorem chkA_some : ∀ {l : List Blk} {p : Option Blk}, chkA p l = 0 ↔ fstE l = 0 ∧ ordB p l = true
  | [], p => by cases p <;> simp [chkA, fstE, ordB]
  | x :: l, none => by
    rw [chkA, fstE, ordB]
    split <;> rename_i h
    · have h : chkK x ≠ 0 := by simpa using h
      exact ⟨fun e => absurd e h, fun e => absurd e.1 h⟩
    · exact chkA_some
  | x :: l, some p => by
    rw [chkA, fstE, ordB]
    split <;> rename_i h
    · have h : chkK x ≠ 0 := by simpa using h
      exact ⟨fun e => absurd e h, fun e => absurd e.1 h⟩
    · split <;> rename_i h2
      · have h2 : x.kind ≤ p.kind := by simpa using h2
        constructor
        · intro e; cases e
        · intro e; exfalso; have := e.2; simp only [Bool.and_eq_true, decide_eq_true_eq] at this; omega
      · have h2 : p.kind < x.kind := by simp at h2; omega
        rw [decide_eq_true h2, Bool.true_and]
        exact chkA_some
theorem chkBs_zero {l : List Blk} : chkBs l = 0 ↔ chkL l = 0 := by
  unfold chkBs chkL
  split
  · rfl
  · rw [chkA_some]
    by_cases h : fstE l = 0
    · rw [h]
      cases ordB none l <;> simp
    · rw [if_pos (by simpa using h)]
      exact ⟨fun e => absurd e h, fun e => absurd e.1 h⟩
/-- Lists of blocks that are valid, in plain words. -/
def GoodL (l : List Blk) : Prop := l.length ≤ 8 ∧ (∀ x ∈ l, chkK x = 0) ∧ l.Pairwise (fun x y => x.kind < y.kind)
theorem fstE_zero : ∀ {l : List Blk}, fstE l = 0 ↔ ∀ x ∈ l, chkK x = 0
  | [] => by simp [fstE]
  | x :: l => by
    rw [fstE]
    split <;> rename_i h
    · have h : chkK x ≠ 0 := by simpa using h
      exact ⟨fun e => absurd e h, fun e => absurd (e x (by simp)) h⟩
    · have h : chkK x = 0 := by simpa using h
      rw [fstE_zero]; simp [h]
theorem ordB_some : ∀ {l : List Blk} {p : Blk}, ordB (some p) l = true ↔ (p :: l).Pairwise (fun x y => x.kind < y.kind)
  | [], p => by simp [ordB]
  | x :: l, p => by
    rw [ordB, Bool.and_eq_true, decide_eq_true_eq, ordB_some, List.pairwise_cons (a := p)]
    constructor
    · rintro ⟨h1, h2⟩
      refine ⟨fun y hy => ?_, h2⟩
      rcases List.mem_cons.1 hy with rfl | hy
      · exact h1
      · have := (List.pairwise_cons.1 h2).1 y hy; omega
    · rintro ⟨h1, h2⟩
      exact ⟨h1 x (by simp), h2⟩
theorem ordB_none {l : List Blk} : ordB none l = true ↔ l.Pairwise (fun x y => x.kind < y.kind) := by
  cases l with
  | nil => simp [ordB]
  | cons x l => rw [ordB, ordB_some]
theorem chkL_zero {l : List Blk} : chkL l = 0 ↔ GoodL l := by
  unfold chkL GoodL
  split <;> rename_i h
  · have h : (l.length : Int) > 8 := of_decide_eq_true h
    constructor
    · intro e; cases e
    · intro e; exfalso; omega
  · have h : ¬ (l.length : Int) > 8 := by simpa using h
    rw [chkA_some, fstE_zero, ordB_none]
    exact ⟨fun e => ⟨by omega, e.1, e.2⟩, fun e => ⟨e.2.1, e.2.2⟩⟩
theorem chkK_zero {x : Blk} : chkK x = 0 ↔ 1 ≤ x.kind ∧ x.kind ≤ 255 ∧ 0 ≤ x.flags ∧ x.flags ≤ 15 ∧ x.data.size ≤ 1024 := by
  unfold chkK
  (repeat' split) <;> omega
/-- Bundles that are valid but for their blocks. -/
def GoodH (b : Bun) : Prop := okE b.id = true ∧ chkDst b.dest = 0 ∧ 1 ≤ b.life ∧ b.life ≤ 1099511627776 - b.id.cre ∧ 0 ≤ b.prio ∧ b.prio ≤ 2 ∧ okF b = true ∧ chkP b = 0
theorem chkB_zero {b : Bun} : chkB b = 0 ↔ GoodH b ∧ GoodL b.l := by
  have hz := chkBs_zero (l := b.l)
  rw [chkL_zero] at hz
  rw [← hz]
  unfold chkB GoodH
  cases okE b.id with
  | false => simp
  | true =>
    rw [if_pos rfl]
    split <;> rename_i h1
    · have h1 : chkDst b.dest ≠ 0 := by simpa using h1
      constructor
      · intro e; exact absurd e h1
      · intro e; exact absurd e.1.2.1 h1
    have h1 : chkDst b.dest = 0 := by simpa using h1
    split <;> rename_i h2
    · simp only [Bool.or_eq_true, decide_eq_true_eq] at h2
      constructor
      · intro e; cases e
      · intro e; exfalso; omega
    simp only [Bool.or_eq_true, decide_eq_true_eq] at h2
    split <;> rename_i h3
    · simp only [Bool.or_eq_true, decide_eq_true_eq] at h3
      constructor
      · intro e; cases e
      · intro e; exfalso; omega
    simp only [Bool.or_eq_true, decide_eq_true_eq] at h3
    cases okF b with
    | false => simp
    | true =>
      rw [if_pos rfl]
      split <;> rename_i h4
      · have h4 : chkBs b.l ≠ 0 := by simpa using h4
        exact ⟨fun e => absurd e h4, fun e => absurd e.2 h4⟩
      · have h4 : chkBs b.l = 0 := by simpa using h4
        exact ⟨fun e => ⟨⟨rfl, h1, by omega, by omega, by omega, by omega, rfl, e⟩, h4⟩, fun e => e.1.2.2.2.2.2.2.2⟩
/-- The program's test of a bit. -/
theorem and_bit {n : Int} (h : 0 ≤ n) (h' : n ≤ 127) : ∀ k : Int, (k = 4 ∨ k = 64 ∨ k = 2) → (IntKind.i64.wrap ((BitVec.ofInt IntKind.i64.bits n &&& BitVec.ofInt IntKind.i64.bits k).toNat : Int) != 0) = bit n k := by
  have key : ∀ m : Fin 128, ∀ k ∈ [4, 64, 2], (IntKind.i64.wrap ((BitVec.ofInt IntKind.i64.bits ((m : Nat) : Int) &&& BitVec.ofInt IntKind.i64.bits k).toNat : Int) != 0) = bit ((m : Nat) : Int) k := by decide +kernel
  intro k hk
  obtain ⟨m, rfl⟩ := Int.eq_ofNat_of_zero_le h
  exact key ⟨m, by omega⟩ k (by rcases hk with rfl | rfl | rfl <;> simp)
/-- The reference's. -/
theorem div_bit {n : Int} (h : 0 ≤ n) (h' : n ≤ 127) : ∀ k : Int, (k = 4 ∨ k = 64 ∨ k = 2) → (((n.tdiv k).tmod 2) == 1) = bit n k := by
  have key : ∀ m : Fin 128, ∀ k ∈ [4, 64, 2], (((((m : Nat) : Int).tdiv k).tmod 2) == 1) = bit ((m : Nat) : Int) k := by decide +kernel
  intro k hk
  obtain ⟨m, rfl⟩ := Int.eq_ofNat_of_zero_le h
  exact key ⟨m, by omega⟩ k (by rcases hk with rfl | rfl | rfl <;> simp)
end Go.Mb
