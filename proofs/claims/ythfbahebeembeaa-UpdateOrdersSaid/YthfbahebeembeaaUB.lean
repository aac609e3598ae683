/- Histories in plain words: checks. -/
import Derived.Test.YthfbahebeembeaaUA
set_option linter.unusedSimpArgs false
set_option linter.unusedSectionVars false
set_option linter.unusedVariables false
namespace Go.Mb
open Go.Sy
set_option linter.unusedVariables false

def tMax : Int := 1099511627776
def chkC (c : Ctc) : Int := if !inR c.fr 0 15 || (!inR c.to 0 15 || (!inR c.rate 1 1000 || (!inR c.rng 1 1048576 || !inR c.loss 0 16))) then 2 else if c.fr == c.to then 1 else if decide (c.start < 0) || (decide (c.start ≥ c.stop) || decide (c.stop > IntKind.i64.wrap (1099511627776 - IntKind.i64.wrap (2 * c.rng)))) then 2 else 0
/-- The contact with nothing but a name. -/
def nameC (c : Ctc) : Ctc := ⟨c.fr, c.to, c.start, 0, 0, 0, 0⟩
def nm (c : Ctc) : List Int := [c.fr, c.to, c.start]
def inN (nodes n : Int) : Bool := decide (n ≥ 0) && decide (n < nodes)
def validC (nodes : Int) (x : Chg) : Bool :=
  if !inN nodes x.c.fr || !inN nodes x.c.to then false else
  if x.kind == 1 then chkC x.c == 0 else
  if x.kind == 2 then x.c.fr != x.c.to && (decide (x.c.start ≥ 0) && (decide (x.c.start ≤ 1099511627776) && Ctc.eqv x.c (nameC x.c))) else false
def validX (nodes : Int) (x : Chg) : Bool := decide (x.org ≥ 0) && (decide (x.org < nodes) && (decide (x.cnt ≥ 1) && (decide (x.stamp ≥ 1) && (decide (x.stamp ≤ 1099511627776) && validC nodes x))))
/-- Why a change cannot follow another one. -/
def folE : Option Chg → Chg → Int
  | none, x => if x.cnt != 1 then 25 else 0
  | some p, x => if decide (x.org < p.org) || (p.org == x.org && decide (x.cnt ≤ p.cnt)) then 9 else
    if p.org == x.org then (if x.cnt != p.cnt + 1 then 25 else if decide (x.stamp ≤ p.stamp) then 9 else 0) else if x.cnt != 1 then 25 else 0
def chkL (nodes : Int) : Option Chg → List Chg → Int
  | _, [] => 0
  | p, x :: l => if !validX nodes x then 2 else if folE p x != 0 then folE p x else chkL nodes (some x) l
def chkHi (h : His) : Int := if decide (h.nodes < 1) || decide (h.nodes > 16) then 2 else if decide ((h.l.length : Int) > 1000) then 4 else chkL h.nodes none h.l
theorem chkC_in {c : Ctc} (h : chkC c = 0) : 0 ≤ c.fr ∧ c.fr ≤ 15 ∧ 0 ≤ c.to ∧ c.to ≤ 15 ∧ 1 ≤ c.rate ∧ c.rate ≤ 1000 ∧ 1 ≤ c.rng ∧ c.rng ≤ 1048576 ∧ 0 ≤ c.loss ∧ c.loss ≤ 16 ∧ c.fr ≠ c.to ∧ 0 ≤ c.start ∧ c.start < c.stop ∧ c.stop ≤ 1099511627776 - 2 * c.rng := by
  unfold chkC at h
  split at h
  · cases h
  · rename_i h1
    split at h
    · cases h
    · rename_i h2
      split at h
      · cases h
      · rename_i h3
        simp only [Bool.or_eq_true, not_or, Bool.not_eq_true', Bool.not_eq_false, beq_iff_eq, decide_eq_true_eq, inR] at h1 h2 h3
        have e1 : IntKind.i64.wrap (2 * c.rng) = 2 * c.rng := wrap_i64 (by omega) (by omega)
        rw [e1, wrap_i64 (by omega) (by omega)] at h3
        omega
theorem eqv_name (c : Ctc) : Ctc.eqv c (nameC c) = true ↔ c.stop = 0 ∧ c.rate = 0 ∧ c.rng = 0 ∧ c.loss = 0 := by simp [Ctc.eqv, nameC]
theorem validX_iff {nodes : Int} {x : Chg} : validX nodes x = true ↔ (0 ≤ x.org ∧ x.org < nodes ∧ 1 ≤ x.cnt ∧ 1 ≤ x.stamp ∧ x.stamp ≤ 1099511627776) ∧ (0 ≤ x.c.fr ∧ x.c.fr < nodes ∧ 0 ≤ x.c.to ∧ x.c.to < nodes) ∧ ((x.kind = 1 ∧ chkC x.c = 0) ∨ (x.kind = 2 ∧ x.c.fr ≠ x.c.to ∧ 0 ≤ x.c.start ∧ x.c.start ≤ 1099511627776 ∧ x.c.stop = 0 ∧ x.c.rate = 0 ∧ x.c.rng = 0 ∧ x.c.loss = 0)) := by
  unfold validX validC inN
  by_cases hi : (0 ≤ x.c.fr ∧ x.c.fr < nodes) ∧ 0 ≤ x.c.to ∧ x.c.to < nodes
  · rw [if_neg (by simp; omega)]
    by_cases h1 : x.kind = 1
    · rw [if_pos (by simp [h1])]
      simp only [Bool.and_eq_true, decide_eq_true_eq, beq_iff_eq, tMax]
      constructor <;> (intro h; first | exact h.elim | omega)
    · rw [if_neg (by simp [h1])]
      by_cases h2 : x.kind = 2
      · rw [if_pos (by simp [h2])]
        simp only [Bool.and_eq_true, decide_eq_true_eq, beq_iff_eq, bne_iff_ne, eqv_name, tMax]
        constructor <;> (intro h; first | exact h.elim | omega)
      · rw [if_neg (by simp [h2])]
        simp only [Bool.and_eq_true, decide_eq_true_eq, Bool.false_eq_true, and_false]
        constructor <;> (intro h; first | exact h.elim | omega)
  · rw [if_pos (by simp; omega)]
    simp only [Bool.and_eq_true, decide_eq_true_eq, Bool.false_eq_true, and_false]
    constructor <;> (intro h; first | exact h.elim | omega)
/-- Histories that are valid. -/
def ltX (x y : Chg) : Prop := x.org < y.org ∨ (x.org = y.org ∧ x.cnt < y.cnt)
end Go.Mb
