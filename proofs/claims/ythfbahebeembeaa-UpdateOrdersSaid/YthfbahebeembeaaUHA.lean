/- Valid histories in plain words. -/
import Derived.Test.YthfbahebeembeaaUG
set_option linter.unusedSimpArgs false
set_option linter.unusedSectionVars false
set_option linter.unusedVariables false
namespace Go.Mb
open Go.Sy
set_option linter.unusedVariables false
structure GoodH (n : Int) (l : List Chg) : Prop where
  v : ∀ k, k < l.length → validX n (l.getD k default) = true
  f : ∀ k, k < l.length → folE (optAt l k) (l.getD k default) = 0
theorem chkL_iff {n : Int} : ∀ {l : List Chg} {p : Option Chg}, chkL n p l = 0 ↔ (∀ k, k < l.length → validX n (l.getD k default) = true) ∧ ∀ k, k < l.length → folE (match k with | 0 => p | j + 1 => some (l.getD j default)) (l.getD k default) = 0
  | [], p => by simp [chkL]
  | x :: l, p => by
    rw [chkL]
    constructor
    · intro h
      split at h
      · cases h
      · rename_i h1
        split at h
        · rename_i h2; simp at h2; exact absurd h h2
        · rename_i h2
          obtain ⟨a, b⟩ := chkL_iff.1 h
          refine ⟨fun k hk => ?_, fun k hk => ?_⟩
          · cases k with
            | zero => simpa using h1
            | succ k => exact a k (by simpa using hk)
          · cases k with
            | zero => simpa using h2
            | succ k =>
              have := b k (by simpa using hk)
              cases k with
              | zero => exact this
              | succ k => exact this
    · rintro ⟨a, b⟩
      have a0 : validX n x = true := a 0 (by simp)
      have b0 : folE p x = 0 := b 0 (by simp)
      rw [if_neg (by rw [a0]; simp), if_neg (by rw [b0]; simp)]
      refine chkL_iff.2 ⟨fun k hk => a (k + 1) (by simpa using hk), fun k hk => ?_⟩
      have := b (k + 1) (by simpa using hk)
      cases k with
      | zero => exact this
      | succ k => exact this
theorem good_iff {n : Int} {l : List Chg} : chkL n none l = 0 ↔ GoodH n l := by
  rw [chkL_iff]
  constructor
  · rintro ⟨a, b⟩
    refine ⟨a, fun k hk => ?_⟩
    have := b k hk
    cases k with
    | zero => exact this
    | succ k => exact this
  · rintro ⟨a, b⟩
    refine ⟨a, fun k hk => ?_⟩
    have := b k hk
    cases k with
    | zero => exact this
    | succ k => exact this
theorem ltX_trans {a b c : Chg} (h : ltX a b) (k : ltX b c) : ltX a c := by unfold ltX at *; omega
theorem Nxt.lt {a b : Chg} (h : Nxt a b) : ltX a b := by unfold Nxt at h; unfold ltX; omega
theorem GoodH.nxt {n : Int} {l : List Chg} (g : GoodH n l) {k : Nat} (h : k + 1 < l.length) : Nxt (l.getD k default) (l.getD (k + 1) default) := folE_some.1 (g.f (k + 1) h)
theorem GoodH.lt {n : Int} {l : List Chg} (g : GoodH n l) : ∀ {j i : Nat}, j < l.length → i < j → ltX (l.getD i default) (l.getD j default)
  | 0, i, _, h => absurd h (Nat.not_lt_zero _)
  | j + 1, i, hj, h => by
    have h1 := (g.nxt hj).lt
    by_cases e : i = j
    · rw [e]; exact h1
    · exact ltX_trans (g.lt (by omega) (by omega)) h1
def cntO (l : List Chg) (o : Int) : Nat := (l.filter (fun x => x.org == o)).length
theorem cntO_snoc (l : List Chg) (x : Chg) (o : Int) : cntO (l ++ [x]) o = cntO l o + if x.org == o then 1 else 0 := by
  unfold cntO
  rw [List.filter_append, List.length_append]
  congr 1
  cases h : (x.org == o) <;> simp [List.filter, h]
theorem cntO_le (l : List Chg) (o : Int) : cntO l o ≤ l.length := List.length_filter_le _ _
theorem cntO_zero {l : List Chg} {o : Int} (h : ∀ i, i < l.length → (l.getD i default).org ≠ o) : cntO l o = 0 := by
  unfold cntO
  rw [List.length_eq_zero_iff, List.filter_eq_nil_iff]
  intro x hx
  obtain ⟨i, hi, rfl⟩ := List.getElem_of_mem hx
  have := h i hi
  rw [show l.getD i default = l[i] by simp [List.getD, hi]] at this
  simpa using this
theorem GoodH.cnt {n : Int} {l : List Chg} (g : GoodH n l) : ∀ {k : Nat}, k < l.length → (l.getD k default).cnt = (cntO (l.take k) (l.getD k default).org : Int) + 1
  | 0, h => by
    have := folE_none.1 (g.f 0 h)
    simpa [cntO] using this
  | k + 1, h => by
    have h1 := g.nxt h
    have h2 := g.cnt (k := k) (by omega)
    have h3 := take_snoc (l := l) (k := k) (by omega)
    have h4 := cntO_snoc (l.take k) (l.getD k default) (l.getD (k + 1) default).org
    rw [← h3] at h4
    unfold Nxt at h1
    rcases h1 with ⟨h5, h6⟩ | ⟨h5, h6, _⟩
    · rw [h6, cntO_zero]; rfl
      intro i hi
      have hi2 : i < k + 1 := by rw [List.length_take] at hi; omega
      have h7 := g.lt h hi2
      have e : (l.take (k + 1)).getD i default = l.getD i default := by
        unfold List.getD; rw [List.getElem?_take_of_lt hi2]
      rw [e]
      have h8 : (l.getD i default).org ≤ (l.getD k default).org := by
        by_cases e2 : i = k
        · rw [e2]; exact Int.le_refl _
        · have := g.lt (j := k) (i := i) (by omega) (by omega); unfold ltX at this; omega
      omega
    · rw [if_pos (by simpa using h5)] at h4
      rw [h4, h6, h2, h5]; omega
end Go.Mb
