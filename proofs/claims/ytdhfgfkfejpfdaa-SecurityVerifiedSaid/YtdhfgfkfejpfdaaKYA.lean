/- Deleting elements of a row in place, in plain words. -/
import Derived.Test.YtdhfgfkfejpfdaaKF
set_option linter.unusedSimpArgs false
set_option linter.unusedSectionVars false
set_option linter.unusedVariables false
namespace Go.Mb
open Go.Sy
set_option linter.unusedVariables false
section
variable {α : Type} [Inhabited α]
def keepG (p : α → Bool) (l : List α) : List α := l.filter fun x => !p x
def DelG (p : α → Bool) (l L : List α) (j : Nat) : Prop :=
  L.length = l.length ∧ j ≤ l.length ∧ L.take (keepG p (l.take j)).length = keepG p (l.take j) ∧ ∀ q, j ≤ q → q < l.length → L.getD q default = l.getD q default
theorem keepG_le (p : α → Bool) (l : List α) (j : Nat) : (keepG p (l.take j)).length ≤ j := Nat.le_trans (List.length_filter_le _ _) (by simp; omega)
theorem keepG_snoc {p : α → Bool} {l : List α} {j : Nat} (h : j < l.length) : keepG p (l.take (j + 1)) = keepG p (l.take j) ++ (if p (l.getD j default) then [] else [l.getD j default]) := by
  unfold keepG
  rw [filter_snoc h]
  cases p (l.getD j default) <;> rfl
theorem delG_start {p : α → Bool} {l : List α} {k : Nat} (hk : k < l.length) (hp : p (l.getD k default) = true) (hn : ∀ i, i < k → p (l.getD i default) = false) : DelG p l l (k + 1) ∧ (keepG p (l.take (k + 1))).length = k := by
  have h1 : keepG p (l.take k) = l.take k := by
    unfold keepG
    rw [List.filter_eq_self]
    intro x hx
    obtain ⟨i, hi, rfl⟩ := List.getElem_of_mem hx
    have hik : i < k := by simp at hi; omega
    have := hn i hik
    rw [getD_lt (by omega)] at this
    rw [List.getElem_take, this]; rfl
  have h2 : keepG p (l.take (k + 1)) = l.take k := by rw [keepG_snoc hk, if_pos hp, h1]; simp
  have h3 : (keepG p (l.take (k + 1))).length = k := by rw [h2]; simp; omega
  exact ⟨⟨rfl, hk, by rw [h3, h2], fun _ _ _ => rfl⟩, h3⟩
theorem delG_keep {p : α → Bool} {l L : List α} {j : Nat} (h : DelG p l L j) (hj : j < l.length) (hp : p (l.getD j default) = false) : DelG p l (L.set (keepG p (l.take j)).length (l.getD j default)) (j + 1) := by
  obtain ⟨h1, h2, h3, h4⟩ := h
  have hle := keepG_le p l j
  have hs : keepG p (l.take (j + 1)) = keepG p (l.take j) ++ [l.getD j default] := by rw [keepG_snoc hj, hp]; rfl
  refine ⟨by simp [h1], hj, ?_, fun q hq hql => ?_⟩
  · rw [hs, List.length_append, List.length_singleton, take_snoc (by simp; omega), getD_setG _ _ _ _ (by omega), if_pos rfl, List.take_set_of_le (Nat.le_refl _), h3]
  · rw [getD_setG _ _ _ _ (by omega), if_neg (by omega)]
    exact h4 q (by omega) hql
theorem delG_drop {p : α → Bool} {l L : List α} {j : Nat} (h : DelG p l L j) (hj : j < l.length) (hp : p (l.getD j default) = true) : DelG p l L (j + 1) ∧ keepG p (l.take (j + 1)) = keepG p (l.take j) := by
  obtain ⟨h1, h2, h3, h4⟩ := h
  have hs : keepG p (l.take (j + 1)) = keepG p (l.take j) := by rw [keepG_snoc hj, hp]; simp
  exact ⟨⟨h1, hj, by rw [hs]; exact h3, fun q hq hql => h4 q (by omega) hql⟩, hs⟩
theorem delG_end {p : α → Bool} {l L : List α} (h : DelG p l L l.length) : ∀ q, q < (keepG p l).length → L.getD q default = (keepG p l).getD q default := by
  obtain ⟨h1, h2, h3, h4⟩ := h
  rw [List.take_length] at h3
  have hle : (keepG p l).length ≤ l.length := List.length_filter_le _ _
  intro q hq
  rw [getD_lt (by omega), getD_lt hq]
  have : (L.take (keepG p l).length)[q]'(by simp; omega) = (keepG p l)[q] := by congr 1
  rw [← this, List.getElem_take]
theorem keepG_lt {p : α → Bool} {l : List α} {k : Nat} (hk : k < l.length) (hp : p (l.getD k default) = true) : (keepG p l).length < l.length := by
  unfold keepG
  rw [List.length_filter_lt_length_iff_exists]
  exact ⟨l.getD k default, by rw [getD_lt hk]; exact List.getElem_mem hk, by rw [hp]; simp⟩
theorem keepG_none {p : α → Bool} {l : List α} (h : ∀ x ∈ l, p x = false) : keepG p l = l := by
  unfold keepG
  rw [List.filter_eq_self]
  intro x hx
  rw [h x hx]; rfl
end
end Go.Mb
