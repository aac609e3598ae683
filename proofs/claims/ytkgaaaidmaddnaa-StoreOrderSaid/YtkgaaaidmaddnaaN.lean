/- What Put answers, case by case, and what its records do. -/
import Derived.Test.YtkgaaaidmaddnaaM
set_option linter.unusedSimpArgs false
set_option linter.unusedSectionVars false
set_option linter.unusedVariables false
namespace Go.Proofs.Ytkgaaaidmaddnaa
open Go.Sy Go.Mb
set_option linter.unusedVariables false

theorem any_idx {p : Itm → Bool} {l : List Itm} : l.any p = true ↔ 0 ≤ idx p l := by
  have := idx_neg p l
  cases h : l.any p
  · have := this.2 h; simp; omega
  · simp; rw [h] at this; simp at this; exact this
def rangesM (self quota now : Int) : Bool := decide (0 ≤ self) && decide (self < 16) && inR quota 0 1073741824 && inR now 0 1099511627776
/-- The cases of Put. -/
inductive PutC (d : Dur) (self quota : Int) (x : Itm) (now : Int) : List Jrec × Int × Int → Prop
  | bad : (checkM d != 0 || !okItem x) = true → PutC d self quota x now ([], 0, 1)
  | range : checkM d = 0 → okItem x = true → rangesM self quota now = false → PutC d self quota x now ([], 0, 2)
  | expired : checkM d = 0 → okItem x = true → rangesM self quota now = true → x.expires ≤ now → PutC d self quota x now ([], 5, 0)
  | dup : checkM d = 0 → okItem x = true → rangesM self quota now = true → now < x.expires → (d.items.any (hasId x.id) || d.inbox.any (hasId x.id)) = true → PutC d self quota x now ([], 3, 0)
  | deliver : checkM d = 0 → okItem x = true → rangesM self quota now = true → now < x.expires → d.items.any (hasId x.id) = false → d.inbox.any (hasId x.id) = false → PutC d self quota x now ([⟨3, x, .zero, 0, now⟩], 2, 0)
  | full : checkM d = 0 → okItem x = true → rangesM self quota now = true → now < x.expires → d.items.any (hasId x.id) = false → d.inbox.any (hasId x.id) = false → PutC d self quota x now ([], 4, 0)
  | store : checkM d = 0 → okItem x = true → rangesM self quota now = true → now < x.expires → d.items.any (hasId x.id) = false → d.inbox.any (hasId x.id) = false → IntKind.i64.wrap (usedM d.items + (x.data.size : Int)) ≤ quota → PutC d self quota x now ([⟨1, x, .zero, 0, now⟩], 1, 0)
theorem putC (d : Dur) (self quota : Int) (x : Itm) (now : Int) : PutC d self quota x now (putM d self quota x now) := by
  unfold putM
  by_cases h1 : (checkM d != 0 || !okItem x) = true
  · rw [if_pos h1]; exact .bad h1
  rw [if_neg h1]
  have hc : checkM d = 0 := by simp at h1; exact h1.1
  have ho : okItem x = true := by simp at h1; exact h1.2
  by_cases h2 : rangesM self quota now = true
  · rw [if_neg (by unfold rangesM at h2; rw [h2]; simp)]
    by_cases h3 : x.expires ≤ now
    · rw [if_pos h3]; exact .expired hc ho h2 h3
    rw [if_neg h3]
    by_cases h4 : 0 ≤ idx (hasId x.id) d.items ∨ 0 ≤ idx (hasId x.id) d.inbox
    · rw [if_pos h4]; refine .dup hc ho h2 (by omega) ?_
      rw [Bool.or_eq_true, any_idx, any_idx]; exact h4
    rw [if_neg h4]
    have hi : d.items.any (hasId x.id) = false := by rw [← Bool.not_eq_true, any_idx]; omega
    have hb : d.inbox.any (hasId x.id) = false := by rw [← Bool.not_eq_true, any_idx]; omega
    by_cases h5 : x.dest = self
    · rw [if_pos h5]; exact .deliver hc ho h2 (by omega) hi hb
    rw [if_neg h5]
    by_cases h6 : IntKind.i64.wrap (usedM d.items + (x.data.size : Int)) > quota
    · rw [if_pos h6]; exact .full hc ho h2 (by omega) hi hb
    rw [if_neg h6]; exact .store hc ho h2 (by omega) hi hb (by omega)
  · rw [if_pos (by unfold rangesM at h2; simp only [Bool.not_eq_true] at h2; rw [h2]; rfl)]
    exact .range hc ho (by simpa using h2)
theorem withM_new {l : List Itm} {x : Itm} (h : l.any (hasId x.id) = false) : withM l x = l ++ [x] := by
  unfold withM; rw [if_neg]; intro h2; rw [ge_iff_le, ← any_idx, h] at h2; cases h2
theorem itemErr_ok {x : Itm} (h : okItem x = true) : itemErr x = 0 := by unfold okItem at h; simpa using h
theorem now_ok {self quota now : Int} (h : rangesM self quota now = true) : inR now 0 1099511627776 = true := by unfold rangesM at h; simp at h; exact h.2
theorem recErr1 {x : Itm} {now : Int} (h : okItem x = true) (hn : inR now 0 1099511627776 = true) : recErr ⟨1, x, .zero, 0, now⟩ = 0 := by
  have h1 : inR 1 1 4 = true := rfl
  have h3 : Nid.zero.eqv Nid.zero = true := rfl
  simp only [recErr, itemErr_ok h, hn, h1, h3]; rfl
theorem recErr3 {x : Itm} {now : Int} (h : okItem x = true) (hn : inR now 0 1099511627776 = true) : recErr ⟨3, x, .zero, 0, now⟩ = 0 := by
  have h1 : inR 3 1 4 = true := rfl
  have h3 : Nid.zero.eqv Nid.zero = true := rfl
  simp only [recErr, itemErr_ok h, hn, h1, h3]; rfl
theorem apps1 {d : Dur} {r : Jrec} (hd : checkM d = 0) (hr : recErr r = 0) : appsM d [r] = (effM d r, true) := by
  have : applyM d r = (effM d r, 0) := by unfold applyM; rw [hd, hr]; rfl
  simp only [appsM, this]; rfl
theorem app_store {d : Dur} {x : Itm} {now : Int} (hd : checkM d = 0) (ho : okItem x = true) (hn : inR now 0 1099511627776 = true) (hi : d.items.any (hasId x.id) = false) : appsM d [⟨1, x, .zero, 0, now⟩] = (⟨d.items ++ [x], d.inbox⟩, true) := by
  rw [apps1 hd (recErr1 ho hn)]
  simp only [effM, withM_new hi]; rfl
theorem app_deliver {d : Dur} {x : Itm} {now : Int} (hd : checkM d = 0) (ho : okItem x = true) (hn : inR now 0 1099511627776 = true) (hi : d.inbox.any (hasId x.id) = false) : appsM d [⟨3, x, .zero, 0, now⟩] = (⟨d.items, d.inbox ++ [x]⟩, true) := by
  rw [apps1 hd (recErr3 ho hn)]
  simp only [effM, withM_new hi]; rfl
/-- A second Put with an id that is there. -/
theorem put_again {d : Dur} {self quota now : Int} {y : Itm} (hr : rangesM self quota now = true) (h : (d.items.any (hasId y.id) || d.inbox.any (hasId y.id)) = true) :
    putM d self quota y now = ([], 0, 1) ∨ (putM d self quota y now = ([], 5, 0) ∧ y.expires ≤ now) ∨ (putM d self quota y now = ([], 3, 0) ∧ now < y.expires) := by
  have hp := putC d self quota y now
  generalize putM d self quota y now = r at hp ⊢
  cases hp with
  | bad _ => exact .inl rfl
  | range _ _ h2 => rw [hr] at h2; cases h2
  | expired _ _ _ h3 => exact .inr (.inl ⟨rfl, h3⟩)
  | dup _ _ _ h3 _ => exact .inr (.inr ⟨rfl, h3⟩)
  | deliver _ _ _ _ h4 h5 => rw [h4, h5] at h; cases h
  | full _ _ _ _ h4 h5 => rw [h4, h5] at h; cases h
  | store _ _ _ _ h4 h5 _ => rw [h4, h5] at h; cases h
end Go.Proofs.Ytkgaaaidmaddnaa
