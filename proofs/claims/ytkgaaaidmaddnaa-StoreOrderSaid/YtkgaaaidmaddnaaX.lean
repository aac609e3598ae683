/- Deleting elements of a row in place, in plain words; what the records of Expire and Remove do. -/
import Derived.Test.YtkgaaaidmaddnaaW
set_option linter.unusedSimpArgs false
set_option linter.unusedSectionVars false
set_option linter.unusedVariables false
namespace Go.Proofs.Ytkgaaaidmaddnaa
open Go.Sy Go.Mb
set_option maxRecDepth 100000
set_option linter.unusedVariables false
set_option maxHeartbeats 1000000

def keep (p : Itm → Bool) (l : List Itm) : List Itm := l.filter fun x => !p x
/-- The row after j elements were looked at. -/
def DelInv (p : Itm → Bool) (l L : List Itm) (j : Nat) : Prop :=
  L.length = l.length ∧ j ≤ l.length ∧ L.take (keep p (l.take j)).length = keep p (l.take j) ∧ ∀ q, j ≤ q → q < l.length → L.getD q default = l.getD q default
theorem keep_le (p : Itm → Bool) (l : List Itm) (j : Nat) : (keep p (l.take j)).length ≤ j := Nat.le_trans (List.length_filter_le _ _) (by simp; omega)
theorem keep_snoc {p : Itm → Bool} {l : List Itm} {j : Nat} (h : j < l.length) : keep p (l.take (j + 1)) = keep p (l.take j) ++ (if p (l.getD j default) then [] else [l.getD j default]) := by
  unfold keep
  rw [filter_snoc h]
  cases p (l.getD j default) <;> rfl
theorem del_start {p : Itm → Bool} {l : List Itm} {k : Nat} (hk : k < l.length) (hp : p (l.getD k default) = true) (hn : ∀ i, i < k → p (l.getD i default) = false) : DelInv p l l (k + 1) ∧ (keep p (l.take (k + 1))).length = k := by
  have h1 : keep p (l.take k) = l.take k := by
    unfold keep
    rw [List.filter_eq_self]
    intro x hx
    obtain ⟨i, hi, rfl⟩ := List.getElem_of_mem hx
    have hik : i < k := by simp at hi; omega
    have := hn i hik
    rw [getD_lt (by omega)] at this
    rw [List.getElem_take, this]; rfl
  have h2 : keep p (l.take (k + 1)) = l.take k := by rw [keep_snoc hk, if_pos hp, h1]; simp
  have h3 : (keep p (l.take (k + 1))).length = k := by rw [h2]; simp; omega
  exact ⟨⟨rfl, hk, by rw [h3, h2], fun _ _ _ => rfl⟩, h3⟩
theorem getD_set (L : List Itm) (i q : Nat) (x : Itm) (hi : i < L.length) : (L.set i x).getD q default = if q = i then x else L.getD q default := by
  simp only [List.getD, List.getElem?_set]
  by_cases h : i = q
  · subst h; simp [hi]
  · have : q ≠ i := fun e => h e.symm
    simp [h, this]
theorem del_keep {p : Itm → Bool} {l L : List Itm} {j : Nat} (h : DelInv p l L j) (hj : j < l.length) (hp : p (l.getD j default) = false) : DelInv p l (L.set (keep p (l.take j)).length (l.getD j default)) (j + 1) := by
  obtain ⟨h1, h2, h3, h4⟩ := h
  have hle := keep_le p l j
  have hs : keep p (l.take (j + 1)) = keep p (l.take j) ++ [l.getD j default] := by rw [keep_snoc hj, hp]; rfl
  refine ⟨by simp [h1], hj, ?_, fun q hq hql => ?_⟩
  · rw [hs, List.length_append, List.length_singleton, take_snoc (by simp; omega), getD_set _ _ _ _ (by omega), if_pos rfl, List.take_set_of_le (Nat.le_refl _), h3]
  · rw [getD_set _ _ _ _ (by omega), if_neg (by omega)]
    exact h4 q (by omega) hql
theorem del_drop {p : Itm → Bool} {l L : List Itm} {j : Nat} (h : DelInv p l L j) (hj : j < l.length) (hp : p (l.getD j default) = true) : DelInv p l L (j + 1) ∧ keep p (l.take (j + 1)) = keep p (l.take j) := by
  obtain ⟨h1, h2, h3, h4⟩ := h
  have hs : keep p (l.take (j + 1)) = keep p (l.take j) := by rw [keep_snoc hj, hp]; simp
  exact ⟨⟨h1, hj, by rw [hs]; exact h3, fun q hq hql => h4 q (by omega) hql⟩, hs⟩
theorem del_end {p : Itm → Bool} {l L : List Itm} (h : DelInv p l L l.length) : ∀ q, q < (keep p l).length → L.getD q default = (keep p l).getD q default := by
  obtain ⟨h1, h2, h3, h4⟩ := h
  rw [List.take_length] at h3
  have hle : (keep p l).length ≤ l.length := List.length_filter_le _ _
  intro q hq
  rw [getD_lt (by omega), getD_lt hq]
  have : (L.take (keep p l).length)[q]'(by simp; omega) = (keep p l)[q] := by congr 1
  rw [← this, List.getElem_take]
theorem keep_lt {p : Itm → Bool} {l : List Itm} {k : Nat} (hk : k < l.length) (hp : p (l.getD k default) = true) : (keep p l).length < l.length := by
  unfold keep
  rw [List.length_filter_lt_length_iff_exists]
  exact ⟨l.getD k default, by rw [getD_lt hk]; exact List.getElem_mem hk, by rw [hp]; simp⟩
theorem row_set (L : List Itm) (i : Nat) (x : Itm) (hi : i < L.length) (q j : Nat) (hj : j < 11) : (if q = i ∧ 0 ≤ j ∧ j < 0 + 11 then getA x.cells (j - 0) else rowL Itm.cells L q j) = rowL Itm.cells (L.set i x) q j := by
  unfold rowL
  rw [getD_set _ _ _ _ hi]
  by_cases h : q = i
  · rw [if_pos ⟨h, by omega, by omega⟩, if_pos h]; rfl
  · rw [if_neg (by omega), if_neg h]

/-- The expired items. -/
def expd (now : Int) (x : Itm) : Bool := decide (x.expires ≤ now)
theorem ok_id {x : Itm} (h : okItem x = true) : validId x.id = true := by
  unfold okItem itemErr at h
  simp only [beq_iff_eq] at h
  split at h
  · rename_i hc
    simp only [Bool.and_eq_true] at hc
    exact hc.1.1.1.1
  · cases h
theorem recErr2 {id : Nid} {now : Int} (h : validId id = true) (hn : inR now 0 1099511627776 = true) : recErr ⟨2, .zero, id, 0, now⟩ = 0 := by
  have h1 : inR 2 1 4 = true := rfl
  have h3 : Itm.zero.eqv Itm.zero = true := Itm.eqv_iff.2 rfl
  simp only [recErr, h, hn, h1, h3]; rfl
theorem effs_remove (ids : List Nid) (now : Int) (d : Dur) : effs (ids.map fun i => ⟨2, .zero, i, 0, now⟩) d = ⟨d.items.filter (fun x => ids.all fun i => notId i x), d.inbox⟩ := by
  induction ids generalizing d with
  | nil =>
    have : d.items.filter (fun x => ([] : List Nid).all fun i => notId i x) = d.items := List.filter_eq_self.2 fun _ _ => rfl
    rw [this]; rfl
  | cons i ids ih =>
    have he : effM d ⟨2, .zero, i, 0, now⟩ = ⟨d.items.filter (notId i), d.inbox⟩ := by simp only [effM]; rfl
    have hc : effs ((i :: ids).map fun i => (⟨2, .zero, i, 0, now⟩ : Jrec)) d = effs (ids.map fun i => ⟨2, .zero, i, 0, now⟩) (effM d ⟨2, .zero, i, 0, now⟩) := rfl
    rw [hc, he, ih, List.filter_filter]
    congr 1
    refine List.filter_congr fun x _ => ?_
    simp only [List.all_cons]
    rw [Bool.and_comm]
theorem expRecs_map (now : Int) (l : List Itm) : expRecs now l = ((l.filter (expd now)).map Itm.id).map fun i => ⟨2, .zero, i, 0, now⟩ := by
  induction l with
  | nil => rfl
  | cons x l ih =>
    have hc : expRecs now (x :: l) = expRec now x ++ expRecs now l := rfl
    rw [hc, ih, List.filter_cons]
    unfold expRec expd
    by_cases h : x.expires ≤ now
    · simp [h]
    · simp [h]
theorem mem_uniq {l : List Itm} (hu : Uniq l) {x y : Itm} (hx : x ∈ l) (hy : y ∈ l) (h : x.id = y.id) : x = y := by
  rw [uniq_get] at hu
  obtain ⟨i, hi, rfl⟩ := List.getElem_of_mem hx
  obtain ⟨j, hj, rfl⟩ := List.getElem_of_mem hy
  rcases Nat.lt_trichotomy i j with hlt | heq | hgt
  · exact absurd h (hu i j hi hj hlt)
  · subst heq; rfl
  · exact absurd h.symm (hu j i hj hi hgt)
theorem expired_law {d : Dur} {now : Int} (hd : Good d) : effs (expRecs now d.items) d = ⟨keep (expd now) d.items, d.inbox⟩ := by
  rw [expRecs_map, effs_remove]
  congr 1
  unfold keep
  refine List.filter_congr fun x hx => ?_
  rw [Bool.eq_iff_iff]
  simp only [List.all_eq_true, List.mem_map, List.mem_filter, Bool.not_eq_true']
  constructor
  · intro h
    rw [← Bool.not_eq_true]
    intro he
    have := h x.id ⟨x, ⟨hx, he⟩, rfl⟩
    unfold notId at this
    rw [hasId_self] at this; cases this
  · rintro he i ⟨y, ⟨hy, hye⟩, rfl⟩
    unfold notId
    rw [Bool.not_eq_true', ← Bool.not_eq_true]
    intro h
    have := mem_uniq hd.2.2.1 hx hy (Nid.eqv_iff.1 h)
    subst this
    rw [he] at hye; cases hye
theorem expRecs_ok {d : Dur} {now : Int} (hd : Good d) (hn : inR now 0 1099511627776 = true) : ∀ r ∈ expRecs now d.items, recErr r = 0 := by
  intro r hr
  rw [expRecs_map] at hr
  simp only [List.mem_map, List.mem_filter] at hr
  obtain ⟨i, ⟨x, ⟨hx, _⟩, rfl⟩, rfl⟩ := hr
  exact recErr2 (ok_id (hd.1 x hx)) hn
theorem expRecs_keep (now : Int) (l : List Itm) : expRecs now (keep (expd now) l) = [] := by
  rw [expRecs_map]
  have : (keep (expd now) l).filter (expd now) = [] := by
    unfold keep
    rw [List.filter_filter, List.filter_eq_nil_iff]
    intro x _
    cases expd now x <;> simp
  rw [this]; rfl
end Go.Proofs.Ytkgaaaidmaddnaa
