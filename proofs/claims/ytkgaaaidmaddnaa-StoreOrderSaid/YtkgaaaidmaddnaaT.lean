/- When a storage is valid, in plain words; the effects keep it valid. -/
import Derived.Test.YtkgaaaidmaddnaaN
set_option linter.unusedSimpArgs false
set_option linter.unusedSectionVars false
set_option linter.unusedVariables false
namespace Go.Proofs.Ytkgaaaidmaddnaa
open Go.Sy Go.Mb
set_option linter.unusedVariables false

/-- No id occurs twice. -/
def Uniq (l : List Itm) : Prop := (l.map Itm.id).Pairwise (· ≠ ·)
theorem uniq_get {l : List Itm} : Uniq l ↔ ∀ i j, (hi : i < l.length) → (hj : j < l.length) → i < j → l[i].id ≠ l[j].id := by
  unfold Uniq
  rw [List.pairwise_map, List.pairwise_iff_getElem]
theorem twice_iff (l : List Itm) : twiceM l = false ↔ Uniq l := by
  rw [uniq_get]
  constructor
  · intro h i j hi hj hij e
    have hp : hasId (l.getD j default).id (l.getD i default) = true := by rw [getD_lt hi, getD_lt hj]; exact Nid.eqv_iff.2 e
    have := idx_le hi hp
    have ht : twiceM l = true := twice_t hj (by omega)
    rw [ht] at h; cases h
  · intro h
    refine twice_f fun k hk => idx_found hk (hasId_self _) fun i hi => ?_
    rw [← Bool.not_eq_true, getD_lt hk, getD_lt (by omega)]
    intro e
    exact h i k (by omega) hk hi (Nid.eqv_iff.1 e)
def Good (d : Dur) : Prop := (∀ x ∈ d.items, okItem x = true) ∧ (∀ x ∈ d.inbox, okItem x = true) ∧ Uniq d.items ∧ Uniq d.inbox
theorem good_iff (d : Dur) : checkM d = 0 ↔ Good d := by
  have h := valid_check d
  have h0 : checkM d = 0 ↔ validM d = true := by rw [h]; simp
  rw [h0]
  unfold validM Good
  simp only [Bool.and_eq_true, List.all_eq_true, Bool.not_eq_true', twice_iff, and_assoc]
theorem any_hasId {l : List Itm} {id : Nid} : l.any (hasId id) = false ↔ ∀ x ∈ l, x.id ≠ id := by
  rw [List.any_eq_false]
  constructor
  · intro h x hx e; exact h x hx (Nid.eqv_iff.2 e)
  · intro h x hx e; exact h x hx (Nid.eqv_iff.1 e)
theorem uniq_snoc {l : List Itm} {x : Itm} (h : Uniq l) (hx : l.any (hasId x.id) = false) : Uniq (l ++ [x]) := by
  unfold Uniq at h ⊢
  rw [List.map_append, List.pairwise_append]
  refine ⟨h, by simp, fun a ha b hb => ?_⟩
  obtain ⟨y, hy, rfl⟩ := List.mem_map.1 ha
  obtain rfl : b = x.id := by simpa using hb
  exact any_hasId.1 hx y hy
theorem uniq_with {l : List Itm} {x : Itm} (h : Uniq l) : Uniq (withM l x) := by
  by_cases hx : l.any (hasId x.id) = false
  · rw [withM_new hx]; exact uniq_snoc h hx
  · unfold withM; rw [if_pos]
    · exact h
    · rw [ge_iff_le, ← any_idx]; simpa using hx
theorem mem_with {l : List Itm} {x y : Itm} (h : y ∈ withM l x) : y ∈ l ∨ y = x := by
  unfold withM at h
  split at h
  · exact .inl h
  · simpa using h
theorem uniq_filter {l : List Itm} {p : Itm → Bool} (h : Uniq l) : Uniq (l.filter p) := by
  unfold Uniq at h ⊢
  exact List.Pairwise.sublist ((List.filter_sublist).map _) h
theorem map_modify_id (l : List Itm) (k : Nat) (t : Int) : (l.modify k fun x => { x with ticket := t }).map Itm.id = l.map Itm.id := by
  refine List.ext_getElem (by simp) fun i h1 h2 => ?_
  simp only [List.getElem_map, List.getElem_modify]
  split <;> rfl
theorem uniq_tick {l : List Itm} {id : Nid} {t : Int} (h : Uniq l) : Uniq (setTick l id t) := by
  unfold setTick
  split
  · unfold Uniq; rw [map_modify_id]; exact h
  · exact h
theorem mem_tick {l : List Itm} {id : Nid} {t : Int} {y : Itm} (h : y ∈ setTick l id t) : y ∈ l ∨ ∃ x ∈ l, y = { x with ticket := t } := by
  unfold setTick at h
  split at h
  · obtain ⟨i, hi, rfl⟩ := List.getElem_of_mem h
    rw [List.getElem_modify]
    split
    · exact .inr ⟨_, List.getElem_mem _, rfl⟩
    · exact .inl (List.getElem_mem _)
  · exact .inl h
theorem ok_tick {x : Itm} {t : Int} (h : okItem x = true) (ht : inR t 0 1152921504606846976 = true) : okItem { x with ticket := t } = true := by
  unfold okItem itemErr at h ⊢
  simp only [beq_iff_eq] at h ⊢
  split at h
  · rename_i hc
    simp only [Bool.and_eq_true] at hc
    obtain ⟨⟨⟨⟨h1, h2⟩, h3⟩, h4⟩, h5⟩ := hc
    simp only [h1, ht, h3, h4, h5, Bool.and_true, if_true]
    exact h
  · cases h
/-- A valid record keeps a storage valid. -/
theorem good_eff {d : Dur} {r : Jrec} (hd : Good d) (hr : recErr r = 0) : Good (effM d r) := by
  obtain ⟨h1, h2, h3, h4⟩ := hd
  have hitem : (r.kind = 1 ∨ r.kind = 3) → okItem r.item = true := by
    intro hk
    unfold recErr at hr
    have hb : (r.kind == 1 || r.kind == 3) = true := by simpa using hk
    rw [hb] at hr
    simp only [if_true] at hr
    repeat' split at hr
    all_goals first
      | omega
      | (unfold okItem; rename_i hx _; simpa using hx)
      | (unfold okItem; rename_i hx _ ; simp_all)
  have htick : r.kind = 4 → inR r.ticket 0 1152921504606846976 = true := by
    intro hk
    unfold recErr at hr
    rw [hk] at hr
    have e1 : inR 4 1 4 = true := rfl
    have e2 : ((4 : Int) == 1 || (4 : Int) == 3) = false := rfl
    have e3 : ((4 : Int) == 4) = true := rfl
    simp only [e1, e2, e3, if_true, Bool.true_and] at hr
    by_cases hx : inR r.ticket 0 1152921504606846976 = true
    · exact hx
    · simp only [Bool.not_eq_true] at hx
      rw [hx] at hr
      simp at hr
  unfold effM
  split
  · rename_i hk
    exact ⟨fun y hy => (mem_with hy).elim (h1 y) fun e => e ▸ hitem (.inl hk), h2, uniq_with h3, h4⟩
  split
  · exact ⟨fun y hy => h1 y (List.mem_filter.1 hy).1, h2, uniq_filter h3, h4⟩
  split
  · rename_i hk
    exact ⟨h1, fun y hy => (mem_with hy).elim (h2 y) fun e => e ▸ hitem (.inr hk), h3, uniq_with h4⟩
  split
  · rename_i hk
    refine ⟨fun y hy => ?_, h2, uniq_tick h3, h4⟩
    rcases mem_tick hy with h | ⟨x, hx, rfl⟩
    · exact h1 y h
    · exact ok_tick (h1 x hx) (htick hk)
  · exact ⟨h1, h2, h3, h4⟩
end Go.Proofs.Ytkgaaaidmaddnaa
