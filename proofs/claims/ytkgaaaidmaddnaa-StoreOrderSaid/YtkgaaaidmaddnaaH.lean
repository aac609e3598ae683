/- The contracts of the effects of records. -/
import Derived.Test.YtkgaaaidmaddnaaG
set_option linter.unusedSimpArgs false
set_option linter.unusedSectionVars false
set_option linter.unusedVariables false
namespace Go.Proofs.Ytkgaaaidmaddnaa
open Go.Sy Go.Mb
set_option maxRecDepth 100000
set_option linter.unusedVariables false
set_option maxHeartbeats 1000000

theorem agg2_le {a b : A} {d : Dur} (h1 : LeA a (slI d.items)) (h2 : LeA b (slI d.inbox)) : LeA (.agg [a, b]) (.agg d.cells) := LeA.agg (.cons h1 (.cons h2 .nil))

theorem eff1_ok (d : Dur) (r : Jrec) (hl : d.items.length ≤ 999999) : FnOK Try.prog 80 [.agg d.cells, .agg r.cells] (.agg (Dur.mk (withM d.items r.item) d.inbox).cells, none) := by
  refine fn_ok CN rfl (by kernel_rfl) Try.func80 rfl ?_
  refine Sat.go (Eq.refl _) (NS.call (with_ok d.items r.item hl) rfl ?_)
  exact Sat.go (Eq.refl _) (NS.ret rfl rfl (LeA.refl _))
theorem eff3_ok (d : Dur) (r : Jrec) (hl : d.inbox.length ≤ 999999) : FnOK Try.prog 85 [.agg d.cells, .agg r.cells] (.agg (Dur.mk d.items (withM d.inbox r.item)).cells, none) := by
  refine fn_ok CN rfl (by kernel_rfl) Try.func85 rfl ?_
  refine Sat.go (Eq.refl _) (NS.call (with_ok d.inbox r.item hl) rfl ?_)
  exact Sat.go (Eq.refl _) (NS.ret rfl rfl (LeA.refl _))
theorem eff2_ok (d : Dur) (r : Jrec) (hl : d.items.length ≤ 999999) : FnOK Try.prog 82 [.agg d.cells, .agg r.cells] (.agg (Dur.mk (d.items.filter (notId r.id)) d.inbox).cells, none) := by
  refine fn_ok CN rfl (by kernel_rfl) Try.func82 rfl ?_
  refine Sat.go (Eq.refl _) (NS.call (others_ok d.items r.id) rfl ?_)
  refine Sat.go (Eq.refl _) (NS.call (collect_ok d.items r.id (by omega)) rfl ?_)
  exact Sat.go (Eq.refl _) (NS.ret rfl rfl (LeA.refl _))

/-- The ticket of the item with an id is set. -/
def setTick (l : List Itm) (id : Nid) (t : Int) : List Itm := if idx (hasId id) l ≥ 0 then l.modify (idx (hasId id) l).toNat (fun x => { x with ticket := t }) else l
theorem getD_modify {α : Type} [Inhabited α] (l : List α) (k : Nat) (f : α → α) (i : Nat) (hi : i < l.length) : (l.modify k f).getD i default = if i = k then f (l.getD i default) else l.getD i default := by
  simp only [List.getD, List.getElem?_modify]
  by_cases h : k = i
  · subst h; simp [hi]
  · have : i ≠ k := fun e => h e.symm
    simp [h, this]
theorem eff4_ok (d : Dur) (r : Jrec) (hl : d.items.length ≤ 999999) : FnOK Try.prog 86 [.agg d.cells, .agg r.cells] (.agg (Dur.mk (setTick d.items r.id r.ticket) d.inbox).cells, none) := by
  have hx := idx_lt (hasId r.id) d.items
  refine fn_ok CN rfl (by kernel_rfl) Try.func86 rfl ?_
  refine Sat.go (Eq.refl _) (NS.call (index_ok d.items r.id (by omega)) rfl ?_)
  refine Sat.go (Eq.refl _) (NS.ite (fun h => ?_) (fun h => ?_))
  · simp only [decide_eq_true_eq] at h
    refine Sat.go (Eq.refl _) (NS.call (clone_ok d.items (by omega)) rfl ?_)
    refine Sat.go (Eq.refl _) (NS.need (decide_eq_true (by omega)) ?_)
    refine Sat.go (Eq.refl _) (NS.need (decide_eq_true (by omega)) ?_)
    refine Sat.go (Eq.refl _) (NS.ret rfl rfl (agg2_le ?_ (LeA.refl _)))
    have hs : setTick d.items r.id r.ticket = d.items.modify (idx (hasId r.id) d.items).toNat (fun x => { x with ticket := r.ticket }) := by unfold setTick; rw [if_pos h]
    simp only [hs]
    refine LeA.sl (by simp) (fun i hi j hj => ?_)
    simp only [rowL, getD_modify _ _ _ _ hi]
    by_cases hik : i = (idx (hasId r.id) d.items).toNat
    · rw [if_pos hik]
      by_cases hj0 : j = 0
      · subst hj0; rw [if_pos ⟨hik, by omega, by omega⟩]; rfl
      · rw [if_neg (by omega)]
        obtain ⟨j, rfl⟩ : ∃ q, j = q + 1 := ⟨j - 1, by omega⟩
        rfl
    · rw [if_neg hik, if_neg (by omega)]
  · simp only [decide_eq_false_iff_not] at h
    refine Sat.go (Eq.refl _) (NS.ret rfl rfl (agg2_le (LeA.of ?_) (LeA.refl _)))
    have hs : setTick d.items r.id r.ticket = d.items := by unfold setTick; rw [if_neg h]
    simp only [hs]; rfl

/-- What a record does. -/
def effM (d : Dur) (r : Jrec) : Dur :=
  if r.kind = 1 then ⟨withM d.items r.item, d.inbox⟩
  else if r.kind = 2 then ⟨d.items.filter (notId r.id), d.inbox⟩
  else if r.kind = 3 then ⟨d.items, withM d.inbox r.item⟩
  else if r.kind = 4 then ⟨setTick d.items r.id r.ticket, d.inbox⟩
  else d
def effF : A := .agg [.opq, .fn 80 [], .fn 82 [], .fn 85 [], .fn 86 []]
theorem effects_ok : FnOK Try.prog 51 [] (effF, none) := by
  refine fn_ok CN rfl (by kernel_rfl) Try.func51 rfl ?_
  exact Sat.go (Eq.refl _) (NS.ret rfl rfl (LeA.refl _))
theorem recErr_kind {r : Jrec} (h : recErr r = 0) : r.kind = 1 ∨ r.kind = 2 ∨ r.kind = 3 ∨ r.kind = 4 := by
  unfold recErr at h
  by_cases hk : inR r.kind 1 4 = true
  · unfold inR at hk; simp at hk; omega
  · rw [if_neg hk] at h; omega
theorem withM_len (l : List Itm) (x : Itm) : (withM l x).length ≤ l.length + 1 := by unfold withM; split <;> simp
theorem setTick_len (l : List Itm) (id : Nid) (t : Int) : (setTick l id t).length = l.length := by unfold setTick; split <;> simp
theorem effM_len (d : Dur) (r : Jrec) : (effM d r).items.length ≤ d.items.length + 1 ∧ (effM d r).inbox.length ≤ d.inbox.length + 1 := by
  have h1 := withM_len d.items r.item
  have h2 := withM_len d.inbox r.item
  have h3 := setTick_len d.items r.id r.ticket
  have h4 := List.length_filter_le (notId r.id) d.items
  unfold effM
  repeat' split
  all_goals (first | omega | (simp only; omega))

def applyM (d : Dur) (r : Jrec) : Dur × Int := if checkM d != 0 || recErr r != 0 then (⟨[], []⟩, 1) else (effM d r, 0)
def durA (r : Dur × Int) : A := .tup [.agg r.1.cells, .int .i64 r.2]
theorem dur_le {r : Dur × Int} {d : Dur} {e : Int} {x : A} (h : r = (d, e)) (hx : LeA x (.agg d.cells)) : LeA (.tup [x, .int .i64 e]) (durA r) := by
  subst h; exact LeA.tup2 hx (LeA.refl _)
theorem nilD : LeA (.agg [.nils, .nils]) (.agg (Dur.mk [] []).cells) := agg2_le (LeA.nil' rfl) (LeA.nil' rfl)
theorem kinds {α : Prop} {k : Int} (h : k = 1 ∨ k = 2 ∨ k = 3 ∨ k = 4) (h1 : k = 1 → α) (h2 : k = 2 → α) (h3 : k = 3 → α) (h4 : k = 4 → α) : α := by
  rcases h with h | h | h | h
  · exact h1 h
  · exact h2 h
  · exact h3 h
  · exact h4 h

theorem apply_ok (d : Dur) (r : Jrec) (h1 : d.items.length ≤ 999999) (h2 : d.inbox.length ≤ 999999) : FnOK Try.prog 18 [.agg d.cells, .agg r.cells] (durA (applyM d r), none) := by
  refine fn_ok CN rfl (by kernel_rfl) Try.func18 rfl ?_
  refine Sat.go (Eq.refl _) (NS.call (checkItems_ok d (by omega) (by omega)) rfl ?_)
  refine Sat.go (Eq.refl _) (NS.ite (fun a1 => ?_) (fun a1 => ?_))
  · refine Sat.go (Eq.refl _) (NS.ret rfl rfl (dur_le ?_ nilD))
    simp only [applyM, a1]; rfl
  refine Sat.go (Eq.refl _) (NS.call (jCheck_ok r) rfl ?_)
  refine Sat.go (Eq.refl _) (NS.ite (fun a2 => ?_) (fun a2 => ?_))
  · refine Sat.go (Eq.refl _) (NS.ret rfl rfl (dur_le ?_ nilD))
    simp only [applyM, a1, a2]; rfl
  have hres : applyM d r = (effM d r, 0) := by simp only [applyM, a1, a2]; rfl
  have hk := recErr_kind (by simpa using a2)
  obtain ⟨k, x, id, tk, tm⟩ := r
  refine Sat.go (Eq.refl _) (NS.chk (by kernel_rfl) ?_)
  refine Sat.go (Eq.refl _) (NS.call effects_ok rfl ?_)
  simp only at hk
  rcases hk with rfl | rfl | rfl | rfl
  · refine Sat.go (Eq.refl _) (NS.no rfl ?_)
    refine Sat.go (Eq.refl _) (NS.yes rfl ?_)
    refine Sat.go (Eq.refl _) (NS.call (eff1_ok d ⟨1, x, id, tk, tm⟩ h1) rfl ?_)
    exact Sat.go (Eq.refl _) (NS.ret rfl rfl (dur_le hres (LeA.refl _)))
  · refine Sat.go (Eq.refl _) (NS.no rfl ?_)
    refine Sat.go (Eq.refl _) (NS.no rfl ?_)
    refine Sat.go (Eq.refl _) (NS.yes rfl ?_)
    refine Sat.go (Eq.refl _) (NS.call (eff2_ok d ⟨2, x, id, tk, tm⟩ h1) rfl ?_)
    exact Sat.go (Eq.refl _) (NS.ret rfl rfl (dur_le hres (LeA.refl _)))
  · refine Sat.go (Eq.refl _) (NS.no rfl ?_)
    refine Sat.go (Eq.refl _) (NS.no rfl ?_)
    refine Sat.go (Eq.refl _) (NS.no rfl ?_)
    refine Sat.go (Eq.refl _) (NS.yes rfl ?_)
    refine Sat.go (Eq.refl _) (NS.call (eff3_ok d ⟨3, x, id, tk, tm⟩ h2) rfl ?_)
    exact Sat.go (Eq.refl _) (NS.ret rfl rfl (dur_le hres (LeA.refl _)))
  · refine Sat.go (Eq.refl _) (NS.no rfl ?_)
    refine Sat.go (Eq.refl _) (NS.no rfl ?_)
    refine Sat.go (Eq.refl _) (NS.no rfl ?_)
    refine Sat.go (Eq.refl _) (NS.no rfl ?_)
    refine Sat.go (Eq.refl _) (NS.yes rfl ?_)
    refine Sat.go (Eq.refl _) (NS.call (eff4_ok d ⟨4, x, id, tk, tm⟩ h1) rfl ?_)
    exact Sat.go (Eq.refl _) (NS.ret rfl rfl (dur_le hres (LeA.refl _)))
end Go.Proofs.Ytkgaaaidmaddnaa
