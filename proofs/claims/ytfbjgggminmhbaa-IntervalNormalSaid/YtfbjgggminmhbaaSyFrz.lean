/- Rows of the call's own that nobody changes any more. -/
import Derived.Test.YtfbjgggminmhbaaSyX
set_option linter.unusedSimpArgs false
set_option linter.unusedSectionVars false
set_option linter.unusedVariables false
namespace Go.Sy
open Go.RowKit
set_option linter.unusedVariables false

theorem weak_freeze {B : Nat} {st : St} (t id : Nat) {e c n : Nat} {el : Nat → Nat → A} (ht : getA st.tmps t = .own id) (ho : getO st.objs id = .row e c n el) : Weak B st ⟨setL st.tmps t (.sl c n el), setX st.objs id .dead⟩ := by
  intro w0 X a w ρ h
  have hob := h.obj id
  rw [ho] at hob
  have hob2 := hob
  obtain ⟨v, xs, hl, _⟩ := hob2
  let ρ' := upd ρ id .dead
  have hblk : ∀ i b, (ρ' i).block = some b → i ≠ id ∧ (ρ i).block = some b := by
    intro i b hb
    by_cases hid : i = id
    · subst hid; simp only [ρ', upd_same] at hb; cases hb
    · simp only [ρ', upd_ne _ _ _ hid] at hb; exact ⟨hid, hb⟩
  have how : ∀ b, owned ρ' b → owned ρ b := by rintro b ⟨i, hi⟩; exact ⟨i, (hblk i b hi).2⟩
  have hL : Later w w (Ow X ρ) (Ow X ρ') ρ ρ' := ⟨Nat.le_refl _, fun _ _ _ => rfl, fun b _ hb => by
    rcases hb with hb | hb
    · exact .inl hb
    · exact .inr (how b hb), fun i => by
    by_cases hid : i = id
    · subst hid; exact .inr (.inr (upd_same _ _ _))
    · exact .inl (upd_ne _ _ _ hid)⟩
  refine ⟨ρ', ⟨by simp [length_setL, h.len], fun i => ?_, fun i => ?_, fun i j b hi hj => h.dis i j b (hblk i b hi).2 (hblk j b hj).2, h.kept, fun b hb => h.new b (how b hb), h.old, h.dfr⟩, hL.ltB⟩
  · simp only [getA_setL]
    split
    · rename_i hi
      obtain ⟨rfl, _⟩ := hi
      have ht' := h.tmp i
      rw [ht] at ht'
      simp only [R, hl] at ht'
      obtain ⟨hv, _⟩ := ht'
      rw [hv]
      refine row_sl hob hl hL.own (fun b hb => ?_)
      refine ⟨(h.new b ⟨id, hb⟩).2, ?_⟩
      rintro (hx | ⟨j, hj⟩)
      · have h1 := h.old b hx
        have h2 := (h.new b ⟨id, hb⟩).1
        omega
      · obtain ⟨h1, h2⟩ := hblk j b hj
        exact h1 (h.dis j id b h2 hb)
    · exact R.later _ ρ ρ' _ hL (h.tmp i)
  · simp only [getO_setX]
    by_cases hid : i = id
    · subst hid
      rw [if_pos rfl]
      exact upd_same _ _ _
    · rw [if_neg hid]
      simp only [ρ']
      rw [upd_ne _ _ _ hid]
      exact (h.obj i).later hL fun _ _ => rfl

/-- A new row that nobody changes. -/
theorem FnOK.frz {P : Program} {f : FuncId} {args : List A} {e c n : Nat} {el : Nat → Nat → A} (h : FnOK P f args (.own 0, some (.row e c n el))) : FnOK P f args (.sl c n el, none) := by
  refine ⟨h.ent, fun w X vs hX hr => (h.run w X vs hX hr).mono ?_⟩
  rintro e' w' ⟨v, l, h1, h2, h3, h4, h5⟩
  refine ⟨v, .virgin, h1, h2, ?_, rfl, fun b hb => by cases hb⟩
  simp only [R, upd_same] at h3
  have h4' := h4
  obtain ⟨v', xs, hl, _⟩ := h4'
  subst hl
  simp only at h3
  obtain ⟨rfl, _⟩ := h3
  refine row_sl h4 rfl (fun _ _ _ => trivial) (fun b hb => ⟨(h5 b hb).2, ?_⟩)
  rintro (hx | hx)
  · have h1 := hX b hx
    have h2 := (h5 b hb).1
    omega
  · cases hx
end Go.Sy
