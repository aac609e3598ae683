import Derived.Test.YthfbahebeembeaaSyE
import Derived.Shelf.Spec.SlicesGrow
set_option linter.unusedSimpArgs false
set_option linter.unusedSectionVars false
set_option linter.unusedVariables false
/- slices.Grow of nil, by the kit's contract. -/
namespace Go.Sy
set_option maxRecDepth 10000
open Go.RowKit Go.Proofs Go.Shelf
set_option linter.unusedVariables false

theorem growN_ok {P : Program} {ρ : Ren} (L : Lays8.n4 P ρ) (hent : entB P (ρ.f 4) = true) {i0 : TypeInfo} {z : Value} (hi0 : P.info? (ρ.t 25) = some i0) (hz0 : i0.zero = some z) (hzs : z.cells.size = i0.size) (hs0 : 0 < i0.size) (n : Nat) (hn : n * (i0.bytes + 1) ≤ maxRow) (el : Nat → Nat → A) :
    FnOK P (ρ.f 4) [.nils, .int .i64 n] (.own 0, some (.row (ρ.t 25) i0.size 0 el)) := by
  have hb : n * i0.bytes ≤ 140737488355328 ∧ n ≤ 1099511627776 := by
    unfold maxRow at hn
    rw [Nat.mul_add, Nat.mul_one] at hn
    omega
  refine ⟨hent, fun w X vs hX hr => ?_⟩
  simp only [RL, R] at hr
  obtain ⟨v1, _, rfl, rfl, v2, _, rfl, rfl, rfl⟩ := hr
  by_cases h0 : n = 0
  · subst h0
    refine (Any8.slices_Grow_room L none 0 0 0 w (by omega) (by omega) (by omega) (by omega)).mono ?_
    rintro e w' ⟨rfl, rfl⟩
    refine ⟨_, .row (.slice none 0 0), rfl, Bel.refl _ _, ?_, ⟨_, [], rfl, ⟨by simp, .inl ⟨rfl, _, rfl⟩⟩, by simp, fun i hi => by omega⟩, fun b hb => by cases hb⟩
    simp only [R, upd_same]
    exact ⟨trivial, _, _, _, rfl⟩
  · have h63 := grownCap_le_maxLen w (0 + n) 0 (ρ.t 25) (by unfold maxLen; omega)
    have hge : 0 + n ≤ grownCap w (0 + n) 0 (ρ.t 25) := grownCap_ge w _ _ _
    refine (Any8.slices_Grow_grow L i0 z hi0 hz0 hs0 none 0 0 n [] w (by omega) (by omega) (by rw [Nat.zero_add]; exact hb.1) (by omega) (by simp) (fun _ => rfl) (by intro a h; cases h)).mono ?_
    generalize grownCap w (0 + n) 0 (ρ.t 25) = G at h63 hge
    rintro e w' ⟨rfl, rfl⟩
    have hlen : (w.drew).heap.size = w.heap.size := rfl
    have hG : G = (G - 1) + 1 := by omega
    refine ⟨_, .row (.slice (some ⟨w.heap.size, 0, none⟩) 0 G), rfl, ?_, ?_, ⟨_, [], rfl, ⟨by simp, .inr ⟨w.heap.size, G - 1, _, by rw [← hG], ⟨(0, 0), Array.getElem?_push_size, .inr rfl⟩, by omega, by omega, ?_, by simp⟩⟩, by simp, fun i hi => by omega⟩, fun b hb => ?_⟩
    · have hd : Bel w.heap.size w w.drew := ⟨rfl, rfl, rfl, Nat.le_refl _, fun _ _ => rfl, Nat.le_succ _⟩
      exact hd.alloc (Nat.le_refl _) _
    · simp only [R, upd_same]
      exact ⟨trivial, _, _, _, rfl⟩
    · simp only [Array.size_append, List.size_toArray, List.length_nil, size_zeroCells, hzs, Nat.zero_add, Nat.sub_zero]
      rw [← Nat.add_mul]; congr 1; omega
    · rw [hG] at hb
      simp only [Loc.block, rowB, Option.some.injEq] at hb
      subst hb
      exact ⟨Nat.le_refl _, by simp [World.alloc]⟩
end Go.Sy
