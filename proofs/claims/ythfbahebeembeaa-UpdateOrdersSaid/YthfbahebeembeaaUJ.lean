/- One change more. -/
import Derived.Test.YthfbahebeembeaaUI
set_option linter.unusedSimpArgs false
set_option linter.unusedSectionVars false
set_option linter.unusedVariables false
namespace Go.Mb
open Go.Sy
set_option linter.unusedVariables false
theorem ltb_iff {y x : Chg} : ltb y x = true ↔ ltX y x := by unfold ltb ltX; simp only [Bool.or_eq_true, Bool.and_eq_true, decide_eq_true_eq, beq_iff_eq]
theorem insM_perm (l : List Chg) (x : Chg) : (insM l x).Perm (x :: l) := by
  induction l with
  | nil => exact List.Perm.refl _
  | cons y l ih =>
    unfold insM
    split
    · exact (List.Perm.cons y ih).trans (List.Perm.swap x y l)
    · exact List.Perm.refl _
theorem ltX_irr (a : Chg) : ¬ ltX a a := by unfold ltX; omega
theorem insM_sorted : ∀ {l : List Chg} {x : Chg}, l.Pairwise ltX → (∀ y ∈ l, ltX y x ∨ ltX x y) → (insM l x).Pairwise ltX
  | [], x, _, _ => by simp [insM]
  | y :: l, x, h, hx => by
    obtain ⟨h1, h2⟩ := List.pairwise_cons.1 h
    unfold insM
    split
    · rename_i hb
      have hb := ltb_iff.1 hb
      refine List.pairwise_cons.2 ⟨fun z hz => ?_, insM_sorted h2 fun z hz => hx z (List.mem_cons_of_mem _ hz)⟩
      rcases List.mem_cons.1 ((insM_perm l x).mem_iff.1 hz) with rfl | hz
      · exact hb
      · exact h1 z hz
    · rename_i hb
      have hxy : ltX x y := by
        rcases hx y List.mem_cons_self with h3 | h3
        · exact absurd (ltb_iff.2 h3) hb
        · exact h3
      refine List.pairwise_cons.2 ⟨fun z hz => ?_, h⟩
      rcases List.mem_cons.1 hz with rfl | hz
      · exact hxy
      · exact ltX_trans hxy (h1 z hz)
/-- Sorted rows with the same members, without equal keys, are one. -/
theorem sort_eq {r s : List Chg} (hp : r.Perm s) (hr : r.Pairwise (fun a b => ¬ ltX b a)) (hs : s.Pairwise ltX) : r = s := by
  refine List.Perm.eq_of_pairwise (le := fun a b => ¬ ltX b a) (fun a b ha hb h1 h2 => ?_) hr (hs.imp fun {a b} h h2 => ltX_irr a (ltX_trans h h2)) hp
  have hb' := hb
  obtain ⟨i, hi, e1⟩ := List.getElem_of_mem (hp.mem_iff.1 ha)
  obtain ⟨j, hj, e2⟩ := List.getElem_of_mem hb
  rw [List.pairwise_iff_getElem] at hs
  rcases Nat.lt_trichotomy i j with h | h | h
  · have := hs i j hi hj h; rw [e1, e2] at this; exact absurd this h2
  · subst h; rw [← e1, ← e2]
  · have := hs j i hj hi h; rw [e1, e2] at this; exact absurd this h1
theorem GoodH.sorted {n : Int} {l : List Chg} (g : GoodH n l) : l.Pairwise ltX := by
  rw [List.pairwise_iff_getElem]
  intro i j hi hj hij
  have := g.lt hj hij
  simpa [List.getD, hi, hj] using this
end Go.Mb
namespace Go.Proofs.Ythfbahebeembeaa
open Go.Sy Go.Mb
set_option maxRecDepth 100000
set_option linter.unusedVariables false
set_option maxHeartbeats 4000000
theorem clone_ok (l : List Chg) (hl : l.length ≤ 1000000) : FnOK Try.prog 45 [slChg l] (.own 0, some (.row 52 11 l.length (rowL Chg.cells l))) := by
  refine fn_ok CN rfl (by kernel_rfl) Try.func45 rfl ?_
  refine Sat.go (Eq.refl _) (NS.ite (fun h0 => ?_) (fun h0 => ?_))
  · refine Sat.go (Eq.refl _) (NS.both ?_ ?_)
    · exact Sat.go (Eq.refl _) (NS.retNil (by simpa using h0) rfl rfl)
    · refine Sat.go (Eq.refl _) (NS.need (decide_eq_true (by simp only [maxRow]; omega)) ?_)
      exact Sat.go (Eq.refl _) (NS.retRow 7 rfl rfl (LeA.refl _) ⟨rfl, rfl, by simp, fun i hi j hj => by simp⟩ fun _ _ _ _ => flatChg _ _ _)
  · refine Sat.go (Eq.refl _) (NS.need (decide_eq_true (by simp only [maxRow]; omega)) ?_)
    exact Sat.go (Eq.refl _) (NS.retRow 7 rfl rfl (LeA.refl _) ⟨rfl, rfl, by simp, fun i hi j hj => by simp⟩ fun _ _ _ _ => flatChg _ _ _)
end Go.Proofs.Ythfbahebeembeaa
