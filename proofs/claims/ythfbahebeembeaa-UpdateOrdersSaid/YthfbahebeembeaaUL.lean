/- Put, and the reference's Put. -/
import Derived.Test.YthfbahebeembeaaUK
set_option linter.unusedSimpArgs false
set_option linter.unusedSectionVars false
set_option linter.unusedVariables false
namespace Go.Mb
open Go.Sy
set_option linter.unusedVariables false
def putM (h : His) (o : Int) (c : Ctc) : His × Int :=
  if chkHi h != 0 then (⟨0, []⟩, 1) else if !validX h.nodes (nextM h.l o 1 c) then (⟨0, []⟩, 2) else (⟨h.nodes, insM h.l (nextM h.l o 1 c)⟩, 0)
theorem chkHi_good {h : His} (e : chkHi h = 0) : GoodH h.nodes h.l := by
  unfold chkHi at e
  split at e
  · cases e
  · split at e
    · cases e
    · exact good_iff.1 e
theorem next_ltX {n : Int} {l : List Chg} (g : GoodH n l) (hl : l.length ≤ 1000000) (o kind : Int) (c : Ctc) : ∀ y ∈ l, ltX y (nextM l o kind c) ∨ ltX (nextM l o kind c) y := by
  intro y hy
  obtain ⟨k, hk, rfl⟩ := List.getElem_of_mem hy
  have e : l.getD k default = l[k] := by simp [List.getD, hk]
  have h1 := g.cnt hk
  rw [e] at h1
  have hle := cntO_le l o
  have e1 : (nextM l o kind c).cnt = (cntO l o : Int) + 1 := wrap_i64 (by omega) (by omega)
  have e2 : (nextM l o kind c).org = o := rfl
  unfold ltX
  rw [e1, e2]
  by_cases h : l[k].org = o
  · have h2 := cntO_snoc (l.take k) (l.getD k default) o
    rw [← take_snoc hk, e, if_pos (by simpa using h)] at h2
    have h3 : cntO (l.take (k + 1)) o ≤ cntO l o := ((List.take_sublist (k + 1) l).filter _).length_le
    rw [h] at h1
    omega
  · omega
end Go.Mb
namespace Go.Proofs.Ythfbahebeembeaa
open Go.Sy Go.Mb
set_option maxRecDepth 100000
set_option linter.unusedVariables false
set_option maxHeartbeats 4000000
theorem rPut_ok (h : His) (o : Int) (c : Ctc) (hl : h.l.length ≤ 999) : FnOK Try.prog 14 [.agg h.cells, .int .i64 o, .agg c.cells] (hisR (putM h o c), none) := by
  have h0 : ∀ r, r = putM h o c → FnOK Try.prog 14 [.agg h.cells, .int .i64 o, .agg c.cells] (hisR r, none) := by
    intro r hr
    refine fn_ok CN rfl (by kernel_rfl) Try.func14 rfl ?_
    refine Sat.go (Eq.refl _) (NS.call (rCheck_ok h) rfl ?_)
    refine Sat.go (Eq.refl _) (NS.ite (fun h1 => ?_) (fun h1 => ?_))
    · rw [hr]; unfold putM; rw [if_pos h1]
      exact Sat.go (Eq.refl _) (NS.ret rfl rfl (hisR_le nil_chg))
    have h1 : ¬ (chkHi h != 0) = true := by rw [show (chkHi h != 0) = false from h1]; simp
    refine Sat.go (Eq.refl _) (NS.call (rNext_ok h o 1 c (by omega)) rfl ?_)
    refine Sat.go (Eq.refl _) (NS.call (rValid_ok h.nodes (nextM h.l o 1 c)) rfl ?_)
    refine Sat.go (Eq.refl _) (NS.ite (fun h2 => ?_) (fun h2 => ?_))
    · rw [hr]; unfold putM; rw [if_neg h1, if_pos h2]
      exact Sat.go (Eq.refl _) (NS.ret rfl rfl (hisR_le nil_chg))
    have h2 : ¬ (!validX h.nodes (nextM h.l o 1 c)) = true := by rw [show (!validX h.nodes (nextM h.l o 1 c)) = false from h2]; simp
    refine Sat.go (Eq.refl _) (NS.no (by simp; omega) ?_)
    refine Sat.go (Eq.refl _) (NS.call (insert_ok h.l (nextM h.l o 1 c) (by omega)) rfl ?_)
    rw [hr]; unfold putM; rw [if_neg h1, if_neg h2]
    exact Sat.go (Eq.refl _) (NS.ret rfl rfl (LeA.refl _))
  exact h0 _ rfl
theorem put_ok (h : His) (o : Int) (c : Ctc) (hl : h.l.length ≤ 999) : FnOK Try.prog 13 [.agg h.cells, .int .i64 o, .agg c.cells] (hisR (putM h o c), none) := by
  have h0 : ∀ r, r = putM h o c → FnOK Try.prog 13 [.agg h.cells, .int .i64 o, .agg c.cells] (hisR r, none) := by
    intro r hr
    refine fn_ok CN rfl (by kernel_rfl) Try.func13 rfl ?_
    refine Sat.go (Eq.refl _) (NS.call (check_ok h) rfl ?_)
    refine Sat.go (Eq.refl _) (NS.ite (fun h1 => ?_) (fun h1 => ?_))
    · rw [hr]; unfold putM; rw [if_pos h1]
      exact Sat.go (Eq.refl _) (NS.ret rfl rfl (hisR_le nil_chg))
    have h1 : ¬ (chkHi h != 0) = true := by rw [show (chkHi h != 0) = false from h1]; simp
    have g := chkHi_good (h := h) (by simpa using h1)
    refine Sat.go (Eq.refl _) (NS.call (next_ok h g o 1 c (by omega)) rfl ?_)
    refine Sat.go (Eq.refl _) (NS.call (valid_ok h.nodes (nextM h.l o 1 c)) rfl ?_)
    refine Sat.go (Eq.refl _) (NS.ite (fun h2 => ?_) (fun h2 => ?_))
    · rw [hr]; unfold putM; rw [if_neg h1, if_pos h2]
      exact Sat.go (Eq.refl _) (NS.ret rfl rfl (hisR_le nil_chg))
    have h2 : ¬ (!validX h.nodes (nextM h.l o 1 c)) = true := by rw [show (!validX h.nodes (nextM h.l o 1 c)) = false from h2]; simp
    refine Sat.go (Eq.refl _) (NS.call (with_ok h (nextM h.l o 1 c) g.sorted (next_ltX g (by omega) o 1 c) hl) rfl ?_)
    rw [hr]; unfold putM; rw [if_neg h1, if_neg h2]
    exact Sat.go (Eq.refl _) (NS.ret rfl rfl (LeA.refl _))
  exact h0 _ rfl
end Go.Proofs.Ythfbahebeembeaa
