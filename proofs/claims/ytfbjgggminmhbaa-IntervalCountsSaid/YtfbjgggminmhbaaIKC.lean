/- The walk of IntervalCounts. -/
import Derived.Test.YtfbjgggminmhbaaIJ
set_option linter.unusedSimpArgs false
set_option linter.unusedSectionVars false
set_option linter.unusedVariables false
namespace Go.Proofs.Ytfbjgggminmhbaa
open Go.Sy Go.Mb
set_option maxRecDepth 100000
set_option linter.unusedVariables false
set_option maxHeartbeats 1000000

theorem total_set {l : List Spn} (h : chkS l = 0) : FnOK Try.prog 31 [slS l] (.int .i64 (totL l), none) ∧ 0 ≤ totL l ∧ totL l ≤ 2305843009213693952 := by
  have h1 := total_ok l
  rw [totalM_go (by rw [h]; rfl)] at h1
  have h2 := tot_take h l.length
  rw [take_all (Nat.le_refl _)] at h2
  exact ⟨h1, h2⟩
theorem intervalCounts_ok (a b : List Spn) : FnOK Try.prog 10 [slS a, slS b] (.bool true, none) := by
  refine fn_ok CN rfl (by kernel_rfl) Try.func10 rfl ?_
  refine Sat.go (Eq.refl _) (NS.call (fine2_ok a b rfl rfl) rfl ?_)
  refine Sat.go (Eq.refl _) (NS.ite (fun h0 => ?_) (fun h0 => ?_))
  · refine Sat.go (Eq.refl _) (NS.call awake_ok rfl ?_)
    exact Sat.go (Eq.refl _) (NS.ret rfl rfl (LeA.of rfl))
  obtain ⟨ba, bb⟩ := or_f (not_f h0)
  obtain ⟨ca, la⟩ := bad1_f ba
  obtain ⟨cb, lb⟩ := bad1_f bb
  obtain ⟨_, sa⟩ := (chkS_zero a).1 ca
  obtain ⟨_, sb⟩ := (chkS_zero b).1 cb
  obtain ⟨u1, u2, u3, _⟩ := Union_set ca cb (by omega)
  obtain ⟨i1, i2, i3, _⟩ := Intersect_set ca cb (by omega)
  obtain ⟨m1, m2, m3, _⟩ := Minus_set ca cb (by omega)
  generalize combL fU a b = u at u1 u2 u3
  generalize combL fI a b = i at i1 i2 i3
  generalize combL fM a b = m at m1 m2 m3
  obtain ⟨_, su⟩ := (chkS_zero u).1 u2
  obtain ⟨_, si⟩ := (chkS_zero i).1 i2
  obtain ⟨_, sm⟩ := (chkS_zero m).1 m2
  have e1 := tot_eq su si sa sb fun t => by rw [u3, i3]; cases hasL a t <;> cases hasL b t <;> rfl
  have e2 := tot_eq sm si sa set_nil fun t => by rw [m3, i3]; cases hasL a t <;> cases hasL b t <;> rfl
  rw [show totL [] = 0 from rfl, Int.add_zero] at e2
  obtain ⟨ta, ta1, ta2⟩ := total_set ca
  obtain ⟨tb, tb1, tb2⟩ := total_set cb
  obtain ⟨tu, tu1, tu2⟩ := total_set u2
  obtain ⟨ti, ti1, ti2⟩ := total_set i2
  obtain ⟨tm, tm1, tm2⟩ := total_set m2
  refine Sat.go (Eq.refl _) (NS.call u1 rfl ?_)
  refine Sat.go (Eq.refl _) (NS.call i1 rfl ?_)
  refine Sat.go (Eq.refl _) (NS.call m1 rfl ?_)
  refine Sat.go (Eq.refl _) (NS.no rfl ?_)
  refine Sat.go (Eq.refl _) (NS.no rfl ?_)
  refine Sat.go (Eq.refl _) (NS.no rfl ?_)
  refine Sat.go (Eq.refl _) (NS.call tu rfl ?_)
  refine Sat.go (Eq.refl _) (NS.call ti rfl ?_)
  refine Sat.go (Eq.refl _) (NS.call ta rfl ?_)
  refine Sat.go (Eq.refl _) (NS.call tb rfl ?_)
  refine Sat.go (Eq.refl _) (NS.yes (beq_iff_eq.2 (by rw [e1])) ?_)
  refine Sat.go (Eq.refl _) (NS.call tm rfl ?_)
  refine Sat.go (Eq.refl _) (NS.call ti rfl ?_)
  refine Sat.go (Eq.refl _) (NS.call ta rfl ?_)
  refine Sat.go (Eq.refl _) (NS.yes (beq_iff_eq.2 (by rw [e2, wrap_i64 (by omega) (by omega)])) ?_)
  refine Sat.go (Eq.refl _) (NS.call awake_ok rfl ?_)
  exact Sat.go (Eq.refl _) (NS.ret rfl rfl (LeA.of rfl))
end Go.Proofs.Ytfbjgggminmhbaa
