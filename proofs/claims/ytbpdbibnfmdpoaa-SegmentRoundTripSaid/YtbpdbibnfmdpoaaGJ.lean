/- The contracts of times, claims and batches of segments. -/
import Derived.Test.YtbpdbibnfmdpoaaGI
set_option linter.unusedSimpArgs false
set_option linter.unusedSectionVars false
set_option linter.unusedVariables false
namespace Go.Proofs.Ytbpdbibnfmdpoaa
open Go.Sy Go.Mb
set_option maxRecDepth 100000
set_option linter.unusedVariables false
set_option maxHeartbeats 4000000

theorem int2_le {r : Int × Int} {a b : Int} (h : r = (a, b)) : LeA (.tup [.int .i64 a, .int .i64 b]) (.tup [.int .i64 r.1, .int .i64 r.2]) := by subst h; exact LeA.refl _
theorem time_ok (r : Int) (s : Seg) : FnOK Try.prog 14 [.int .i64 r, .agg s.cells] (.tup [.int .i64 (timeM r s).1, .int .i64 (timeM r s).2], none) := by
  refine fn_ok CN rfl (by kernel_rfl) Try.func14 rfl ?_
  refine Sat.go (Eq.refl _) (NS.call (gCheck_ok s) rfl ?_)
  refine Sat.go (Eq.refl _) (NS.ite (fun h1 => ?_) (fun h1 => ?_))
  · exact Sat.go (Eq.refl _) (NS.ret rfl rfl (int2_le (by unfold timeM; rw [if_pos h1])))
  have h1 : ¬ (chkG s != 0) = true := by rw [h1]; simp
  refine Sat.go (Eq.refl _) (NS.call (gWithin_ok r 1 1000) rfl ?_)
  refine Sat.go (Eq.refl _) (NS.ite (fun h2 => ?_) (fun h2 => ?_))
  · exact Sat.go (Eq.refl _) (NS.ret rfl rfl (int2_le (by unfold timeM; rw [if_neg h1, if_pos h2])))
  have h2 : ¬ (!inR r 1 1000) = true := by rw [h2]; simp
  refine Sat.go (Eq.refl _) (NS.ite (fun h3 => ?_) (fun h3 => ?_))
  · exact Sat.go (Eq.refl _) (NS.ret rfl rfl (int2_le (by unfold timeM; rw [if_neg h1, if_neg h2, if_pos h3])))
  have h3 : ¬ (s.kind != 1) = true := by rw [h3]; simp
  have hr : inR r 1 1000 = true := by simpa using h2
  have hr := inR_iff.1 hr
  refine Sat.go (Eq.refl _) (NS.need (by simp; omega) ?_)
  exact Sat.go (Eq.refl _) (NS.ret rfl rfl (int2_le (by unfold timeM; rw [if_neg h1, if_neg h2, if_neg h3])))
theorem rTime_ok (r : Int) (s : Seg) : FnOK Try.prog 15 [.int .i64 r, .agg s.cells] (.tup [.int .i64 (timeM r s).1, .int .i64 (timeM r s).2], none) := by
  refine fn_ok CN rfl (by kernel_rfl) Try.func15 rfl ?_
  refine Sat.go (Eq.refl _) (NS.call (rgCheck_ok s) rfl ?_)
  refine Sat.go (Eq.refl _) (NS.ite (fun h1 => ?_) (fun h1 => ?_))
  · exact Sat.go (Eq.refl _) (NS.ret rfl rfl (int2_le (by unfold timeM; rw [if_pos h1])))
  have h1 : ¬ (chkG s != 0) = true := by rw [h1]; simp
  refine Sat.go (Eq.refl _) (NS.call (rgWithin_ok r 1 1000) rfl ?_)
  refine Sat.go (Eq.refl _) (NS.ite (fun h2 => ?_) (fun h2 => ?_))
  · exact Sat.go (Eq.refl _) (NS.ret rfl rfl (int2_le (by unfold timeM; rw [if_neg h1, if_pos h2])))
  have h2 : ¬ (!inR r 1 1000) = true := by rw [h2]; simp
  refine Sat.go (Eq.refl _) (NS.ite (fun h3 => ?_) (fun h3 => ?_))
  · exact Sat.go (Eq.refl _) (NS.ret rfl rfl (int2_le (by unfold timeM; rw [if_neg h1, if_neg h2, if_pos h3])))
  have h3 : ¬ (s.kind != 1) = true := by rw [h3]; simp
  have hr : inR r 1 1000 = true := by simpa using h2
  have hr := inR_iff.1 hr
  refine Sat.go (Eq.refl _) (NS.need (by simp; omega) ?_)
  exact Sat.go (Eq.refl _) (NS.ret rfl rfl (int2_le (by unfold timeM; rw [if_neg h1, if_neg h2, if_neg h3])))
theorem seg2_le {r : Seg × Int} {s : Seg} {e : Int} (h : r = (s, e)) : LeA (.tup [.agg s.cells, .int .i64 e]) (.tup [.agg r.1.cells, .int .i64 r.2]) := by rw [h]; exact LeA.refl _
theorem seg0_le {r : Seg × Int} {e : Int} (h : r = (zeroG, e)) : LeA (.tup [.agg zL, .int .i64 e]) (.tup [.agg r.1.cells, .int .i64 r.2]) := by rw [h]; exact LeA.tup2 zero_le_seg (LeA.refl _)
theorem claim_ok (a b c : Int) (l : List Spn) : FnOK Try.prog 23 [.int .i64 a, .int .i64 b, .int .i64 c, slS l] (.tup [.agg (claimM a b c l).1.cells, .int .i64 (claimM a b c l).2], none) := by
  refine fn_ok CN rfl (by kernel_rfl) Try.func23 rfl ?_
  refine Sat.go (Eq.refl _) (NS.call (gCheck_ok (claimS a b c l)) rfl ?_)
  refine Sat.go (Eq.refl _) (NS.ite (fun h1 => ?_) (fun h1 => ?_))
  · exact Sat.go (Eq.refl _) (NS.ret rfl rfl (seg0_le (by unfold claimM; rw [if_pos h1])))
  have h1 : ¬ (chkG (claimS a b c l) != 0) = true := by rw [h1]; simp
  exact Sat.go (Eq.refl _) (NS.ret rfl rfl (seg2_le (s := claimS a b c l) (by unfold claimM; rw [if_neg h1])))
theorem rClaim_ok (a b c : Int) (l : List Spn) : FnOK Try.prog 24 [.int .i64 a, .int .i64 b, .int .i64 c, slS l] (.tup [.agg (claimM a b c l).1.cells, .int .i64 (claimM a b c l).2], none) := by
  refine fn_ok CN rfl (by kernel_rfl) Try.func24 rfl ?_
  refine Sat.go (Eq.refl _) (NS.call (rgCheck_ok (claimS a b c l)) rfl ?_)
  refine Sat.go (Eq.refl _) (NS.ite (fun h1 => ?_) (fun h1 => ?_))
  · exact Sat.go (Eq.refl _) (NS.ret rfl rfl (seg0_le (by unfold claimM; rw [if_pos h1])))
  have h1 : ¬ (chkG (claimS a b c l) != 0) = true := by rw [h1]; simp
  exact Sat.go (Eq.refl _) (NS.ret rfl rfl (seg2_le (s := claimS a b c l) (by unfold claimM; rw [if_neg h1])))
theorem great_ok (s : Seg) : FnOK Try.prog 10 [.agg s.cells] (.bool (greatG s), none) := by
  refine fn_ok CN rfl (by kernel_rfl) Try.func10 rfl ?_
  refine Sat.go (Eq.refl _) (NS.ite (fun a1 => ?_) (fun a1 => ?_))
  · exact Sat.go (Eq.refl _) (NS.ret rfl rfl (LeA.of (congrArg A.bool (by unfold greatG; rw [show decide ((s.data.size : Int) > 40) = true from a1]; rfl))))
  have a1 : decide ((s.data.size : Int) > 40) = false := a1
  refine Sat.go (Eq.refl _) (NS.ite (fun a2 => ?_) (fun a2 => ?_))
  · have a2 : decide ((s.claims.length : Int) > 60) = true := a2
    refine Sat.go (Eq.refl _) (NS.ite (fun a3 => ?_) (fun a3 => ?_))
    · have a3 : decide ((s.claims.length : Int) ≤ 1000) = true := a3
      exact Sat.go (Eq.refl _) (NS.ret rfl rfl (LeA.of (congrArg A.bool (by unfold greatG; rw [a1, a2, a3]; rfl))))
    · have a3 : decide ((s.claims.length : Int) ≤ 1000) = false := a3
      exact Sat.go (Eq.refl _) (NS.ret rfl rfl (LeA.of (congrArg A.bool (by unfold greatG; rw [a1, a2, a3]; rfl))))
  have a2 : decide ((s.claims.length : Int) > 60) = false := a2
  exact Sat.go (Eq.refl _) (NS.ret rfl rfl (LeA.of (congrArg A.bool (by unfold greatG; rw [a1, a2]; rfl))))
def piecesF (l : List Spn) : A := .fn 80 [.ip 1 (getA [slS l])]
theorem pieces_ok (l : List Spn) : FnOK Try.prog 52 [slS l] (piecesF l, none) := by
  refine fn_ok CN rfl (by kernel_rfl) Try.func52 rfl ?_
  exact Sat.go (Eq.refl _) (NS.ret rfl rfl (LeA.refl _))
end Go.Proofs.Ytbpdbibnfmdpoaa
