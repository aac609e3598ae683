
/- Verify and Signers. -/
import Derived.Test.YtdhfgfkfejpfdaaGreatKI
set_option linter.unusedSimpArgs false
set_option linter.unusedSectionVars false
set_option linter.unusedVariables false
namespace Go.Mb
open Go.Sy
theorem chk0 {b : Bun} (h : ¬ (chkB b != 0) = true) : chkB b = 0 := by simpa using h
end Go.Mb
namespace Go.Proofs.YtdhfgfkfejpfdaaGreat
open Go.Sy Go.Mb
set_option maxRecDepth 100000
set_option linter.unusedVariables false
set_option maxHeartbeats 4000000

theorem checkAll_ok (b : Bun) (n : Int) (key : ByteArray) : FnOK Tryz.prog 13 [.agg b.cells, .int .i64 n, .str key] (.int .i64 (chkAll b n key), none) := by
  unfold chkAll
  refine fn_ok CN rfl (by kernel_rfl) Tryz.func13 rfl ?_
  refine Sat.go (Eq.refl _) (NS.call (checkB_ok b) rfl ?_)
  refine Sat.go (Eq.refl _) (NS.ite (fun h1 => ?_) (fun h1 => ?_))
  · exact Sat.go (Eq.refl _) (NS.ret rfl rfl (LeA.of (congrArg (A.int .i64) (by rw [if_pos h1]))))
  rw [if_neg (by rw [show (chkB b != 0) = false from h1]; simp)]
  have h1 : chkB b = 0 := by simpa using h1
  by_cases h2 : (decide (n < 0) || decide (n ≥ 16)) = true
  · rw [if_pos h2]
    refine Sat.go (Eq.refl _) (NS.ite (fun a => ?_) (fun a => ?_))
    · exact Sat.go (Eq.refl _) (NS.ret rfl rfl (LeA.refl _))
    refine Sat.go (Eq.refl _) (NS.yes (by rw [show decide (n < 0) = false from a, Bool.false_or] at h2; exact h2) ?_)
    exact Sat.go (Eq.refl _) (NS.ret rfl rfl (LeA.refl _))
  rw [if_neg h2]
  simp only [Bool.or_eq_true, not_or] at h2
  refine Sat.go (Eq.refl _) (NS.no (by simpa using h2.1) ?_)
  refine Sat.go (Eq.refl _) (NS.no (by simpa using h2.2) ?_)
  by_cases h3 : ((key.size : Int) != 16) = true
  · rw [if_pos h3]
    refine Sat.go (Eq.refl _) (NS.call (sumE_ok key h3) rfl ?_)
    refine Sat.go (Eq.refl _) (NS.yes (rfl) ?_)
    exact Sat.go (Eq.refl _) (NS.ret rfl rfl (LeA.refl _))
  rw [if_neg h3]
  refine Sat.go (Eq.refl _) (NS.call (sumK_ok key .empty (by simp at h3; omega) (by decide)) rfl ?_)
  refine Sat.go (Eq.refl _) (NS.no (rfl) ?_)
  refine Sat.go (Eq.refl _) (NS.call (scheck_ok b (goodL_of h1)) rfl ?_)
  exact Sat.go (Eq.refl _) (NS.ret rfl rfl (LeA.refl _))
theorem verify_ok (b : Bun) (n : Int) (key : ByteArray) : FnOK Tryz.prog 9 [.agg b.cells, .int .i64 n, .str key] (.int .i64 (verM b n key), none) := by
  unfold verM
  refine fn_ok CN rfl (by kernel_rfl) Tryz.func9 rfl ?_
  refine Sat.go (Eq.refl _) (NS.call (checkAll_ok b n key) rfl ?_)
  refine Sat.go (Eq.refl _) (NS.ite (fun h1 => ?_) (fun h1 => ?_))
  · exact Sat.go (Eq.refl _) (NS.ret rfl rfl (LeA.of (congrArg (A.int .i64) (by rw [if_pos h1]))))
  rw [if_neg (by rw [show (chkAll b n key != 0) = false from h1]; simp)]
  have hp : PA b n key := chkAll_iff.1 (by simpa using h1)
  refine Sat.go (Eq.refl _) (NS.call (sfind_ok b (goodL_of hp.ok.chk) n) rfl ?_)
  refine Sat.go (Eq.refl _) (NS.ite (fun h2 => ?_) (fun h2 => ?_))
  · exact Sat.go (Eq.refl _) (NS.ret rfl rfl (LeA.of (congrArg (A.int .i64) (by rw [if_pos h2]))))
  rw [if_neg (by rw [show (!(fndS (sgB b) n).2) = false from h2]; simp)]
  refine Sat.go (Eq.refl _) (NS.call (sign_ok b hp.ok.chk n hp.rng key hp.key) rfl ?_)
  refine Sat.go (Eq.refl _) (NS.no (rfl) ?_)
  refine Sat.go (Eq.refl _) (NS.ite (fun h3 => ?_) (fun h3 => ?_))
  · exact Sat.go (Eq.refl _) (NS.ret rfl rfl (LeA.of (congrArg (A.int .i64) (by rw [if_pos (show (_ != _) = true from h3)]))))
  exact Sat.go (Eq.refl _) (NS.ret rfl rfl (LeA.of (congrArg (A.int .i64) (by rw [if_neg (by rw [show (_ != _) = false from h3]; simp)]))))
def sgI (x : Sg) : Int := (x.1 : Int)
end Go.Proofs.YtdhfgfkfejpfdaaGreat
