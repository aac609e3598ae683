/- The laws of codes of segments. -/
import Derived.Test.YtbpdbibnfmdpoaaGN
import Derived.Test.YtbpdbibnfmdpoaaGL
import Derived.Test.YtbpdbibnfmdpoaaGH
set_option linter.unusedSimpArgs false
set_option linter.unusedSectionVars false
set_option linter.unusedVariables false
namespace Go.Proofs.Ytbpdbibnfmdpoaa
open Go.Sy Go.Mb
set_option maxRecDepth 100000
set_option linter.unusedVariables false
set_option maxHeartbeats 4000000

theorem segmentCodes_ok (s : Seg) (r : Int) (d : ByteArray) : FnOK Try.prog 3 [.agg s.cells, .int .i64 r, .str d] (.bool true, none) := by
  refine fn_ok CN rfl (by kernel_rfl) Try.func3 rfl ?_
  refine Sat.go (Eq.refl _) (NS.call (great_ok s) rfl ?_)
  refine Sat.go (Eq.refl _) (NS.ite (fun h0 => ?_) (fun h0 => ?_))
  · refine Sat.go (Eq.refl _) (NS.call (awake_ok) rfl ?_)
    exact Sat.go (Eq.refl _) (NS.ret rfl rfl (LeA.of (congrArg A.bool (rfl))))
  refine Sat.go (Eq.refl _) (NS.ite (fun h1 => ?_) (fun h1 => ?_))
  · refine Sat.go (Eq.refl _) (NS.call (awake_ok) rfl ?_)
    exact Sat.go (Eq.refl _) (NS.ret rfl rfl (LeA.of (congrArg A.bool (rfl))))
  have h1 : d.size ≤ 2000 := by have h1 : ¬ (d.size : Int) > 2000 := of_decide_eq_false h1
                                omega
  refine Sat.go (Eq.refl _) (NS.call (encode_ok s) rfl ?_)
  refine Sat.go (Eq.refl _) (NS.call (rEncode_ok s) rfl ?_)
  refine Sat.go (Eq.refl _) (NS.call (time_ok r s) rfl ?_)
  refine Sat.go (Eq.refl _) (NS.call (rTime_ok r s) rfl ?_)
  refine Sat.go (Eq.refl _) (NS.call (decode_ok d (by omega)) rfl ?_)
  refine Sat.go (Eq.refl _) (NS.call (rDecode_ok d (by omega)) rfl ?_)
  refine Sat.go (Eq.refl _) (NS.chk (by kernel_rfl) ?_)
  refine Sat.go (Eq.refl _) (NS.call (gCheck_ok s) rfl ?_)
  refine Sat.go (Eq.refl _) (NS.call (rgCheck_ok s) rfl ?_)
  refine Sat.go (Eq.refl _) (NS.yes (beq_self_eq_true _) ?_)
  refine Sat.go (Eq.refl _) (NS.yes (beq_self_eq_true _) ?_)
  refine Sat.go (Eq.refl _) (NS.yes (beq_self_eq_true _) ?_)
  refine Sat.go (Eq.refl _) (NS.yes (beq_self_eq_true _) ?_)
  refine Sat.go (Eq.refl _) (NS.yes (beq_self_eq_true _) ?_)
  refine Sat.go (Eq.refl _) (NS.call (segSame_self (decG (ls d)).1 (by have := decG_claims (ls d); omega)) rfl ?_)
  refine Sat.go (Eq.refl _) (NS.yes (rfl) ?_)
  refine Sat.go (Eq.refl _) (NS.yes (beq_self_eq_true _) ?_)
  refine Sat.go (Eq.refl _) (NS.call (awake_ok) rfl ?_)
  exact Sat.go (Eq.refl _) (NS.ret rfl rfl (LeA.of (congrArg A.bool (rfl))))
theorem segmentBatches_ok (a b c : Int) (d : ByteArray) (l : List Spn) : FnOK Try.prog 6 [.int .i64 a, .int .i64 b, .int .i64 c, .str d, slS l] (.bool true, none) := by
  refine fn_ok CN rfl (by kernel_rfl) Try.func6 rfl ?_
  refine Sat.go (Eq.refl _) (NS.ite (fun h0 => ?_) (fun h0 => ?_))
  · refine Sat.go (Eq.refl _) (NS.call (awake_ok) rfl ?_)
    exact Sat.go (Eq.refl _) (NS.ret rfl rfl (LeA.of (congrArg A.bool (rfl))))
  have h0 : d.size ≤ 300 := by have h0 : ¬ (d.size : Int) > 300 := of_decide_eq_false h0
                               omega
  refine Sat.go (Eq.refl _) (NS.ite (fun h1 => ?_) (fun h1 => ?_))
  · refine Sat.go (Eq.refl _) (NS.call (awake_ok) rfl ?_)
    exact Sat.go (Eq.refl _) (NS.ret rfl rfl (LeA.of (congrArg A.bool (rfl))))
  have h1 : l.length ≤ 40 := by have h1 : ¬ (l.length : Int) > 40 := of_decide_eq_false h1
                                omega
  refine Sat.go (Eq.refl _) (NS.call (batch_ok a b d l) rfl ?_)
  refine Sat.go (Eq.refl _) (NS.call (rBatch_ok a b d l) rfl ?_)
  refine Sat.go (Eq.refl _) (NS.call (claim_ok a b c l) rfl ?_)
  refine Sat.go (Eq.refl _) (NS.call (rClaim_ok a b c l) rfl ?_)
  refine Sat.go (Eq.refl _) (NS.call (sameAll_self (batM a b d l).1 (batM_len a b d l) (batM_claims a b d l)) rfl ?_)
  refine Sat.go (Eq.refl _) (NS.yes (rfl) ?_)
  refine Sat.go (Eq.refl _) (NS.yes (beq_self_eq_true _) ?_)
  refine Sat.go (Eq.refl _) (NS.call (segSame_self (claimM a b c l).1 (claimM_len h1)) rfl ?_)
  refine Sat.go (Eq.refl _) (NS.yes (rfl) ?_)
  refine Sat.go (Eq.refl _) (NS.yes (beq_self_eq_true _) ?_)
  refine Sat.go (Eq.refl _) (NS.call (awake_ok) rfl ?_)
  exact Sat.go (Eq.refl _) (NS.ret rfl rfl (LeA.of (congrArg A.bool (rfl))))
end Go.Proofs.Ytbpdbibnfmdpoaa
