/- The law of claims of segments. -/
import Derived.Test.YtbpdbibnfmdpoaaGN
set_option linter.unusedSimpArgs false
set_option linter.unusedSectionVars false
set_option linter.unusedVariables false
namespace Go.Mb
open Go.Sy
theorem claim_iff (a b c : Int) (l : List Spn) : chkG (claimS a b c l) = 0 ↔ (0 ≤ a ∧ a ≤ tMax) ∧ (1 ≤ b ∧ b ≤ tMax) ∧ (1 ≤ c ∧ c ≤ 65536) ∧ insideM l c = true := by
  rw [chkG_zero]
  have e1 : inR (claimS a b c l).kind 1 3 = true := rfl
  have e2 : numG (claimS a b c l) = (inR a 0 tMax && (inR b 0 tMax && (decide (b ≥ 1) && (inR c 1 65536 && true)))) := rfl
  have e3 : othG (claimS a b c l) = insideM l c := by show (noData (claimS a b c l) && insideM l c) = _; rw [show noData (claimS a b c l) = true from rfl, Bool.true_and]
  rw [e1, e2, e3]
  simp only [inR, Bool.and_eq_true, decide_eq_true_eq, and_true, true_and]
  have : tMax = 1099511627776 := rfl
  constructor
  · rintro ⟨⟨h1, h2, h3, h4⟩, h5⟩; exact ⟨h1, by omega, h4, h5⟩
  · rintro ⟨h1, h2, h3, h4⟩; exact ⟨⟨h1, by omega, by omega, h3⟩, h4⟩
end Go.Mb
namespace Go.Proofs.Ytbpdbibnfmdpoaa
open Go.Sy Go.Mb
set_option maxRecDepth 100000
set_option linter.unusedVariables false
set_option maxHeartbeats 4000000

theorem segmentClaims_ok (a b c : Int) (l : List Spn) : FnOK Try.prog 7 [.int .i64 a, .int .i64 b, .int .i64 c, slS l] (.bool true, none) := by
  have etm : tMax = 1099511627776 := rfl
  refine fn_ok CN rfl (by kernel_rfl) Try.func7 rfl ?_
  refine Sat.go (Eq.refl _) (NS.ite (fun h0 => ?_) (fun h0 => ?_))
  · refine Sat.go (Eq.refl _) (NS.call (awake_ok) rfl ?_)
    exact Sat.go (Eq.refl _) (NS.ret rfl rfl (LeA.of (congrArg A.bool (rfl))))
  have h0 : l.length ≤ 40 := by have h0 : ¬ (l.length : Int) > 40 := of_decide_eq_false h0
                                omega
  have ci := claim_iff a b c l
  have cc := claim_ok a b c l
  by_cases hg : chkG (claimS a b c l) = 0
  · obtain ⟨n1, n2, n3, n4⟩ := ci.1 hg
    have n4' := n4
    unfold insideM headOK at n4'
    rw [Bool.and_eq_true, Bool.or_eq_true, Bool.and_eq_true] at n4'
    obtain ⟨s1, s2⟩ := n4'
    rw [show claimM a b c l = (claimS a b c l, 0) by unfold claimM; rw [if_neg (by rw [hg]; simp)]] at cc
    have ce := encode_ok (claimS a b c l)
    rw [encGM_ok hg] at ce
    have cd := dec_of hg
    have ct := time_ok 1 (claimS a b c l)
    rw [show timeM 1 (claimS a b c l) = (0, 0) by unfold timeM; rw [if_neg (by rw [hg]; simp), if_neg (by decide), if_pos (by rfl)]] at ct
    have ck := gCheck_ok (claimS a b c l)
    rw [hg] at ck
    have cs := same_ok l l (by omega)
    rw [spn_self] at cs
    refine Sat.go (Eq.refl _) (NS.call (cc) rfl ?_)
    refine Sat.go (Eq.refl _) (NS.yes (decide_eq_true (by omega)) ?_)
    refine Sat.go (Eq.refl _) (NS.yes (decide_eq_true (by omega)) ?_)
    refine Sat.go (Eq.refl _) (NS.yes (decide_eq_true (by omega)) ?_)
    refine Sat.go (Eq.refl _) (NS.yes (decide_eq_true (by omega)) ?_)
    refine Sat.go (Eq.refl _) (NS.yes (decide_eq_true (by omega)) ?_)
    refine Sat.go (Eq.refl _) (NS.call (check_ok l) rfl ?_)
    refine Sat.go (Eq.refl _) (NS.yes (s1) ?_)
    by_cases hn : l.length = 0
    · have hn2 : ((l.length : Int) == 0) = true := by rw [natbeq, hn]; rfl
      refine Sat.go (Eq.refl _) (NS.yes (hn2) ?_)
      refine Sat.go (Eq.refl _) (NS.yes (decide_eq_true (by omega)) ?_)
      refine Sat.go (Eq.refl _) (NS.no (rfl) ?_)
      refine Sat.go (Eq.refl _) (NS.no (rfl) ?_)
      refine Sat.go (Eq.refl _) (NS.call (ce) rfl ?_)
      refine Sat.go (Eq.refl _) (NS.call (cd) rfl ?_)
      refine Sat.go (Eq.refl _) (NS.call (ct) rfl ?_)
      refine Sat.go (Eq.refl _) (NS.yes (rfl) ?_)
      refine Sat.go (Eq.refl _) (NS.yes (rfl) ?_)
      refine Sat.go (Eq.refl _) (NS.yes (rfl) ?_)
      refine Sat.go (Eq.refl _) (NS.yes (rfl) ?_)
      refine Sat.go (Eq.refl _) (NS.call (ck) rfl ?_)
      refine Sat.go (Eq.refl _) (NS.yes (rfl) ?_)
      refine Sat.go (Eq.refl _) (NS.call (cs) rfl ?_)
      refine Sat.go (Eq.refl _) (NS.yes (rfl) ?_)
      refine Sat.go (Eq.refl _) (NS.yes (beq_self_eq_true _) ?_)
      refine Sat.go (Eq.refl _) (NS.yes (beq_self_eq_true _) ?_)
      refine Sat.go (Eq.refl _) (NS.yes (beq_self_eq_true _) ?_)
      refine Sat.go (Eq.refl _) (NS.call (awake_ok) rfl ?_)
      exact Sat.go (Eq.refl _) (NS.ret rfl rfl (LeA.of (congrArg A.bool (rfl))))
    · have hn2 : ((l.length : Int) == 0) = false := by rw [natbeq]; simpa using hn
      have s2 : decide ((l.getD 0 default).lo ≥ 0) = true ∧ decide ((l.getD (l.length - 1) default).hi ≤ c) = true := by
        rcases s2 with s2 | s2
        · exact absurd (by simpa using s2) hn
        · exact s2
      have e1 : IntKind.i64.wrap ((l.length : Int) - 1) = ((l.length - 1 : Nat) : Int) := by rw [wrap_i64 (by omega) (by omega)]; omega
      refine Sat.go (Eq.refl _) (NS.no (hn2) ?_)
      refine Sat.go (Eq.refl _) (NS.need (by simp; omega) ?_)
      refine Sat.go (Eq.refl _) (NS.yes (s2.1) ?_)
      refine Sat.go (Eq.refl _) (NS.need (by rw [e1]; simp; omega) ?_)
      refine Sat.go (Eq.refl _) (NS.yes (decide_eq_true (by omega)) ?_)
      refine Sat.go (Eq.refl _) (NS.no (by show (!(((0 : Int) == 0) == decide ((l.getD (Int.toNat (IntKind.i64.wrap ((l.length : Int) - 1))) default).hi ≤ c))) = false; rw [e1, show Int.toNat ((l.length - 1 : Nat) : Int) = l.length - 1 from rfl, s2.2]; rfl) ?_)
      refine Sat.go (Eq.refl _) (NS.no (rfl) ?_)
      refine Sat.go (Eq.refl _) (NS.call (ce) rfl ?_)
      refine Sat.go (Eq.refl _) (NS.call (cd) rfl ?_)
      refine Sat.go (Eq.refl _) (NS.call (ct) rfl ?_)
      refine Sat.go (Eq.refl _) (NS.yes (rfl) ?_)
      refine Sat.go (Eq.refl _) (NS.yes (rfl) ?_)
      refine Sat.go (Eq.refl _) (NS.yes (rfl) ?_)
      refine Sat.go (Eq.refl _) (NS.yes (rfl) ?_)
      refine Sat.go (Eq.refl _) (NS.call (ck) rfl ?_)
      refine Sat.go (Eq.refl _) (NS.yes (rfl) ?_)
      refine Sat.go (Eq.refl _) (NS.call (cs) rfl ?_)
      refine Sat.go (Eq.refl _) (NS.yes (rfl) ?_)
      refine Sat.go (Eq.refl _) (NS.yes (beq_self_eq_true _) ?_)
      refine Sat.go (Eq.refl _) (NS.yes (beq_self_eq_true _) ?_)
      refine Sat.go (Eq.refl _) (NS.yes (beq_self_eq_true _) ?_)
      refine Sat.go (Eq.refl _) (NS.call (awake_ok) rfl ?_)
      exact Sat.go (Eq.refl _) (NS.ret rfl rfl (LeA.of (congrArg A.bool (rfl))))
  · have hbad : (chkG (claimS a b c l) == 0) = false := by simpa using hg
    have hbad2 : (chkG (claimS a b c l) != 0) = true := by simpa using hg
    rw [show claimM a b c l = (zeroG, chkG (claimS a b c l)) by unfold claimM; rw [if_pos hbad2]] at cc
    refine Sat.go (Eq.refl _) (NS.call (cc) rfl ?_)
    refine Sat.go (Eq.refl _) (NS.ite (fun n1 => ?_) (fun n1 => ?_))
    · refine Sat.go (Eq.refl _) (NS.ite (fun n2 => ?_) (fun n2 => ?_))
      · refine Sat.go (Eq.refl _) (NS.ite (fun n3 => ?_) (fun n3 => ?_))
        · refine Sat.go (Eq.refl _) (NS.ite (fun n4 => ?_) (fun n4 => ?_))
          · refine Sat.go (Eq.refl _) (NS.ite (fun n5 => ?_) (fun n5 => ?_))
            · have m1 : a ≥ 0 := of_decide_eq_true n1
              have m2 : a ≤ 1099511627776 := of_decide_eq_true n2
              have m3 : b ≥ 1 := of_decide_eq_true n3
              have m4 : b ≤ 1099511627776 := of_decide_eq_true n4
              have m5 : c ≥ 1 := of_decide_eq_true n5
              by_cases hc : c ≤ 65536
              · have hins : ¬ insideM l c = true := fun hi => hg (ci.2 ⟨⟨m1, by omega⟩, ⟨m3, by omega⟩, ⟨m5, hc⟩, hi⟩)
                refine Sat.go (Eq.refl _) (NS.call (check_ok l) rfl ?_)
                refine Sat.go (Eq.refl _) (NS.ite (fun s1 => ?_) (fun s1 => ?_))
                · have s1 : (chkS l == 0) = true := s1
                  refine Sat.go (Eq.refl _) (NS.ite (fun s2 => ?_) (fun s2 => ?_))
                  · exact absurd (by unfold insideM headOK; rw [s1, ← natbeq, s2]; rfl) hins
                  have hp := len1 s2
                  have e1 : IntKind.i64.wrap ((l.length : Int) - 1) = ((l.length - 1 : Nat) : Int) := by rw [wrap_i64 (by omega) (by omega)]; omega
                  refine Sat.go (Eq.refl _) (NS.need (by simp; omega) ?_)
                  refine Sat.go (Eq.refl _) (NS.ite (fun s3 => ?_) (fun s3 => ?_))
                  · have s3 : decide ((l.getD 0 default).lo ≥ 0) = true := s3
                    have s4 : decide ((l.getD (l.length - 1) default).hi ≤ c) = false := by
                      rw [← Bool.not_eq_true]
                      intro s4
                      exact hins (by unfold insideM headOK; rw [s1, s3, s4]; simp)
                    refine Sat.go (Eq.refl _) (NS.need (by rw [e1]; simp; omega) ?_)
                    refine Sat.go (Eq.refl _) (NS.yes (decide_eq_true hc) ?_)
                    refine Sat.go (Eq.refl _) (NS.no (by show (!((chkG (claimS a b c l) == 0) == decide ((l.getD (Int.toNat (IntKind.i64.wrap ((l.length : Int) - 1))) default).hi ≤ c))) = false; rw [hbad, e1, show Int.toNat ((l.length - 1 : Nat) : Int) = l.length - 1 from rfl, s4]; rfl) ?_)
                    refine Sat.go (Eq.refl _) (NS.yes (hbad2) ?_)
                    refine Sat.go (Eq.refl _) (NS.call (awake_ok) rfl ?_)
                    exact Sat.go (Eq.refl _) (NS.ret rfl rfl (LeA.of (congrArg A.bool (rfl))))
                  · refine Sat.go (Eq.refl _) (NS.yes (decide_eq_true hc) ?_)
                    refine Sat.go (Eq.refl _) (NS.no (by show (!((chkG (claimS a b c l) == 0) == false)) = false; rw [hbad]; rfl) ?_)
                    refine Sat.go (Eq.refl _) (NS.yes (hbad2) ?_)
                    refine Sat.go (Eq.refl _) (NS.call (awake_ok) rfl ?_)
                    exact Sat.go (Eq.refl _) (NS.ret rfl rfl (LeA.of (congrArg A.bool (rfl))))
                · refine Sat.go (Eq.refl _) (NS.yes (decide_eq_true hc) ?_)
                  refine Sat.go (Eq.refl _) (NS.no (by show (!((chkG (claimS a b c l) == 0) == false)) = false; rw [hbad]; rfl) ?_)
                  refine Sat.go (Eq.refl _) (NS.yes (hbad2) ?_)
                  refine Sat.go (Eq.refl _) (NS.call (awake_ok) rfl ?_)
                  exact Sat.go (Eq.refl _) (NS.ret rfl rfl (LeA.of (congrArg A.bool (rfl))))
              · refine Sat.go (Eq.refl _) (NS.call (check_ok l) rfl ?_)
                refine Sat.go (Eq.refl _) (NS.ite (fun s1 => ?_) (fun s1 => ?_))
                · have s1 : (chkS l == 0) = true := s1
                  refine Sat.go (Eq.refl _) (NS.ite (fun s2 => ?_) (fun s2 => ?_))
                  · refine Sat.go (Eq.refl _) (NS.no (decide_eq_false hc) ?_)
                    refine Sat.go (Eq.refl _) (NS.no (by show (!((chkG (claimS a b c l) == 0) == false)) = false; rw [hbad]; rfl) ?_)
                    refine Sat.go (Eq.refl _) (NS.yes (hbad2) ?_)
                    refine Sat.go (Eq.refl _) (NS.call (awake_ok) rfl ?_)
                    exact Sat.go (Eq.refl _) (NS.ret rfl rfl (LeA.of (congrArg A.bool (rfl))))
                  have hp := len1 s2
                  have e1 : IntKind.i64.wrap ((l.length : Int) - 1) = ((l.length - 1 : Nat) : Int) := by rw [wrap_i64 (by omega) (by omega)]; omega
                  refine Sat.go (Eq.refl _) (NS.need (by simp; omega) ?_)
                  refine Sat.go (Eq.refl _) (NS.ite (fun s3 => ?_) (fun s3 => ?_))
                  · refine Sat.go (Eq.refl _) (NS.need (by rw [e1]; simp; omega) ?_)
                    refine Sat.go (Eq.refl _) (NS.no (decide_eq_false hc) ?_)
                    refine Sat.go (Eq.refl _) (NS.no (by show (!((chkG (claimS a b c l) == 0) == false)) = false; rw [hbad]; rfl) ?_)
                    refine Sat.go (Eq.refl _) (NS.yes (hbad2) ?_)
                    refine Sat.go (Eq.refl _) (NS.call (awake_ok) rfl ?_)
                    exact Sat.go (Eq.refl _) (NS.ret rfl rfl (LeA.of (congrArg A.bool (rfl))))
                  · refine Sat.go (Eq.refl _) (NS.no (decide_eq_false hc) ?_)
                    refine Sat.go (Eq.refl _) (NS.no (by show (!((chkG (claimS a b c l) == 0) == false)) = false; rw [hbad]; rfl) ?_)
                    refine Sat.go (Eq.refl _) (NS.yes (hbad2) ?_)
                    refine Sat.go (Eq.refl _) (NS.call (awake_ok) rfl ?_)
                    exact Sat.go (Eq.refl _) (NS.ret rfl rfl (LeA.of (congrArg A.bool (rfl))))
                · refine Sat.go (Eq.refl _) (NS.no (decide_eq_false hc) ?_)
                  refine Sat.go (Eq.refl _) (NS.no (by show (!((chkG (claimS a b c l) == 0) == false)) = false; rw [hbad]; rfl) ?_)
                  refine Sat.go (Eq.refl _) (NS.yes (hbad2) ?_)
                  refine Sat.go (Eq.refl _) (NS.call (awake_ok) rfl ?_)
                  exact Sat.go (Eq.refl _) (NS.ret rfl rfl (LeA.of (congrArg A.bool (rfl))))
            · refine Sat.go (Eq.refl _) (NS.call (check_ok l) rfl ?_)
              refine Sat.go (Eq.refl _) (NS.ite (fun s1 => ?_) (fun s1 => ?_))
              · have s1 : (chkS l == 0) = true := s1
                refine Sat.go (Eq.refl _) (NS.ite (fun s2 => ?_) (fun s2 => ?_))
                · skip
                  refine Sat.go (Eq.refl _) (NS.no (by show (!((chkG (claimS a b c l) == 0) == false)) = false; rw [hbad]; rfl) ?_)
                  refine Sat.go (Eq.refl _) (NS.yes (hbad2) ?_)
                  refine Sat.go (Eq.refl _) (NS.call (awake_ok) rfl ?_)
                  exact Sat.go (Eq.refl _) (NS.ret rfl rfl (LeA.of (congrArg A.bool (rfl))))
                have hp := len1 s2
                have e1 : IntKind.i64.wrap ((l.length : Int) - 1) = ((l.length - 1 : Nat) : Int) := by rw [wrap_i64 (by omega) (by omega)]; omega
                refine Sat.go (Eq.refl _) (NS.need (by simp; omega) ?_)
                refine Sat.go (Eq.refl _) (NS.ite (fun s3 => ?_) (fun s3 => ?_))
                · refine Sat.go (Eq.refl _) (NS.need (by rw [e1]; simp; omega) ?_)
                  skip
                  refine Sat.go (Eq.refl _) (NS.no (by show (!((chkG (claimS a b c l) == 0) == false)) = false; rw [hbad]; rfl) ?_)
                  refine Sat.go (Eq.refl _) (NS.yes (hbad2) ?_)
                  refine Sat.go (Eq.refl _) (NS.call (awake_ok) rfl ?_)
                  exact Sat.go (Eq.refl _) (NS.ret rfl rfl (LeA.of (congrArg A.bool (rfl))))
                · skip
                  refine Sat.go (Eq.refl _) (NS.no (by show (!((chkG (claimS a b c l) == 0) == false)) = false; rw [hbad]; rfl) ?_)
                  refine Sat.go (Eq.refl _) (NS.yes (hbad2) ?_)
                  refine Sat.go (Eq.refl _) (NS.call (awake_ok) rfl ?_)
                  exact Sat.go (Eq.refl _) (NS.ret rfl rfl (LeA.of (congrArg A.bool (rfl))))
              · skip
                refine Sat.go (Eq.refl _) (NS.no (by show (!((chkG (claimS a b c l) == 0) == false)) = false; rw [hbad]; rfl) ?_)
                refine Sat.go (Eq.refl _) (NS.yes (hbad2) ?_)
                refine Sat.go (Eq.refl _) (NS.call (awake_ok) rfl ?_)
                exact Sat.go (Eq.refl _) (NS.ret rfl rfl (LeA.of (congrArg A.bool (rfl))))
          · refine Sat.go (Eq.refl _) (NS.call (check_ok l) rfl ?_)
            refine Sat.go (Eq.refl _) (NS.ite (fun s1 => ?_) (fun s1 => ?_))
            · have s1 : (chkS l == 0) = true := s1
              refine Sat.go (Eq.refl _) (NS.ite (fun s2 => ?_) (fun s2 => ?_))
              · skip
                refine Sat.go (Eq.refl _) (NS.no (by show (!((chkG (claimS a b c l) == 0) == false)) = false; rw [hbad]; rfl) ?_)
                refine Sat.go (Eq.refl _) (NS.yes (hbad2) ?_)
                refine Sat.go (Eq.refl _) (NS.call (awake_ok) rfl ?_)
                exact Sat.go (Eq.refl _) (NS.ret rfl rfl (LeA.of (congrArg A.bool (rfl))))
              have hp := len1 s2
              have e1 : IntKind.i64.wrap ((l.length : Int) - 1) = ((l.length - 1 : Nat) : Int) := by rw [wrap_i64 (by omega) (by omega)]; omega
              refine Sat.go (Eq.refl _) (NS.need (by simp; omega) ?_)
              refine Sat.go (Eq.refl _) (NS.ite (fun s3 => ?_) (fun s3 => ?_))
              · refine Sat.go (Eq.refl _) (NS.need (by rw [e1]; simp; omega) ?_)
                skip
                refine Sat.go (Eq.refl _) (NS.no (by show (!((chkG (claimS a b c l) == 0) == false)) = false; rw [hbad]; rfl) ?_)
                refine Sat.go (Eq.refl _) (NS.yes (hbad2) ?_)
                refine Sat.go (Eq.refl _) (NS.call (awake_ok) rfl ?_)
                exact Sat.go (Eq.refl _) (NS.ret rfl rfl (LeA.of (congrArg A.bool (rfl))))
              · skip
                refine Sat.go (Eq.refl _) (NS.no (by show (!((chkG (claimS a b c l) == 0) == false)) = false; rw [hbad]; rfl) ?_)
                refine Sat.go (Eq.refl _) (NS.yes (hbad2) ?_)
                refine Sat.go (Eq.refl _) (NS.call (awake_ok) rfl ?_)
                exact Sat.go (Eq.refl _) (NS.ret rfl rfl (LeA.of (congrArg A.bool (rfl))))
            · skip
              refine Sat.go (Eq.refl _) (NS.no (by show (!((chkG (claimS a b c l) == 0) == false)) = false; rw [hbad]; rfl) ?_)
              refine Sat.go (Eq.refl _) (NS.yes (hbad2) ?_)
              refine Sat.go (Eq.refl _) (NS.call (awake_ok) rfl ?_)
              exact Sat.go (Eq.refl _) (NS.ret rfl rfl (LeA.of (congrArg A.bool (rfl))))
        · refine Sat.go (Eq.refl _) (NS.call (check_ok l) rfl ?_)
          refine Sat.go (Eq.refl _) (NS.ite (fun s1 => ?_) (fun s1 => ?_))
          · have s1 : (chkS l == 0) = true := s1
            refine Sat.go (Eq.refl _) (NS.ite (fun s2 => ?_) (fun s2 => ?_))
            · skip
              refine Sat.go (Eq.refl _) (NS.no (by show (!((chkG (claimS a b c l) == 0) == false)) = false; rw [hbad]; rfl) ?_)
              refine Sat.go (Eq.refl _) (NS.yes (hbad2) ?_)
              refine Sat.go (Eq.refl _) (NS.call (awake_ok) rfl ?_)
              exact Sat.go (Eq.refl _) (NS.ret rfl rfl (LeA.of (congrArg A.bool (rfl))))
            have hp := len1 s2
            have e1 : IntKind.i64.wrap ((l.length : Int) - 1) = ((l.length - 1 : Nat) : Int) := by rw [wrap_i64 (by omega) (by omega)]; omega
            refine Sat.go (Eq.refl _) (NS.need (by simp; omega) ?_)
            refine Sat.go (Eq.refl _) (NS.ite (fun s3 => ?_) (fun s3 => ?_))
            · refine Sat.go (Eq.refl _) (NS.need (by rw [e1]; simp; omega) ?_)
              skip
              refine Sat.go (Eq.refl _) (NS.no (by show (!((chkG (claimS a b c l) == 0) == false)) = false; rw [hbad]; rfl) ?_)
              refine Sat.go (Eq.refl _) (NS.yes (hbad2) ?_)
              refine Sat.go (Eq.refl _) (NS.call (awake_ok) rfl ?_)
              exact Sat.go (Eq.refl _) (NS.ret rfl rfl (LeA.of (congrArg A.bool (rfl))))
            · skip
              refine Sat.go (Eq.refl _) (NS.no (by show (!((chkG (claimS a b c l) == 0) == false)) = false; rw [hbad]; rfl) ?_)
              refine Sat.go (Eq.refl _) (NS.yes (hbad2) ?_)
              refine Sat.go (Eq.refl _) (NS.call (awake_ok) rfl ?_)
              exact Sat.go (Eq.refl _) (NS.ret rfl rfl (LeA.of (congrArg A.bool (rfl))))
          · skip
            refine Sat.go (Eq.refl _) (NS.no (by show (!((chkG (claimS a b c l) == 0) == false)) = false; rw [hbad]; rfl) ?_)
            refine Sat.go (Eq.refl _) (NS.yes (hbad2) ?_)
            refine Sat.go (Eq.refl _) (NS.call (awake_ok) rfl ?_)
            exact Sat.go (Eq.refl _) (NS.ret rfl rfl (LeA.of (congrArg A.bool (rfl))))
      · refine Sat.go (Eq.refl _) (NS.call (check_ok l) rfl ?_)
        refine Sat.go (Eq.refl _) (NS.ite (fun s1 => ?_) (fun s1 => ?_))
        · have s1 : (chkS l == 0) = true := s1
          refine Sat.go (Eq.refl _) (NS.ite (fun s2 => ?_) (fun s2 => ?_))
          · skip
            refine Sat.go (Eq.refl _) (NS.no (by show (!((chkG (claimS a b c l) == 0) == false)) = false; rw [hbad]; rfl) ?_)
            refine Sat.go (Eq.refl _) (NS.yes (hbad2) ?_)
            refine Sat.go (Eq.refl _) (NS.call (awake_ok) rfl ?_)
            exact Sat.go (Eq.refl _) (NS.ret rfl rfl (LeA.of (congrArg A.bool (rfl))))
          have hp := len1 s2
          have e1 : IntKind.i64.wrap ((l.length : Int) - 1) = ((l.length - 1 : Nat) : Int) := by rw [wrap_i64 (by omega) (by omega)]; omega
          refine Sat.go (Eq.refl _) (NS.need (by simp; omega) ?_)
          refine Sat.go (Eq.refl _) (NS.ite (fun s3 => ?_) (fun s3 => ?_))
          · refine Sat.go (Eq.refl _) (NS.need (by rw [e1]; simp; omega) ?_)
            skip
            refine Sat.go (Eq.refl _) (NS.no (by show (!((chkG (claimS a b c l) == 0) == false)) = false; rw [hbad]; rfl) ?_)
            refine Sat.go (Eq.refl _) (NS.yes (hbad2) ?_)
            refine Sat.go (Eq.refl _) (NS.call (awake_ok) rfl ?_)
            exact Sat.go (Eq.refl _) (NS.ret rfl rfl (LeA.of (congrArg A.bool (rfl))))
          · skip
            refine Sat.go (Eq.refl _) (NS.no (by show (!((chkG (claimS a b c l) == 0) == false)) = false; rw [hbad]; rfl) ?_)
            refine Sat.go (Eq.refl _) (NS.yes (hbad2) ?_)
            refine Sat.go (Eq.refl _) (NS.call (awake_ok) rfl ?_)
            exact Sat.go (Eq.refl _) (NS.ret rfl rfl (LeA.of (congrArg A.bool (rfl))))
        · skip
          refine Sat.go (Eq.refl _) (NS.no (by show (!((chkG (claimS a b c l) == 0) == false)) = false; rw [hbad]; rfl) ?_)
          refine Sat.go (Eq.refl _) (NS.yes (hbad2) ?_)
          refine Sat.go (Eq.refl _) (NS.call (awake_ok) rfl ?_)
          exact Sat.go (Eq.refl _) (NS.ret rfl rfl (LeA.of (congrArg A.bool (rfl))))
    · refine Sat.go (Eq.refl _) (NS.call (check_ok l) rfl ?_)
      refine Sat.go (Eq.refl _) (NS.ite (fun s1 => ?_) (fun s1 => ?_))
      · have s1 : (chkS l == 0) = true := s1
        refine Sat.go (Eq.refl _) (NS.ite (fun s2 => ?_) (fun s2 => ?_))
        · skip
          refine Sat.go (Eq.refl _) (NS.no (by show (!((chkG (claimS a b c l) == 0) == false)) = false; rw [hbad]; rfl) ?_)
          refine Sat.go (Eq.refl _) (NS.yes (hbad2) ?_)
          refine Sat.go (Eq.refl _) (NS.call (awake_ok) rfl ?_)
          exact Sat.go (Eq.refl _) (NS.ret rfl rfl (LeA.of (congrArg A.bool (rfl))))
        have hp := len1 s2
        have e1 : IntKind.i64.wrap ((l.length : Int) - 1) = ((l.length - 1 : Nat) : Int) := by rw [wrap_i64 (by omega) (by omega)]; omega
        refine Sat.go (Eq.refl _) (NS.need (by simp; omega) ?_)
        refine Sat.go (Eq.refl _) (NS.ite (fun s3 => ?_) (fun s3 => ?_))
        · refine Sat.go (Eq.refl _) (NS.need (by rw [e1]; simp; omega) ?_)
          skip
          refine Sat.go (Eq.refl _) (NS.no (by show (!((chkG (claimS a b c l) == 0) == false)) = false; rw [hbad]; rfl) ?_)
          refine Sat.go (Eq.refl _) (NS.yes (hbad2) ?_)
          refine Sat.go (Eq.refl _) (NS.call (awake_ok) rfl ?_)
          exact Sat.go (Eq.refl _) (NS.ret rfl rfl (LeA.of (congrArg A.bool (rfl))))
        · skip
          refine Sat.go (Eq.refl _) (NS.no (by show (!((chkG (claimS a b c l) == 0) == false)) = false; rw [hbad]; rfl) ?_)
          refine Sat.go (Eq.refl _) (NS.yes (hbad2) ?_)
          refine Sat.go (Eq.refl _) (NS.call (awake_ok) rfl ?_)
          exact Sat.go (Eq.refl _) (NS.ret rfl rfl (LeA.of (congrArg A.bool (rfl))))
      · skip
        refine Sat.go (Eq.refl _) (NS.no (by show (!((chkG (claimS a b c l) == 0) == false)) = false; rw [hbad]; rfl) ?_)
        refine Sat.go (Eq.refl _) (NS.yes (hbad2) ?_)
        refine Sat.go (Eq.refl _) (NS.call (awake_ok) rfl ?_)
        exact Sat.go (Eq.refl _) (NS.ret rfl rfl (LeA.of (congrArg A.bool (rfl))))
end Go.Proofs.Ytbpdbibnfmdpoaa
