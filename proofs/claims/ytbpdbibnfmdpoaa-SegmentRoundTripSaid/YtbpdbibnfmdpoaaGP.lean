/- The laws of codes of segments: there and back, damage. -/
import Derived.Test.YtbpdbibnfmdpoaaGN
set_option linter.unusedSimpArgs false
set_option linter.unusedSectionVars false
set_option linter.unusedVariables false
namespace Go.Proofs.Ytbpdbibnfmdpoaa
open Go.Sy Go.Mb
set_option maxRecDepth 100000
set_option linter.unusedVariables false
set_option maxHeartbeats 4000000

theorem segmentRoundTrip_ok (s : Seg) (d : ByteArray) : FnOK Try.prog 4 [.agg s.cells, .str d] (.bool true, none) := by
  refine fn_ok CN rfl (by kernel_rfl) Try.func4 rfl ?_
  refine Sat.go (Eq.refl _) (NS.call (great_ok s) rfl ?_)
  refine Sat.go (Eq.refl _) (NS.ite (fun h0 => ?_) (fun h0 => ?_))
  · refine Sat.go (Eq.refl _) (NS.call (awake_ok) rfl ?_)
    exact Sat.go (Eq.refl _) (NS.ret rfl rfl (LeA.of (congrArg A.bool (rfl))))
  refine Sat.go (Eq.refl _) (NS.ite (fun h1 => ?_) (fun h1 => ?_))
  · refine Sat.go (Eq.refl _) (NS.call (awake_ok) rfl ?_)
    exact Sat.go (Eq.refl _) (NS.ret rfl rfl (LeA.of (congrArg A.bool (rfl))))
  have h1 : d.size ≤ 2000 := by have h1 : ¬ (d.size : Int) > 2000 := of_decide_eq_false h1
                                omega
  by_cases hg : chkG s = 0
  · have ce := encode_ok s
    rw [encGM_ok hg] at ce
    have cc := gCheck_ok s
    rw [hg] at cc
    have hlen := (sealL_len (encG_len (goodG hg))).2
    have hne : ((bs (sealL (encG s))).toList == (ByteArray.mk #[]).toList) = false := by rw [size0, bs_len, beq_eq_false_iff_ne]; omega
    have cd := dec_of hg
    have cs := segSame_self s (by have := (chkS_both (goodG hg).c1).2; omega)
    refine Sat.go (Eq.refl _) (NS.call (ce) rfl ?_)
    refine Sat.go (Eq.refl _) (NS.call (cc) rfl ?_)
    refine Sat.go (Eq.refl _) (NS.no (rfl) ?_)
    refine Sat.go (Eq.refl _) (NS.no (by rw [hne]; rfl) ?_)
    refine Sat.go (Eq.refl _) (NS.yes (rfl) ?_)
    refine Sat.go (Eq.refl _) (NS.call (cd) rfl ?_)
    refine Sat.go (Eq.refl _) (NS.no (rfl) ?_)
    refine Sat.go (Eq.refl _) (NS.call (cs) rfl ?_)
    refine Sat.go (Eq.refl _) (NS.no (rfl) ?_)
    refine Sat.go (Eq.refl _) (NS.call (decode_ok d (by omega)) rfl ?_)
    rcases decG_bad (ls d) with hz | hz
    · obtain ⟨hg2, hen⟩ := decG_ok (ls_lt d) hz
      have ce := encode_ok (decG (ls d)).1
      rw [encGM_ok hg2, hen, bs_ls] at ce
      refine Sat.go (Eq.refl _) (NS.no (by rw [hz]; rfl) ?_)
      refine Sat.go (Eq.refl _) (NS.call (ce) rfl ?_)
      refine Sat.go (Eq.refl _) (NS.yes (rfl) ?_)
      refine Sat.go (Eq.refl _) (NS.yes (beq_self_eq_true _) ?_)
      refine Sat.go (Eq.refl _) (NS.call (awake_ok) rfl ?_)
      exact Sat.go (Eq.refl _) (NS.ret rfl rfl (LeA.of (congrArg A.bool (rfl))))
    · have cz := segSame_self zeroG (by simp [zeroG])
      rw [hz]
      refine Sat.go (Eq.refl _) (NS.ite (fun hy => ?_) (fun hy => ?_))
      · refine Sat.go (Eq.refl _) (NS.call (cz.le (LeL.cons (LeA.refl _) (LeL.cons zero_le_seg LeL.nil))) rfl ?_)
        refine Sat.go (Eq.refl _) (NS.yes (rfl) ?_)
        refine Sat.go (Eq.refl _) (NS.call (awake_ok) rfl ?_)
        exact Sat.go (Eq.refl _) (NS.ret rfl rfl (LeA.of (congrArg A.bool (rfl))))
      · have hz2 : (decG (ls d)).2 = 0 := by simpa using hy
        obtain ⟨hg2, hen⟩ := decG_ok (ls_lt d) hz2
        have ce := encode_ok zeroG
        rw [hz] at hen hg2
        rw [encGM_ok hg2, hen, bs_ls] at ce
        refine Sat.go (Eq.refl _) (NS.call (ce) rfl ?_)
        refine Sat.go (Eq.refl _) (NS.yes (rfl) ?_)
        refine Sat.go (Eq.refl _) (NS.yes (beq_self_eq_true _) ?_)
        refine Sat.go (Eq.refl _) (NS.call (awake_ok) rfl ?_)
        exact Sat.go (Eq.refl _) (NS.ret rfl rfl (LeA.of (congrArg A.bool (rfl))))
  · have ce := encode_ok s
    have hE : encGM s = (.empty, chkG s) := by unfold encGM; rw [if_pos (by simpa using hg)]
    rw [hE] at ce
    have hb : (chkG s != 0) = true := by simpa using hg
    have hb2 : (chkG s == 0) = false := by simpa using hg
    refine Sat.go (Eq.refl _) (NS.call (ce) rfl ?_)
    refine Sat.go (Eq.refl _) (NS.call (gCheck_ok s) rfl ?_)
    refine Sat.go (Eq.refl _) (NS.no (by simp) ?_)
    refine Sat.go (Eq.refl _) (NS.no (by rw [hb, size0]; rfl) ?_)
    refine Sat.go (Eq.refl _) (NS.no (hb2) ?_)
    refine Sat.go (Eq.refl _) (NS.call (decode_ok d (by omega)) rfl ?_)
    rcases decG_bad (ls d) with hz | hz
    · obtain ⟨hg2, hen⟩ := decG_ok (ls_lt d) hz
      have ce := encode_ok (decG (ls d)).1
      rw [encGM_ok hg2, hen, bs_ls] at ce
      refine Sat.go (Eq.refl _) (NS.no (by rw [hz]; rfl) ?_)
      refine Sat.go (Eq.refl _) (NS.call (ce) rfl ?_)
      refine Sat.go (Eq.refl _) (NS.yes (rfl) ?_)
      refine Sat.go (Eq.refl _) (NS.yes (beq_self_eq_true _) ?_)
      refine Sat.go (Eq.refl _) (NS.call (awake_ok) rfl ?_)
      exact Sat.go (Eq.refl _) (NS.ret rfl rfl (LeA.of (congrArg A.bool (rfl))))
    · have cz := segSame_self zeroG (by simp [zeroG])
      rw [hz]
      refine Sat.go (Eq.refl _) (NS.ite (fun hy => ?_) (fun hy => ?_))
      · refine Sat.go (Eq.refl _) (NS.call (cz.le (LeL.cons (LeA.refl _) (LeL.cons zero_le_seg LeL.nil))) rfl ?_)
        refine Sat.go (Eq.refl _) (NS.yes (rfl) ?_)
        refine Sat.go (Eq.refl _) (NS.call (awake_ok) rfl ?_)
        exact Sat.go (Eq.refl _) (NS.ret rfl rfl (LeA.of (congrArg A.bool (rfl))))
      · have hz2 : (decG (ls d)).2 = 0 := by simpa using hy
        obtain ⟨hg2, hen⟩ := decG_ok (ls_lt d) hz2
        have ce := encode_ok zeroG
        rw [hz] at hen hg2
        rw [encGM_ok hg2, hen, bs_ls] at ce
        refine Sat.go (Eq.refl _) (NS.call (ce) rfl ?_)
        refine Sat.go (Eq.refl _) (NS.yes (rfl) ?_)
        refine Sat.go (Eq.refl _) (NS.yes (beq_self_eq_true _) ?_)
        refine Sat.go (Eq.refl _) (NS.call (awake_ok) rfl ?_)
        exact Sat.go (Eq.refl _) (NS.ret rfl rfl (LeA.of (congrArg A.bool (rfl))))
end Go.Proofs.Ytbpdbibnfmdpoaa
