/- SecurityStrip. -/
import Derived.Test.YtdhfgfkfejpfdaaKZD
import Derived.Test.YtdhfgfkfejpfdaaKP
set_option linter.unusedSimpArgs false
set_option linter.unusedSectionVars false
set_option linter.unusedVariables false
namespace Go.Mb
open Go.Sy
theorem signersM_le (b : Bun) : (signersM b).1.length ≤ 1000000 := by
  unfold signersM
  split
  · simp
  · split
    · simp
    · rename_i h1 h2
      have := (Okb.good ⟨by simpa using h1, by simpa using h2⟩ : GoodS (sgB b)).len
      simp; omega
theorem stripM_le (b : Bun) (n : Int) : (stripM b n).1.l.length ≤ 1000000 := by
  unfold stripM
  split
  · exact Nat.zero_le _
  · rename_i h1
    have hg := goodL_of (b := b) (by simpa using h1)
    have hl := hg.1
    split
    · exact Nat.zero_le _
    · split
      · exact Nat.zero_le _
      · split
        · exact Nat.zero_le _
        · split
          · exact Nat.le_trans (List.length_filter_le _ _) (by omega)
          · show (putL b.l _).length ≤ _
            rw [putL_len hg.2.2]
            have : (remB b.l (newB b ((sgB b).filter fun p => (p.1 : Int) != n)).kind).length ≤ b.l.length := List.length_filter_le _ _
            omega
end Go.Mb
namespace Go.Proofs.Ytdhfgfkfejpfdaa
open Go.Sy Go.Mb
set_option maxRecDepth 100000
set_option linter.unusedVariables false
set_option maxHeartbeats 4000000

theorem securityStrip_ok (b : Bun) (n : Int) : FnOK Try.prog 6 [.agg b.cells, .int .i64 n] (.bool true, none) := by
  refine fn_ok CN rfl (by kernel_rfl) Try.func6 rfl ?_
  refine Sat.go (Eq.refl _) (NS.call (great13_ok b) rfl ?_)
  refine Sat.go (Eq.refl _) (NS.ite (fun g1 => ?_) (fun g1 => ?_))
  · refine Sat.go (Eq.refl _) (NS.call (awake_ok) rfl ?_)
    exact Sat.go (Eq.refl _) (NS.ret rfl rfl (LeA.refl _))
  have hl1 : (signersM b).1.length ≤ 1000000 := signersM_le b
  have hl2 : (stripM b n).1.l.length ≤ 1000000 := stripM_le b n
  refine Sat.go (Eq.refl _) (NS.call (signers_ok b) rfl ?_)
  refine Sat.go (Eq.refl _) (NS.call (rSigners_ok b) rfl ?_)
  refine Sat.go (Eq.refl _) (NS.call (strip_ok b n) rfl ?_)
  refine Sat.go (Eq.refl _) (NS.call (rStrip_ok b n) rfl ?_)
  refine Sat.go (Eq.refl _) (NS.call (equalN_ok (signersM b).1 hl1) rfl ?_)
  refine Sat.go (Eq.refl _) (NS.yes (rfl) ?_)
  refine Sat.go (Eq.refl _) (NS.yes (by simp) ?_)
  refine Sat.go (Eq.refl _) (NS.call (sameB_ok (stripM b n).1 hl2) rfl ?_)
  refine Sat.go (Eq.refl _) (NS.yes (rfl) ?_)
  refine Sat.go (Eq.refl _) (NS.yes (by simp) ?_)
  refine Sat.go (Eq.refl _) (NS.call (awake_ok) rfl ?_)
  exact Sat.go (Eq.refl _) (NS.ret rfl rfl (LeA.refl _))
end Go.Proofs.Ytdhfgfkfejpfdaa
