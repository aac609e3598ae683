
/- The contracts of reading texts, and of the reference's texts. -/
import Derived.Test.YtdhfgfkfejpfdaaGreatVE
set_option linter.unusedSimpArgs false
set_option linter.unusedSectionVars false
set_option linter.unusedVariables false
namespace Go.Proofs.YtdhfgfkfejpfdaaGreat
open Go.Sy Go.Mb
set_option maxRecDepth 100000
set_option linter.unusedVariables false
set_option maxHeartbeats 1000000

theorem rText_ok (s : ByteArray) : FnOK Tryz.prog 66 [.str s] (.tup [.str (textM s).1, .int .i64 (textM s).2], none) := by
  refine fn_ok VN rfl (by kernel_rfl) Tryz.func66 rfl ?_
  refine Sat.go (Eq.refl _) (NS.ite (fun h => ?_) (fun h => ?_))
  · exact Sat.go (Eq.refl _) (NS.ret rfl rfl (str_le (by unfold textM; rw [if_pos h]; rfl)))
  have hm : textM s = (bs (encI s.size) ++ s, 0) := by unfold textM; rw [if_neg (by rw [h]; simp)]
  have h : s.size ≤ 65536 := by have h : ¬ (s.size : Int) > 65536 := of_decide_eq_false h
                                omega
  have hi := inI_nat (n := s.size) (by omega)
  have hl := encI_len hi
  have c := rInt_ok s.size
  rw [intM_ok hi] at c
  refine Sat.go (Eq.refl _) (NS.call (c) rfl ?_)
  refine Sat.go (Eq.refl _) (NS.need (decide_eq_true (by rw [bs_len]; omega)) ?_)
  exact Sat.go (Eq.refl _) (NS.ret rfl rfl (str_le hm))
end Go.Proofs.YtdhfgfkfejpfdaaGreat
