
/- Strip. -/
import Derived.Test.YtdhfgfkfejpfdaaGreatKM
set_option linter.unusedSimpArgs false
set_option linter.unusedSectionVars false
set_option linter.unusedVariables false
namespace Go.Mb
open Go.Sy
theorem enS_nil {l : List Sg} : (bs (enS l)).toList == (ByteArray.empty).toList ↔ l = [] := by
  rw [beq_iff_eq, ba_inj]
  constructor
  · intro h
    cases l with
    | nil => rfl
    | cons p l =>
      have := congrArg ByteArray.size h
      rw [bs_len, enS_cons] at this
      simp at this
  · intro h; rw [h]; rfl
end Go.Mb
namespace Go.Proofs.YtdhfgfkfejpfdaaGreat
open Go.Sy Go.Mb
set_option maxRecDepth 100000
set_option linter.unusedVariables false
set_option maxHeartbeats 4000000

end Go.Proofs.YtdhfgfkfejpfdaaGreat
