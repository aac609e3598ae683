/- The pieces of a batch, brought into normal form, are what was missing. -/
import Derived.Test.YtbpdbibnfmdpoaaGT
import Derived.Test.YtbpdbibnfmdpoaaIE
set_option linter.unusedSimpArgs false
set_option linter.unusedSectionVars false
set_option linter.unusedVariables false
namespace Go.Mb
open Go.Sy
set_option linter.unusedVariables false
theorem norm_pcs {m : List Spn} {t : Int} (h : insideM m t = true) (ht : t ≤ 1000) (h0 : 0 ≤ t) : normM (pcsL m) = (m, 0) ∧ PcOK t 0 true (pcsL m) := by
  obtain ⟨hin, hl⟩ := inside_all h
  have h1 : chkS m = 0 := by unfold insideM at h; rw [Bool.and_eq_true, beq_iff_eq] at h; exact h.1
  obtain ⟨_, hset⟩ := (chkS_zero m).1 h1
  have hk : PcOK t 0 true (pcsL m) := pk_all m 0 true hset.1 hin fun x hx => .inr ⟨rfl, (hin x hx).1⟩
  refine ⟨?_, hk⟩
  have hlen := pk_len h0 hk
  have hv : ∀ x ∈ pcsL m, vS x = true := by
    intro x hx
    have := pk_mem hk x hx
    unfold vS
    simp only [Bool.and_eq_true, decide_eq_true_eq]
    omega
  have hsp := norm_spec hv
  have e : normL (pcsL m) = m := set_inj hsp.1 hset fun q => by rw [hsp.2.1 q]; exact has_pcsL q m fun x hx => ⟨(hin x hx).1, (hin x hx).2.1⟩
  unfold normM
  rw [if_neg (by omega), if_neg, e]
  rw [List.any_eq_true]
  rintro ⟨x, hx, h⟩
  rw [hv x hx] at h; cases h
end Go.Mb
