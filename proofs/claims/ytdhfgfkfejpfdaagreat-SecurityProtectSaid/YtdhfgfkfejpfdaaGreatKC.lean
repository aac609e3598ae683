/- The contracts of the checks of bundles. -/
import Derived.Test.YtdhfgfkfejpfdaaGreatKB
import Derived.Test.YtdhfgfkfejpfdaaGreatProg
import Derived.Test.YtdhfgfkfejpfdaaGreatSyE
set_option linter.unusedSimpArgs false
set_option linter.unusedSectionVars false
set_option linter.unusedVariables false
namespace Go.Proofs.YtdhfgfkfejpfdaaGreat
open Go.Sy Go.Mb
set_option maxRecDepth 100000
set_option linter.unusedVariables false
set_option maxHeartbeats 4000000

def i5 : List Go.Sy.CK := List.replicate 5 (.i .i64)
def i2 : List Go.Sy.CK := List.replicate 2 (.i .i64)
def eqTab : List (TypeId × List Go.Sy.CK) := [(23, i5), (25, i2), (41, [.i .i64, .i .i64, .s])]
theorem eqTab_ok : EqTab Tryz.prog eqTab := by
  intro p hp
  simp only [eqTab, List.mem_cons, List.not_mem_nil, or_false] at hp
  rcases hp with rfl | rfl | rfl
  · exact ⟨by kernel_rfl, by kernel_rfl, by rw [Tryz.underlying23]; trivial⟩
  · exact ⟨by kernel_rfl, by kernel_rfl, by rw [Tryz.underlying25]; trivial⟩
  · exact ⟨by kernel_rfl, by kernel_rfl, by rw [Tryz.underlying41]; trivial⟩
noncomputable def EN : Env := { P := Tryz.prog, eqT := lookE eqTab }
theorem EN_ok : EqOK EN := eqOK_of eqTab_ok
noncomputable def CN : Cx := { E := EN, inl := [], ok := EN_ok }
theorem bWithin_ok (n lo hi : Int) : FnOK Tryz.prog 49 [.int .i64 n, .int .i64 lo, .int .i64 hi] (.bool (inR n lo hi), none) := by
  refine fn_ok CN rfl (by kernel_rfl) Tryz.func49 rfl ?_
  refine Sat.go (Eq.refl _) (NS.ite (fun h => ?_) (fun h => ?_))
  · exact Sat.go (Eq.refl _) (NS.ret rfl rfl (LeA.of (congrArg A.bool (inR_t h))))
  · exact Sat.go (Eq.refl _) (NS.ret rfl rfl (LeA.of (congrArg A.bool (inR_f h))))
theorem tot_w {n : Int} : 1 ≤ n ∧ n ≤ 4096 → IntKind.i64.wrap (n - 1) = n - 1 := fun h => wrap_i64 (by omega) (by omega)
theorem checkId_ok (x : Eid) : FnOK Tryz.prog 47 [.agg x.cells] (.int .i64 (if okE x then 0 else 2), none) := by
  have hw := tot_w (n := x.tot)
  refine fn_ok CN rfl (by kernel_rfl) Tryz.func47 rfl ?_
  repeat' (first | (refine Sat.go (Eq.refl _) (NS.ite (fun h => ?_) (fun h => ?_))) | (refine Sat.go (Eq.refl _) (NS.chk (by kernel_rfl) ?_)) | (refine Sat.go (Eq.refl _) (NS.call (bWithin_ok x.src 0 15) rfl ?_)) | (refine Sat.go (Eq.refl _) (NS.call (bWithin_ok x.cre 0 1099511627776) rfl ?_)) | (refine Sat.go (Eq.refl _) (NS.call (bWithin_ok x.seq 0 1099511627776) rfl ?_)) | (refine Sat.go (Eq.refl _) (NS.call (bWithin_ok x.tot 1 4096) rfl ?_)) | (refine Sat.go (Eq.refl _) (NS.call (bWithin_ok x.off 0 (IntKind.i64.wrap (x.tot - 1))) rfl ?_)) | (exact Sat.go (Eq.refl _) (NS.ret rfl rfl (LeA.of (congrArg (A.int .i64) (by simp only [okE, inR, Bool.not_eq_true', Bool.not_eq_false', decide_eq_true_eq, decide_eq_false_iff_not, beq_iff_eq, beq_eq_false_iff_ne] at *; split <;> omega))))))
theorem dCheck_ok (d : Dst) : FnOK Tryz.prog 48 [.agg d.cells] (.int .i64 (chkDst d), none) := by
  refine fn_ok CN rfl (by kernel_rfl) Tryz.func48 rfl ?_
  repeat' (first | (refine Sat.go (Eq.refl _) (NS.ite (fun h => ?_) (fun h => ?_))) | (refine Sat.go (Eq.refl _) (NS.chk (by kernel_rfl) ?_)) | (exact Sat.go (Eq.refl _) (NS.ret rfl rfl (LeA.of (congrArg (A.int .i64) (by unfold chkDst; simp only [decide_eq_true_eq, decide_eq_false_iff_not, beq_iff_eq, beq_eq_false_iff_ne] at *; (repeat' split) <;> omega))))))
theorem rDst_ok (d : Dst) : FnOK Tryz.prog 61 [.agg d.cells] (.int .i64 (chkDst d), none) := by
  refine fn_ok CN rfl (by kernel_rfl) Tryz.func61 rfl ?_
  repeat' (first | (refine Sat.go (Eq.refl _) (NS.ite (fun h => ?_) (fun h => ?_))) | (refine Sat.go (Eq.refl _) (NS.chk (by kernel_rfl) ?_)) | (exact Sat.go (Eq.refl _) (NS.ret rfl rfl (LeA.of (congrArg (A.int .i64) (by unfold chkDst; simp only [decide_eq_true_eq, decide_eq_false_iff_not, beq_iff_eq, beq_eq_false_iff_ne, bne_iff_ne, bne_eq_false_iff_eq] at *; (repeat' split) <;> omega))))))
theorem kCheck_ok (x : Blk) : FnOK Tryz.prog 36 [.agg x.cells] (.int .i64 (chkK x), none) := by
  refine fn_ok CN rfl (by kernel_rfl) Tryz.func36 rfl ?_
  repeat' (first | (refine Sat.go (Eq.refl _) (NS.ite (fun h => ?_) (fun h => ?_))) | (refine Sat.go (Eq.refl _) (NS.chk (by kernel_rfl) ?_)) | (exact Sat.go (Eq.refl _) (NS.ret rfl rfl (LeA.of (congrArg (A.int .i64) (by unfold chkK; simp only [decide_eq_true_eq, decide_eq_false_iff_not] at *; (repeat' split) <;> omega))))))
theorem rK_ok (x : Blk) : FnOK Tryz.prog 65 [.agg x.cells] (.int .i64 (chkK x), none) := by
  refine fn_ok CN rfl (by kernel_rfl) Tryz.func65 rfl ?_
  repeat' (first | (refine Sat.go (Eq.refl _) (NS.ite (fun h => ?_) (fun h => ?_))) | (refine Sat.go (Eq.refl _) (NS.chk (by kernel_rfl) ?_)) | (exact Sat.go (Eq.refl _) (NS.ret rfl rfl (LeA.of (congrArg (A.int .i64) (by unfold chkK; simp only [decide_eq_true_eq, decide_eq_false_iff_not] at *; (repeat' split) <;> omega))))))
theorem checkFlags_ok (b : Bun) : FnOK Tryz.prog 50 [.agg b.cells] (.int .i64 (if okF b then 0 else 1), none) := by
  refine fn_ok CN rfl (by kernel_rfl) Tryz.func50 rfl ?_
  refine Sat.go (Eq.refl _) (NS.call (bWithin_ok b.flags 0 127) rfl ?_)
  refine Sat.go (Eq.refl _) (NS.ite (fun h => ?_) (fun h => ?_))
  · exact Sat.go (Eq.refl _) (NS.ret rfl rfl (LeA.of (congrArg (A.int .i64) (by unfold okF; rw [if_neg]; simp only [inR, Bool.not_eq_true', decide_eq_false_iff_not] at h; simp only [Bool.and_eq_true, decide_eq_true_eq]; exact fun e => h e.1))))
  have h : 0 ≤ b.flags ∧ b.flags ≤ 127 := by simp only [inR, Bool.not_eq_false', decide_eq_true_eq] at h; exact h
  have e4 := and_bit h.1 h.2 4 (by simp)
  have e64 := and_bit h.1 h.2 64 (by simp)
  have e2 := and_bit h.1 h.2 2 (by simp)
  have e0 : okF b = (!(bit b.flags 4 && bit b.flags 64) && !(decide (0 < b.id.tot) && bit b.flags 2)) := by unfold okF; rw [decide_eq_true h, Bool.true_and]
  rw [e0, ← e4, ← e64, ← e2]
  repeat' (first | (refine Sat.go (Eq.refl _) (NS.ite (fun h => ?_) (fun h => ?_))) | (refine Sat.go (Eq.refl _) (NS.chk (by kernel_rfl) ?_)) | (exact Sat.go (Eq.refl _) (NS.ret rfl rfl (LeA.of (congrArg (A.int .i64) (by simp_all))))))
theorem has_ok {n k : Int} (h : 0 ≤ n) (h' : n ≤ 127) (hk : k = 4 ∨ k = 64 ∨ k = 2) : FnOK Tryz.prog 82 [.int .i64 n, .int .i64 k] (.bool (bit n k), none) := by
  have e : IntKind.i64.wrap (n.tdiv k) = n.tdiv k := by
    rw [Int.tdiv_eq_ediv_of_nonneg h]
    rcases hk with rfl | rfl | rfl <;> exact wrap_i64 (by omega) (by omega)
  have e2 := div_bit h h' k hk
  have hz : (k != 0) = true := by rcases hk with rfl | rfl | rfl <;> rfl
  refine fn_ok CN rfl (by kernel_rfl) Tryz.func82 rfl ?_
  refine Sat.go (Eq.refl _) (NS.need (hz) ?_)
  repeat' (first | (refine Sat.go (Eq.refl _) (NS.chk (by kernel_rfl) ?_)) | (refine Sat.go (Eq.refl _) (NS.need (hz) ?_)) | (refine Sat.go (Eq.refl _) (NS.need (rfl) ?_)) | (refine Sat.go (Eq.refl _) (NS.yes (rfl) ?_)) | (refine Sat.go (Eq.refl _) (NS.ret rfl rfl (LeA.of (congrArg A.bool (?_)))); rw [e]; exact e2))
end Go.Proofs.YtdhfgfkfejpfdaaGreat
