/- The contracts of the checks of contacts and changes. -/
import Derived.Test.YthfbahebeembeaaUB
import Derived.Test.YthfbahebeembeaaProg
import Derived.Test.YthfbahebeembeaaSyE
set_option linter.unusedSimpArgs false
set_option linter.unusedSectionVars false
set_option linter.unusedVariables false
namespace Go.Proofs.Ythfbahebeembeaa
open Go.Sy Go.Mb
set_option maxRecDepth 100000
set_option linter.unusedVariables false
set_option maxHeartbeats 4000000

def i7 : List Go.Sy.CK := List.replicate 7 (.i .i64)
def i11 : List Go.Sy.CK := List.replicate 11 (.i .i64)
def i3 : List Go.Sy.CK := List.replicate 3 (.i .i64)
def eqTab : List (TypeId × List Go.Sy.CK) := [(26, i7), (52, i11), (80, i3)]
theorem eqTab_ok : EqTab Try.prog eqTab := by
  intro p hp
  simp only [eqTab, List.mem_cons, List.not_mem_nil, or_false] at hp
  rcases hp with rfl | rfl | rfl
  · exact ⟨by kernel_rfl, by kernel_rfl, by rw [Try.underlying26]; trivial⟩
  · exact ⟨by kernel_rfl, by kernel_rfl, by rw [Try.underlying52]; trivial⟩
  · exact ⟨by kernel_rfl, by kernel_rfl, by rw [Try.underlying80]; trivial⟩
noncomputable def EN : Env := { P := Try.prog, eqT := lookE eqTab }
theorem EN_ok : EqOK EN := eqOK_of eqTab_ok
noncomputable def CN : Cx := { E := EN, inl := [], ok := EN_ok }
theorem cWithin_ok (n lo hi : Int) : FnOK Try.prog 68 [.int .i64 n, .int .i64 lo, .int .i64 hi] (.bool (inR n lo hi), none) := by
  refine fn_ok CN rfl (by kernel_rfl) Try.func68 rfl ?_
  refine Sat.go (Eq.refl _) (NS.ite (fun h => ?_) (fun h => ?_))
  · exact Sat.go (Eq.refl _) (NS.ret rfl rfl (LeA.of (congrArg A.bool (inR_t h))))
  · exact Sat.go (Eq.refl _) (NS.ret rfl rfl (LeA.of (congrArg A.bool (inR_f h))))
theorem rCtc_ok (c : Ctc) : FnOK Try.prog 82 [.agg c.cells] (.int .i64 (chkC c), none) := by
  refine fn_ok CN rfl (by kernel_rfl) Try.func82 rfl ?_
  repeat' (first | (refine Sat.go (Eq.refl _) (NS.ite (fun h => ?_) (fun h => ?_))) | (refine Sat.go (Eq.refl _) (NS.chk (by kernel_rfl) ?_)) | (exact Sat.go (Eq.refl _) (NS.ret rfl rfl (LeA.of (congrArg (A.int .i64) (by unfold chkC inR; simp only [decide_eq_true_eq, decide_eq_false_iff_not, beq_iff_eq, beq_eq_false_iff_ne] at *; simp only [Bool.or_eq_true, Bool.not_eq_true', decide_eq_true_eq, decide_eq_false_iff_not, beq_iff_eq]; (repeat' split) <;> omega))))))
theorem cCheck_ok (c : Ctc) : FnOK Try.prog 34 [.agg c.cells] (.int .i64 (chkC c), none) := by
  refine fn_ok CN rfl (by kernel_rfl) Try.func34 rfl ?_
  repeat' (first | (refine Sat.go (Eq.refl _) (NS.ite (fun h => ?_) (fun h => ?_))) | (refine Sat.go (Eq.refl _) (NS.chk (by kernel_rfl) ?_)) | (refine Sat.go (Eq.refl _) (NS.call (cWithin_ok c.fr 0 15) rfl ?_)) | (refine Sat.go (Eq.refl _) (NS.call (cWithin_ok c.to 0 15) rfl ?_)) | (refine Sat.go (Eq.refl _) (NS.call (cWithin_ok c.rate 1 1000) rfl ?_)) | (refine Sat.go (Eq.refl _) (NS.call (cWithin_ok c.rng 1 1048576) rfl ?_)) | (refine Sat.go (Eq.refl _) (NS.call (cWithin_ok c.loss 0 16) rfl ?_)) | (exact Sat.go (Eq.refl _) (NS.ret rfl rfl (LeA.of (congrArg (A.int .i64) (by unfold chkC; simp only [inR, decide_eq_true_eq, decide_eq_false_iff_not, beq_iff_eq, beq_eq_false_iff_ne, Bool.not_eq_true', Bool.not_eq_false'] at *; simp only [Bool.or_eq_true, Bool.not_eq_true', decide_eq_true_eq, decide_eq_false_iff_not, beq_iff_eq]; (repeat' split) <;> omega))))))
theorem inside_ok (nodes n : Int) : FnOK Try.prog 95 [.int .i64 n, .ip 1 (getA [.int .i64 nodes])] (.bool (inN nodes n), none) := by
  refine fn_ok CN rfl (by kernel_rfl) Try.func95 rfl ?_
  repeat' (first | (refine Sat.go (Eq.refl _) (NS.ite (fun h => ?_) (fun h => ?_))) | (refine Sat.go (Eq.refl _) (NS.chk (by kernel_rfl) ?_)) | (exact Sat.go (Eq.refl _) (NS.ret rfl rfl (LeA.of (congrArg A.bool (by unfold inN; simp only [*, Bool.true_and, Bool.false_and]))))))
theorem validContact_ok (nodes : Int) (x : Chg) : FnOK Try.prog 81 [.int .i64 nodes, .agg x.cells] (.bool (validC nodes x), none) := by
  refine fn_ok CN rfl (by kernel_rfl) Try.func81 rfl ?_
  refine Sat.go (Eq.refl _) (NS.call (inside_ok nodes x.c.fr) rfl ?_)
  refine Sat.go (Eq.refl _) (NS.ite (fun h1 => ?_) (fun h1 => ?_))
  · exact Sat.go (Eq.refl _) (NS.ret rfl rfl (LeA.of (congrArg A.bool (by unfold validC; rw [if_pos (by rw [show (!inN nodes x.c.fr) = true from h1]; rfl)]))))
  refine Sat.go (Eq.refl _) (NS.call (inside_ok nodes x.c.to) rfl ?_)
  refine Sat.go (Eq.refl _) (NS.ite (fun h2 => ?_) (fun h2 => ?_))
  · exact Sat.go (Eq.refl _) (NS.ret rfl rfl (LeA.of (congrArg A.bool (by unfold validC; rw [if_pos (by rw [show (!inN nodes x.c.to) = true from h2]; simp)]))))
  have hi : ¬ (!inN nodes x.c.fr || !inN nodes x.c.to) = true := by rw [show (!inN nodes x.c.fr) = false from h1, show (!inN nodes x.c.to) = false from h2]; simp
  refine Sat.go (Eq.refl _) (NS.ite (fun h3 => ?_) (fun h3 => ?_))
  · refine Sat.go (Eq.refl _) (NS.call (cCheck_ok x.c) rfl ?_)
    exact Sat.go (Eq.refl _) (NS.ret rfl rfl (LeA.of (congrArg A.bool (by unfold validC; rw [if_neg hi, if_pos h3]))))
  have h3 : ¬ (x.kind == 1) = true := by rw [show (x.kind == 1) = false from h3]; simp
  refine Sat.go (Eq.refl _) (NS.ite (fun h4 => ?_) (fun h4 => ?_))
  · have hv : validC nodes x = (x.c.fr != x.c.to && (decide (x.c.start ≥ 0) && (decide (x.c.start ≤ 1099511627776) && Ctc.eqv x.c (nameC x.c)))) := by unfold validC; rw [if_neg hi, if_neg h3, if_pos h4]
    rw [hv]
    refine Sat.go (Eq.refl _) (NS.ite (fun a1 => ?_) (fun a1 => ?_))
    · rw [show (x.c.fr != x.c.to) = true from a1]
      refine Sat.go (Eq.refl _) (NS.ite (fun a2 => ?_) (fun a2 => ?_))
      · rw [show decide (x.c.start ≥ 0) = true from a2]
        refine Sat.go (Eq.refl _) (NS.ite (fun a3 => ?_) (fun a3 => ?_))
        · rw [show decide (x.c.start ≤ 1099511627776) = true from a3]
          exact Sat.go (Eq.refl _) (NS.ret rfl rfl (LeA.of (congrArg A.bool (rfl))))
        · exact Sat.go (Eq.refl _) (NS.ret rfl rfl (LeA.of (congrArg A.bool (by rw [show decide (x.c.start ≤ 1099511627776) = false from a3]; rfl))))
      · exact Sat.go (Eq.refl _) (NS.ret rfl rfl (LeA.of (congrArg A.bool (by rw [show decide (x.c.start ≥ 0) = false from a2]; rfl))))
    · exact Sat.go (Eq.refl _) (NS.ret rfl rfl (LeA.of (congrArg A.bool (by rw [show (x.c.fr != x.c.to) = false from a1]; rfl))))
  have h4 : ¬ (x.kind == 2) = true := by rw [show (x.kind == 2) = false from h4]; simp
  exact Sat.go (Eq.refl _) (NS.ret rfl rfl (LeA.of (congrArg A.bool (by unfold validC; rw [if_neg hi, if_neg h3, if_neg h4]))))
theorem valid_ok (nodes : Int) (x : Chg) : FnOK Try.prog 50 [.int .i64 nodes, .agg x.cells] (.bool (validX nodes x), none) := by
  refine fn_ok CN rfl (by kernel_rfl) Try.func50 rfl ?_
  repeat' (first | (refine Sat.go (Eq.refl _) (NS.ite (fun h => ?_) (fun h => ?_))) | (refine Sat.go (Eq.refl _) (NS.chk (by kernel_rfl) ?_)) | (refine Sat.go (Eq.refl _) (NS.call (validContact_ok nodes x) rfl ?_)) | (exact Sat.go (Eq.refl _) (NS.ret rfl rfl (LeA.of (congrArg A.bool (by unfold validX; simp only [*, Bool.true_and, Bool.false_and]))))))
theorem rValid_ok (nodes : Int) (x : Chg) : FnOK Try.prog 53 [.agg x.cells, .int .i64 nodes] (.bool (validX nodes x), none) := by
  have hci : chkC x.c = 0 → 0 ≤ x.c.fr ∧ 0 ≤ x.c.to := fun h => ⟨(chkC_in h).1, (chkC_in h).2.2.1⟩
  refine fn_ok CN rfl (by kernel_rfl) Try.func53 rfl ?_
  repeat' (first | (refine Sat.go (Eq.refl _) (NS.ite (fun h => ?_) (fun h => ?_))) | (refine Sat.go (Eq.refl _) (NS.chk (by kernel_rfl) ?_)) | (refine Sat.go (Eq.refl _) (NS.call (rCtc_ok x.c) rfl ?_)) | (exact Sat.go (Eq.refl _) (NS.ret rfl rfl (LeA.of (congrArg A.bool (by rw [Bool.eq_iff_iff, validX_iff]; simp only [decide_eq_true_eq, decide_eq_false_iff_not, beq_iff_eq, beq_eq_false_iff_ne, bne_iff_ne, bne_eq_false_iff_eq, Bool.false_eq_true] at *; constructor <;> (intro hh; first | exact hh.elim | omega)))))))
theorem ren_chg (σ : Nat → Nat) (x : Chg) : RenL σ x.cells x.cells := renChg σ x
/-- A change ahead, or none. -/
def optA : Option Chg → A
  | none => .nilp
  | some p => .ip 11 (getA p.cells)
theorem follows_ok (p : Option Chg) (x : Chg) (h1 : ∀ q, p = some q → 1 ≤ q.cnt ∧ q.cnt ≤ 1000000000000) : FnOK Try.prog 65 [optA p, .agg x.cells] (.int .i64 (folE p x), none) := by
  cases p with
  | none =>
    refine fn_ok CN rfl (by kernel_rfl) Try.func65 rfl ?_
    repeat' (first | (refine Sat.go (Eq.refl _) (NS.ite (fun h => ?_) (fun h => ?_))) | (refine Sat.go (Eq.refl _) (NS.chk (by kernel_rfl) ?_)) | (exact Sat.go (Eq.refl _) (NS.ret rfl rfl (LeA.of (congrArg (A.int .i64) (by unfold folE; simp only [decide_eq_true_eq, decide_eq_false_iff_not, beq_iff_eq, beq_eq_false_iff_ne, bne_iff_ne, bne_eq_false_iff_eq] at *; (repeat' split) <;> omega))))))
  | some q =>
    have hq := h1 q rfl
    have hw : IntKind.i64.wrap (q.cnt + 1) = q.cnt + 1 := wrap_i64 (by omega) (by omega)
    refine fn_ok CN rfl (by kernel_rfl) Try.func65 rfl ?_
    repeat' (first | (refine Sat.go (Eq.refl _) (NS.ite (fun h => ?_) (fun h => ?_))) | (refine Sat.go (Eq.refl _) (NS.chk (by kernel_rfl) ?_)) | (exact Sat.go (Eq.refl _) (NS.ret rfl rfl (LeA.of (congrArg (A.int .i64) (by unfold folE; simp only [Bool.not_eq_true', Bool.not_eq_false', Bool.or_eq_true, Bool.and_eq_true, decide_eq_true_eq, decide_eq_false_iff_not, beq_iff_eq, beq_eq_false_iff_ne, bne_iff_ne, bne_eq_false_iff_eq] at *; (repeat' split) <;> omega))))))
end Go.Proofs.Ythfbahebeembeaa
