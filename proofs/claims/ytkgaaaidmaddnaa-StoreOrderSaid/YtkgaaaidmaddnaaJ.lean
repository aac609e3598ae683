/- The contracts of the checks of journal records and items, in the program and in the reference. -/
import Derived.Test.YtkgaaaidmaddnaaE
import Derived.Test.YtkgaaaidmaddnaaProg
set_option linter.unusedSimpArgs false
set_option linter.unusedSectionVars false
set_option linter.unusedVariables false
namespace Go.Proofs.Ytkgaaaidmaddnaa
open Go.Sy Go.Mb
set_option maxRecDepth 100000
set_option linter.unusedVariables false

def i5 : List CK := [.i .i64, .i .i64, .i .i64, .i .i64, .i .i64]
def kItem : List CK := [.i .i64, .i .i64, .i .i64, .i .i64, .i .i64, .i .i64, .i .i64, .i .i64, .i .i64, .b, .s]
def kRecord : List CK := [.i .i64, .i .i64, .i .i64, .i .i64, .i .i64, .i .i64, .i .i64, .i .i64, .i .i64, .i .i64, .b, .s, .i .i64, .i .i64, .i .i64, .i .i64, .i .i64, .i .i64, .i .i64]
noncomputable def EN : Env := { P := Try.prog, eqT := lookE [(34, i5), (36, kItem), (38, kRecord)] }
theorem kinds_id : kindsT Try.prog 6 34 = some i5 := by kernel_rfl
theorem kinds_item : kindsT Try.prog 6 36 = some kItem := by kernel_rfl
theorem kinds_record : kindsT Try.prog 6 38 = some kRecord := by kernel_rfl
theorem guard_id : Try.prog.eqGuardType Try.prog.depth 34 = false := by kernel_rfl
theorem guard_item : Try.prog.eqGuardType Try.prog.depth 36 = false := by kernel_rfl
theorem guard_record : Try.prog.eqGuardType Try.prog.depth 38 = false := by kernel_rfl
theorem EN_ok : EqOK EN := by
  refine eqOK_of ?_
  intro p hp
  simp only [List.mem_cons, List.not_mem_nil, or_false] at hp
  rcases hp with rfl | rfl | rfl
  · exact ⟨kinds_id, guard_id, by rw [Try.underlying34]; trivial⟩
  · exact ⟨kinds_item, guard_item, by rw [Try.underlying36]; trivial⟩
  · exact ⟨kinds_record, guard_record, by rw [Try.underlying38]; trivial⟩
noncomputable def CN : Cx := { E := EN, inl := [], ok := EN_ok }

theorem in_ok (n lo hi : Int) : FnOK Try.prog 87 [.int .i64 n, .int .i64 lo, .int .i64 hi] (.bool (inR n lo hi), none) := by
  refine fn_ok CN rfl (by kernel_rfl) Try.func87 rfl ?_
  refine Sat.go (Eq.refl _) (NS.ite (fun h => ?_) (fun h => ?_))
  · exact Sat.go (Eq.refl _) (NS.ret rfl rfl (LeA.of (congrArg A.bool (inR_t h))))
  · exact Sat.go (Eq.refl _) (NS.ret rfl rfl (LeA.of (congrArg A.bool (inR_f h))))
theorem within_ok (n lo hi : Int) : FnOK Try.prog 77 [.int .i64 n, .int .i64 lo, .int .i64 hi] (.bool (inR n lo hi), none) := by
  refine fn_ok CN rfl (by kernel_rfl) Try.func77 rfl ?_
  refine Sat.go (Eq.refl _) (NS.ite (fun h => ?_) (fun h => ?_))
  · exact Sat.go (Eq.refl _) (NS.ret rfl rfl (LeA.of (congrArg A.bool (inR_t h))))
  · exact Sat.go (Eq.refl _) (NS.ret rfl rfl (LeA.of (congrArg A.bool (inR_f h))))

theorem checkId_ok (x : Nid) : FnOK Try.prog 79 [.agg x.cells] (.bool (validId x), none) := by
  refine fn_ok CN rfl (by kernel_rfl) Try.func79 rfl ?_
  repeat' (first
    | refine Sat.go (Eq.refl _) ?_
    | refine NS.call (within_ok _ _ _) rfl ?_
    | refine NS.ite (fun _ => ?_) (fun _ => ?_)
    | refine NS.ret rfl rfl (LeA.of (congrArg A.bool ?_)))
  all_goals (simp_all [validId])
theorem validId_ok (x : Nid) : FnOK Try.prog 89 [.agg x.cells] (.bool (validId x), none) := by
  refine fn_ok CN rfl (by kernel_rfl) Try.func89 rfl ?_
  repeat' (first
    | refine Sat.go (Eq.refl _) ?_
    | refine NS.call (in_ok _ _ _) rfl ?_
    | refine NS.ite (fun _ => ?_) (fun _ => ?_)
    | refine NS.ret rfl rfl (LeA.of (congrArg A.bool ?_)))
  all_goals (simp_all [validId])

theorem jItem_ok (x : Itm) : FnOK Try.prog 78 [.agg x.cells] (.int .i64 (itemErr x), none) := by
  refine fn_ok CN rfl (by kernel_rfl) Try.func78 rfl ?_
  repeat' (first
    | refine Sat.go (Eq.refl _) ?_
    | refine NS.call (checkId_ok x.id) rfl ?_
    | refine NS.call (within_ok _ _ _) rfl ?_
    | refine NS.ite (fun _ => ?_) (fun _ => ?_)
    | refine NS.ret rfl rfl (LeA.of (congrArg (A.int .i64) ?_)))
  all_goals (simp_all [itemErr])
theorem rItem_ok (x : Itm) : FnOK Try.prog 88 [.agg x.cells] (.int .i64 (itemErr x), none) := by
  refine fn_ok CN rfl (by kernel_rfl) Try.func88 rfl ?_
  repeat' (first
    | refine Sat.go (Eq.refl _) ?_
    | refine NS.call (validId_ok x.id) rfl ?_
    | refine NS.call (in_ok _ _ _) rfl ?_
    | refine NS.ite (fun _ => ?_) (fun _ => ?_)
    | refine NS.ret rfl rfl (LeA.of (congrArg (A.int .i64) ?_)))
  all_goals (simp_all [itemErr])
  all_goals (simp [inR] at *; omega)
set_option maxHeartbeats 1000000
theorem jCheck_ok (r : Jrec) : FnOK Try.prog 50 [.agg r.cells] (.int .i64 (recErr r), none) := by
  refine fn_ok CN rfl (by kernel_rfl) Try.func50 rfl ?_
  repeat' (first
    | refine Sat.go (Eq.refl _) ?_
    | refine NS.call (jItem_ok r.item) rfl ?_
    | refine NS.call (checkId_ok r.id) rfl ?_
    | refine NS.call (within_ok _ _ _) rfl ?_
    | refine NS.ite (fun _ => ?_) (fun _ => ?_)
    | refine NS.ret rfl rfl (LeA.of (congrArg (A.int .i64) ?_)))
  all_goals (simp_all [recErr, Nid.eqv, Itm.eqv, Nid.zero, Itm.zero])
theorem rCheck_ok (r : Jrec) : FnOK Try.prog 52 [.agg r.cells] (.int .i64 (recErr r), none) := by
  refine fn_ok CN rfl (by kernel_rfl) Try.func52 rfl ?_
  repeat' (first
    | refine Sat.go (Eq.refl _) ?_
    | refine NS.call (rItem_ok r.item) rfl ?_
    | refine NS.call (validId_ok r.id) rfl ?_
    | refine NS.call (in_ok _ _ _) rfl ?_
    | refine NS.ite (fun _ => ?_) (fun _ => ?_)
    | refine NS.ret rfl rfl (LeA.of (congrArg (A.int .i64) ?_)))
  all_goals (simp_all [recErr, Nid.eqv, Itm.eqv, Nid.zero, Itm.zero])
end Go.Proofs.Ytkgaaaidmaddnaa
