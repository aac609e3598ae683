/- The order of ids and items. -/
import Derived.Test.YtkgaaaidmaddnaaOA
set_option linter.unusedSimpArgs false
set_option linter.unusedSectionVars false
set_option linter.unusedVariables false
namespace Go.Proofs.Ytkgaaaidmaddnaa
open Go.Sy Go.Mb
set_option maxRecDepth 100000
set_option linter.unusedVariables false
set_option maxHeartbeats 1000000

def idL (x : Nid) : List Int := [x.source, x.created, x.seq, x.off, x.total]
theorem row5 (a b c d e : Int) : ∀ i, i < 5 → ∀ j, j < 1 → getA [.int .i64 a, .int .i64 b, .int .i64 c, .int .i64 d, .int .i64 e] (i * 1 + j) = rowL nC [a, b, c, d, e] i j := by
  intro i hi j hj
  obtain rfl : j = 0 := by omega
  match i, hi with
  | 0, _ => rfl
  | 1, _ => rfl
  | 2, _ => rfl
  | 3, _ => rfl
  | 4, _ => rfl
  | i + 5, h => omega
theorem row3 (a b c : Int) : ∀ i, i < 3 → ∀ j, j < 1 → getA [.int .i64 a, .int .i64 b, .int .i64 c] (i * 1 + j) = rowL nC [a, b, c] i j := by
  intro i hi j hj
  obtain rfl : j = 0 := by omega
  match i, hi with
  | 0, _ => rfl
  | 1, _ => rfl
  | 2, _ => rfl
  | i + 3, h => omega
theorem bCompareIds_ok (a b : Nid) : FnOK Try.prog 109 [.agg a.cells, .agg b.cells] (.int .i64 (cmpL (idL a) (idL b)), none) := by
  refine fn_ok CN rfl (by kernel_rfl) Try.func109 rfl ?_
  refine Sat.go (Eq.refl _) (NS.call ((compareL_ok (idL a) (idL b) (by simp [idL])).le (LeL.cons (LeA.sl rfl (row5 _ _ _ _ _)) (LeL.cons (LeA.sl rfl (row5 _ _ _ _ _)) LeL.nil))) rfl ?_)
  exact Sat.go (Eq.refl _) (NS.ret rfl rfl (LeA.of rfl))
def lessId (a b : Nid) : Bool := decide (cmpL (idL a) (idL b) < 0)
theorem bLess_ok (a b : Nid) : FnOK Try.prog 75 [.agg a.cells, .agg b.cells] (.bool (lessId a b), none) := by
  refine fn_ok CN rfl (by kernel_rfl) Try.func75 rfl ?_
  refine Sat.go (Eq.refl _) (NS.call (bCompareIds_ok a b) rfl ?_)
  exact Sat.go (Eq.refl _) (NS.ret rfl rfl (LeA.of rfl))
def cmpId (a b : Nid) : Int := if lessId a b then -1 else if lessId b a then 1 else 0
theorem compareIds_ok (a b : Nid) : FnOK Try.prog 71 [.agg a.cells, .agg b.cells] (.int .i64 (cmpId a b), none) := by
  refine fn_ok CN rfl (by kernel_rfl) Try.func71 rfl ?_
  refine Sat.go (Eq.refl _) (NS.call (bLess_ok a b) rfl ?_)
  refine Sat.go (Eq.refl _) (NS.ite (fun h => ?_) (fun h => ?_))
  · refine Sat.go (Eq.refl _) (NS.ret rfl rfl (LeA.of (congrArg (A.int .i64) ?_)))
    unfold cmpId; rw [if_pos h]
  refine Sat.go (Eq.refl _) (NS.call (bLess_ok b a) rfl ?_)
  refine Sat.go (Eq.refl _) (NS.ite (fun h2 => ?_) (fun h2 => ?_))
  · refine Sat.go (Eq.refl _) (NS.ret rfl rfl (LeA.of (congrArg (A.int .i64) ?_)))
    unfold cmpId; rw [if_neg (by rw [h]; simp), if_pos h2]
  · refine Sat.go (Eq.refl _) (NS.ret rfl rfl (LeA.of (congrArg (A.int .i64) ?_)))
    unfold cmpId; rw [if_neg (by rw [h]; simp), if_neg (by rw [h2]; simp)]
def cmpItm (a b : Itm) : Int := orL [cmpI b.prio a.prio, cmpI a.expires b.expires, cmpId a.id b.id]
theorem order1_ok (d : Dur) (i k : Nat) (hi : i < d.items.length) (hk : k < d.items.length) : FnOK Try.prog 68 [.int .i64 i, .int .i64 k, .ip 2 (getA d.cells)] (.int .i64 (cmpItm (d.items.getD i default) (d.items.getD k default)), none) := by
  refine fn_ok CN rfl (by kernel_rfl) Try.func68 rfl ?_
  refine Sat.go (Eq.refl _) (NS.chk (by kernel_rfl) ?_)
  refine Sat.go (Eq.refl _) (NS.need (by simp; omega) ?_)
  refine Sat.go (Eq.refl _) (NS.need (by simp; omega) ?_)
  refine Sat.go (Eq.refl _) (NS.chk (by kernel_rfl) ?_)
  refine Sat.go (Eq.refl _) (NS.call (compare_ok (d.items.getD k default).prio (d.items.getD i default).prio) rfl ?_)
  refine Sat.go (Eq.refl _) (NS.call (compare_ok (d.items.getD i default).expires (d.items.getD k default).expires) rfl ?_)
  refine Sat.go (Eq.refl _) (NS.call (compareIds_ok (d.items.getD i default).id (d.items.getD k default).id) rfl ?_)
  refine Sat.go (Eq.refl _) (NS.call ((or_ok [cmpI (d.items.getD k default).prio (d.items.getD i default).prio, cmpI (d.items.getD i default).expires (d.items.getD k default).expires, cmpId (d.items.getD i default).id (d.items.getD k default).id] (by simp)).le (LeL.cons (LeA.sl rfl (row3 _ _ _)) LeL.nil)) rfl ?_)
  exact Sat.go (Eq.refl _) (NS.ret rfl rfl (LeA.of rfl))
end Go.Proofs.Ytkgaaaidmaddnaa
