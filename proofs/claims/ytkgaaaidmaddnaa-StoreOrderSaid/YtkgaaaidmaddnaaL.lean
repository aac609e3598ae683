/- The statement StorePut: the walk. -/
import Derived.Test.YtkgaaaidmaddnaaK
set_option linter.unusedSimpArgs false
set_option linter.unusedSectionVars false
set_option linter.unusedVariables false
namespace Go.Proofs.Ytkgaaaidmaddnaa
open Go.Sy Go.Mb
set_option maxRecDepth 100000
set_option linter.unusedVariables false
set_option maxHeartbeats 1000000

structure Inp where
  d : Dur
  self : Int
  quota : Int
  now : Int
  x : Itm
def Inp.cells (i : Inp) : List A := [slI i.d.items, slI i.d.inbox, .int .i64 i.self, .int .i64 i.quota, .int .i64 i.now, .int .i64 i.x.ticket, .int .i64 i.x.id.source, .int .i64 i.x.id.created, .int .i64 i.x.id.seq, .int .i64 i.x.id.off, .int .i64 i.x.id.total, .int .i64 i.x.dest, .int .i64 i.x.expires, .int .i64 i.x.prio, .bool i.x.custody, .str i.x.data]
def greatI (i : Inp) : Bool := greatD i.d || decide ((i.x.data.size : Int) > 100)
theorem greatI_ok (i : Inp) : FnOK Try.prog 20 [.agg i.cells] (.bool (greatI i), none) := by
  refine fn_ok CN rfl (by kernel_rfl) Try.func20 rfl ?_
  refine Sat.go (Eq.refl _) (NS.call (great_ok i.d) rfl ?_)
  refine Sat.go (Eq.refl _) (NS.ite (fun h => ?_) (fun h => ?_))
  · refine Sat.go (Eq.refl _) (NS.ret rfl rfl (LeA.of (congrArg A.bool ?_)))
    simp only [greatI, h]; simp
  · refine Sat.go (Eq.refl _) (NS.ret rfl rfl (LeA.of (congrArg A.bool ?_)))
    simp only [greatI, h]; simp
theorem not_great {d : Dur} (h : greatD d = false) : d.items.length ≤ 12 ∧ d.inbox.length ≤ 12 ∧ d.items.any bigI = false ∧ d.inbox.any bigI = false := by
  unfold greatD at h
  simp only [Bool.or_eq_false_iff, decide_eq_false_iff_not] at h
  obtain ⟨⟨⟨h1, h2⟩, h3⟩, h4⟩ := h
  exact ⟨by omega, by omega, h3, h4⟩
theorem putM_len (d : Dur) (self quota : Int) (x : Itm) (now : Int) : (putM d self quota x now).1.length ≤ 1 := by
  unfold putM; repeat' split
  all_goals simp
theorem removeM_len (d : Dur) (id : Nid) (now : Int) : (removeM d id now).1.length ≤ 1 := by
  unfold removeM; repeat' split
  all_goals simp
theorem expireM_len (d : Dur) (now : Int) : (expireM d now).1.length ≤ d.items.length := by
  unfold expireM; repeat' split
  · simp
  · simp
  · exact expRecs_len _ _

theorem storePut_ok (i : Inp) : FnOK Try.prog 7 [.agg i.cells] (.bool true, none) := by
  refine fn_ok CN rfl (by kernel_rfl) Try.func7 rfl ?_
  refine Sat.go (Eq.refl _) (NS.call (greatI_ok i) rfl ?_)
  refine Sat.go (Eq.refl _) (NS.ite (fun h => ?_) (fun h => ?_))
  · refine Sat.go (Eq.refl _) (NS.call awake_ok rfl ?_)
    exact Sat.go (Eq.refl _) (NS.ret rfl rfl (LeA.of rfl))
  have hg : greatD i.d = false := by unfold greatI at h; simp only [Bool.or_eq_false_iff] at h; exact h.1
  obtain ⟨h1, h2, _, _⟩ := not_great hg
  have b1 : i.d.items.length ≤ 1000000 := by omega
  have b2 : i.d.inbox.length ≤ 1000000 := by omega
  have l1 := putM_len i.d i.self i.quota i.x i.now
  have l2 := removeM_len i.d i.x.id i.now
  have l3 := expireM_len i.d i.now
  refine Sat.go (Eq.refl _) (NS.call (put_ok i.d i.self i.quota i.x i.now b1 b2) rfl ?_)
  refine Sat.go (Eq.refl _) (NS.call (rPut_ok i.d i.self i.quota i.x i.now b1 b2) rfl ?_)
  refine Sat.go (Eq.refl _) (NS.call (remove_ok i.d i.x.id i.now b1 b2) rfl ?_)
  refine Sat.go (Eq.refl _) (NS.call (rRemove_ok i.d i.x.id i.now b1 b2) rfl ?_)
  refine Sat.go (Eq.refl _) (NS.call (expire_ok i.d i.now b1 b2) rfl ?_)
  refine Sat.go (Eq.refl _) (NS.call (rExpire_ok i.d i.now b1 b2) rfl ?_)
  refine Sat.go (Eq.refl _) (NS.call (sameRecords_ok (putM i.d i.self i.quota i.x i.now).1 _ (by omega)) rfl ?_)
  refine Sat.go (Eq.refl _) (NS.yes ((sameBy_iff fun _ _ => Jrec.eqv_iff).2 rfl) ?_)
  refine Sat.go (Eq.refl _) (NS.yes (beq_self_eq_true _) ?_)
  refine Sat.go (Eq.refl _) (NS.yes (beq_self_eq_true _) ?_)
  refine Sat.go (Eq.refl _) (NS.call (sameRecords_ok (removeM i.d i.x.id i.now).1 _ (by omega)) rfl ?_)
  refine Sat.go (Eq.refl _) (NS.yes ((sameBy_iff fun _ _ => Jrec.eqv_iff).2 rfl) ?_)
  refine Sat.go (Eq.refl _) (NS.yes (beq_self_eq_true _) ?_)
  refine Sat.go (Eq.refl _) (NS.call (sameRecords_ok (expireM i.d i.now).1 _ (by omega)) rfl ?_)
  refine Sat.go (Eq.refl _) (NS.yes ((sameBy_iff fun _ _ => Jrec.eqv_iff).2 rfl) ?_)
  refine Sat.go (Eq.refl _) (NS.yes (beq_self_eq_true _) ?_)
  refine Sat.go (Eq.refl _) (NS.call awake_ok rfl ?_)
  exact Sat.go (Eq.refl _) (NS.ret rfl rfl (LeA.of rfl))
end Go.Proofs.Ytkgaaaidmaddnaa
