/- Searching the items of a storage. -/
import Derived.Test.YtkgaaaidmaddnaaJ
set_option linter.unusedSimpArgs false
set_option linter.unusedSectionVars false
set_option linter.unusedVariables false
namespace Go.Proofs.Ytkgaaaidmaddnaa
open Go.Sy Go.Mb
set_option maxRecDepth 100000
set_option linter.unusedVariables false

theorem ren_cells (σ : Nat → Nat) (x : Nid) : RenL σ x.cells x.cells := ⟨_, _, rfl, rfl, _, _, rfl, rfl, _, _, rfl, rfl, _, _, rfl, rfl, _, _, rfl, rfl, rfl⟩

theorem index1_ok (x : Itm) (id : Nid) : FnOK Try.prog 94 [.agg x.cells, .ip 5 (getA id.cells)] (.bool (hasId id x), none) := by
  refine fn_ok CN rfl (by kernel_rfl) Try.func94 rfl ?_
  exact Sat.go (Eq.refl _) (NS.ret rfl rfl (LeA.refl _))

/-- slices.IndexFunc over the items, with the test for an id. -/
theorem idxId_ok (l : List Itm) (id : Nid) (hl : l.length ≤ 1000000) : FnOK Try.prog 64 [slI l, .fn 94 [.ip 5 (getA id.cells)]] (.int .i64 (idx (hasId id) l), none) := by
  refine fn_ok CN rfl (by kernel_rfl) Try.func64 rfl ?_
  refine Sat.go (Eq.refl _) ?_
  refine NS.loop (σ := { k : Nat // k ≤ l.length ∧ ∀ i, i < k → hasId id (l.getD i default) = false }) (fun k => [(0, slI l), (1, .fn 94 [.ip 5 (getA id.cells)]), (7, .int .i64 l.length), (8, .int .i64 k.1)]) (fun _ => []) (fun k => l.length - k.1) ⟨0, Nat.zero_le _, fun i hi => by omega⟩ ?_ ?_
  · exact weak_hd [] rfl ⟨rfl, rfl, rfl, rfl, trivial⟩ trivial trivial (by kernel_rfl)
  · rintro ⟨k, hk, hn⟩
    refine Sat.go (Eq.refl _) (NS.ite (fun h => ?_) (fun h => ?_))
    · simp at h
      refine Sat.go (Eq.refl _) (NS.need (by simp; omega) ?_)
      refine Sat.go (Eq.refl _) (NS.call (index1_ok (l.getD k default) id) rfl ?_)
      refine Sat.go (Eq.refl _) (NS.ite (fun h2 => ?_) (fun h2 => ?_))
      · refine Sat.go (Eq.refl _) (NS.leaveOut rfl (Eq.refl _) (NS.ret rfl rfl (LeA.of (congrArg (A.int .i64) ?_))))
        exact (idx_found (by omega) h2 hn).symm
      · refine Sat.go (Eq.refl _) (NS.next ⟨k + 1, by omega, fun i hi => ?_⟩ (by simp; omega) ?_)
        · by_cases hik : i = k
          · subst hik; exact h2
          · exact hn i (by omega)
        · exact weak_hd [] rfl ⟨rfl, rfl, rfl, ren_int rfl (i64_k (by omega) (by omega)), trivial⟩ trivial trivial (by kernel_rfl)
    · simp at h
      refine Sat.go (Eq.refl _) (NS.leave rfl (Eq.refl _) ?_)
      refine Sat.go (Eq.refl _) (NS.ret rfl rfl (LeA.of (congrArg (A.int .i64) ?_)))
      exact (idx_none fun i hi => hn i (by omega)).symm

theorem index_ok (l : List Itm) (id : Nid) (hl : l.length ≤ 1000000) : FnOK Try.prog 61 [slI l, .agg id.cells] (.int .i64 (idx (hasId id) l), none) := by
  refine fn_ok CN rfl (by kernel_rfl) Try.func61 rfl ?_
  refine Sat.go (Eq.refl _) (NS.call (idxId_ok l id hl) rfl ?_)
  exact Sat.go (Eq.refl _) (NS.ret rfl rfl (LeA.refl _))

theorem rIndex_ok (l : List Itm) (id : Nid) (hl : l.length ≤ 1000000) : FnOK Try.prog 63 [slI l, .agg id.cells] (.int .i64 (idx (hasId id) l), none) := by
  refine fn_ok CN rfl (by kernel_rfl) Try.func63 rfl ?_
  refine Sat.go (Eq.refl _) ?_
  refine NS.loop (σ := { k : Nat // k ≤ l.length ∧ ∀ i, i < k → hasId id (l.getD i default) = false }) (fun k => [(0, slI l), (3, .ptr 3 0), (5, .int .i64 k.1)]) (fun _ => [(3, .box id.cells)]) (fun k => l.length - k.1) ⟨0, Nat.zero_le _, fun i hi => by omega⟩ ?_ ?_
  · exact weak_hd [] rfl ⟨rfl, rfl, rfl, trivial⟩ ⟨⟨_, rfl, ren_cells _ _⟩, trivial⟩ trivial (by kernel_rfl)
  · rintro ⟨k, hk, hn⟩
    refine Sat.go (Eq.refl _) (NS.ite (fun h => ?_) (fun h => ?_))
    · simp at h
      refine Sat.go (Eq.refl _) (NS.chk (by kernel_rfl) ?_)
      refine Sat.go (Eq.refl _) (NS.need (by simp; omega) ?_)
      refine Sat.go (Eq.refl _) (NS.ite (fun h2 => ?_) (fun h2 => ?_))
      · refine Sat.go (Eq.refl _) (NS.leaveOut rfl (Eq.refl _) (NS.ret rfl rfl (LeA.of (congrArg (A.int .i64) ?_))))
        exact (idx_found (by omega) h2 hn).symm
      · refine Sat.go (Eq.refl _) (NS.next ⟨k + 1, by omega, fun i hi => ?_⟩ (by simp; omega) ?_)
        · by_cases hik : i = k
          · subst hik; exact h2
          · exact hn i (by omega)
        · exact weak_hd [] rfl ⟨rfl, rfl, ren_int rfl (i64_k (by omega) (by omega)), trivial⟩ ⟨⟨_, rfl, ren_cells _ _⟩, trivial⟩ trivial (by kernel_rfl)
    · simp at h
      refine Sat.go (Eq.refl _) (NS.leave rfl (Eq.refl _) ?_)
      refine Sat.go (Eq.refl _) (NS.ret rfl rfl (LeA.of (congrArg (A.int .i64) ?_)))
      exact (idx_none fun i hi => hn i (by omega)).symm
end Go.Proofs.Ytkgaaaidmaddnaa
