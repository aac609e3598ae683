/- The contracts of the storage's checks. -/
import Derived.Test.YtkgaaaidmaddnaaA
set_option linter.unusedSimpArgs false
set_option linter.unusedSectionVars false
set_option linter.unusedVariables false
namespace Go.Proofs.Ytkgaaaidmaddnaa
open Go.Sy Go.Mb
set_option maxRecDepth 100000
set_option linter.unusedVariables false

theorem validItem_ok (x : Itm) : FnOK Try.prog 57 [.agg x.cells] (.bool (okItem x), none) := by
  refine fn_ok CN rfl (by kernel_rfl) Try.func57 rfl ?_
  refine Sat.go (Eq.refl _) (NS.call (jCheck_ok ⟨1, x, .zero, 0, 0⟩) rfl ?_)
  exact Sat.go (Eq.refl _) (NS.ret rfl rfl (LeA.of (congrArg A.bool (recErr_store x))))
theorem rValidItem_ok (x : Itm) : FnOK Try.prog 62 [.agg x.cells] (.bool (okItem x), none) := by
  refine fn_ok CN rfl (by kernel_rfl) Try.func62 rfl ?_
  refine Sat.go (Eq.refl _) (NS.call (rItem_ok x) rfl ?_)
  exact Sat.go (Eq.refl _) (NS.ret rfl rfl (LeA.refl _))
theorem bad_ok (x : Itm) : FnOK Try.prog 91 [.agg x.cells] (.bool (badItem x), none) := by
  refine fn_ok CN rfl (by kernel_rfl) Try.func91 rfl ?_
  refine Sat.go (Eq.refl _) (NS.call (validItem_ok x) rfl ?_)
  exact Sat.go (Eq.refl _) (NS.ret rfl rfl (LeA.refl _))

theorem idxBad_ok (l : List Itm) (hl : l.length ≤ 1000000) : FnOK Try.prog 64 [slI l, .fn 91 []] (.int .i64 (idx badItem l), none) := by
  refine fn_ok CN rfl (by kernel_rfl) Try.func64 rfl ?_
  refine Sat.go (Eq.refl _) ?_
  refine NS.loop (σ := { k : Nat // k ≤ l.length ∧ ∀ i, i < k → badItem (l.getD i default) = false }) (fun k => [(0, slI l), (1, .fn 91 []), (7, .int .i64 l.length), (8, .int .i64 k.1)]) (fun _ => []) (fun k => l.length - k.1) ⟨0, Nat.zero_le _, fun i hi => by omega⟩ ?_ ?_
  · exact weak_hd [] rfl ⟨rfl, rfl, rfl, rfl, trivial⟩ trivial trivial (by kernel_rfl)
  · rintro ⟨k, hk, hn⟩
    refine Sat.go (Eq.refl _) (NS.ite (fun h => ?_) (fun h => ?_))
    · simp at h
      refine Sat.go (Eq.refl _) (NS.need (by simp; omega) ?_)
      refine Sat.go (Eq.refl _) (NS.call (bad_ok (l.getD k default)) rfl ?_)
      refine Sat.go (Eq.refl _) (NS.ite (fun h2 => ?_) (fun h2 => ?_))
      · refine Sat.go (Eq.refl _) (NS.leaveOut rfl (Eq.refl _) (NS.ret rfl rfl (LeA.of (congrArg (A.int .i64) ?_))))
        exact (idx_found (by omega) h2 hn).symm
      · refine Sat.go (Eq.refl _) (NS.next ⟨k + 1, by omega, fun i hi => ?_⟩ (by simp; omega) ?_)
        · by_cases hik : i = k
          · subst hik; exact h2
          · exact hn i (by omega)
        · exact weak_hd [] rfl ⟨rfl, rfl, rfl, ren_int rfl (i64_k (by omega) (by omega)), trivial⟩ trivial trivial (by kernel_rfl)
    · simp at h
      refine Sat.go (Eq.refl _) (NS.leave rfl (Eq.refl _) ?_)
      refine Sat.go (Eq.refl _) (NS.ret rfl rfl (LeA.of (congrArg (A.int .i64) ?_)))
      exact (idx_none fun i hi => hn i (by omega)).symm
theorem idx_any {α : Type} [Inhabited α] (p : α → Bool) (l : List α) : decide (idx p l ≥ 0) = l.any p := by
  have := idx_neg p l
  cases h : l.any p with
  | false => have := this.2 h; simp; omega
  | true => rw [h] at this; simp; simp at this; omega
theorem anyBad_ok (l : List Itm) (hl : l.length ≤ 1000000) : FnOK Try.prog 92 [slI l, .fn 91 []] (.bool (l.any badItem), none) := by
  refine fn_ok CN rfl (by kernel_rfl) Try.func92 rfl ?_
  refine Sat.go (Eq.refl _) (NS.call (idxBad_ok l hl) rfl ?_)
  exact Sat.go (Eq.refl _) (NS.ret rfl rfl (LeA.of (congrArg A.bool (idx_any _ _))))

theorem twice_ok (l : List Itm) (hl : l.length ≤ 1000000) : FnOK Try.prog 93 [slI l] (.bool (twiceM l), none) := by
  refine fn_ok CN rfl (by kernel_rfl) Try.func93 rfl ?_
  refine Sat.go (Eq.refl _) ?_
  refine NS.loop (σ := { k : Nat // k ≤ l.length ∧ ∀ i, i < k → idx (hasId (l.getD i default).id) l = (i : Int) }) (fun k => [(0, slI l), (5, slI l), (6, .int .i64 l.length), (7, .int .i64 k.1)]) (fun _ => []) (fun k => l.length - k.1) ⟨0, Nat.zero_le _, fun i hi => by omega⟩ ?_ ?_
  · exact weak_hd [] rfl ⟨rfl, rfl, rfl, rfl, trivial⟩ trivial trivial (by kernel_rfl)
  · rintro ⟨k, hk, hn⟩
    refine Sat.go (Eq.refl _) (NS.ite (fun h => ?_) (fun h => ?_))
    · simp at h
      refine Sat.go (Eq.refl _) (NS.need (by simp; omega) ?_)
      refine Sat.go (Eq.refl _) (NS.call (index_ok l (l.getD k default).id hl) rfl ?_)
      have hle := idx_le (p := hasId (l.getD k default).id) (l := l) (k := k) (by omega) (hasId_self _)
      refine Sat.go (Eq.refl _) (NS.ite (fun h2 => ?_) (fun h2 => ?_))
      · simp only [decide_eq_true_eq] at h2
        refine Sat.go (Eq.refl _) (NS.leaveOut rfl (Eq.refl _) (NS.ret rfl rfl (LeA.of (congrArg A.bool ?_))))
        exact (twice_t (k := k) (by omega) (by omega)).symm
      · simp only [decide_eq_false_iff_not] at h2
        refine Sat.go (Eq.refl _) (NS.next ⟨k + 1, by omega, fun i hi => ?_⟩ (by simp; omega) ?_)
        · by_cases hik : i = k
          · subst hik; omega
          · exact hn i (by omega)
        · exact weak_hd [] rfl ⟨rfl, rfl, rfl, ren_int rfl (i64_k (by omega) (by omega)), trivial⟩ trivial trivial (by kernel_rfl)
    · simp at h
      refine Sat.go (Eq.refl _) (NS.leave rfl (Eq.refl _) ?_)
      refine Sat.go (Eq.refl _) (NS.ret rfl rfl (LeA.of (congrArg A.bool ?_)))
      exact (twice_f fun i hi => hn i (by omega)).symm
theorem rTwice_ok (l : List Itm) (hl : l.length ≤ 1000000) : FnOK Try.prog 66 [slI l] (.bool (twiceM l), none) := by
  refine fn_ok CN rfl (by kernel_rfl) Try.func66 rfl ?_
  refine Sat.go (Eq.refl _) ?_
  refine NS.loop (σ := { k : Nat // k ≤ l.length ∧ ∀ i, i < k → idx (hasId (l.getD i default).id) l = (i : Int) }) (fun k => [(0, slI l), (3, .int .i64 k.1)]) (fun _ => []) (fun k => l.length - k.1) ⟨0, Nat.zero_le _, fun i hi => by omega⟩ ?_ ?_
  · exact weak_hd [] rfl ⟨rfl, rfl, trivial⟩ trivial trivial (by kernel_rfl)
  · rintro ⟨k, hk, hn⟩
    refine Sat.go (Eq.refl _) (NS.ite (fun h => ?_) (fun h => ?_))
    · simp at h
      refine Sat.go (Eq.refl _) (NS.need (by simp; omega) ?_)
      refine Sat.go (Eq.refl _) (NS.call (rIndex_ok l (l.getD k default).id hl) rfl ?_)
      refine Sat.go (Eq.refl _) (NS.ite (fun h2 => ?_) (fun h2 => ?_))
      · simp only [bne_iff_ne, ne_eq] at h2
        refine Sat.go (Eq.refl _) (NS.leaveOut rfl (Eq.refl _) (NS.ret rfl rfl (LeA.of (congrArg A.bool ?_))))
        exact (twice_t (k := k) (by omega) h2).symm
      · simp only [bne_eq_false_iff_eq] at h2
        refine Sat.go (Eq.refl _) (NS.next ⟨k + 1, by omega, fun i hi => ?_⟩ (by simp; omega) ?_)
        · by_cases hik : i = k
          · subst hik; exact h2
          · exact hn i (by omega)
        · exact weak_hd [] rfl ⟨rfl, ren_int rfl (i64_k (by omega) (by omega)), trivial⟩ trivial trivial (by kernel_rfl)
    · simp at h
      refine Sat.go (Eq.refl _) (NS.leave rfl (Eq.refl _) ?_)
      refine Sat.go (Eq.refl _) (NS.ret rfl rfl (LeA.of (congrArg A.bool ?_)))
      exact (twice_f fun i hi => hn i (by omega)).symm

theorem all_f {α : Type} [Inhabited α] {p : α → Bool} {l : List α} {k : Nat} (h : k < l.length) (hp : p (l.getD k default) = false) : l.all p = false := by
  rw [List.all_eq_false]; exact ⟨l.getD k default, by rw [getD_lt h]; exact List.getElem_mem h, by simp only [hp]; simp⟩
theorem all_t {α : Type} [Inhabited α] {p : α → Bool} {l : List α} (hn : ∀ k, k < l.length → p (l.getD k default) = true) : l.all p = true := by
  rw [List.all_eq_true]
  intro x hx
  obtain ⟨i, hi, rfl⟩ := List.getElem_of_mem hx
  have := hn i hi
  rwa [getD_lt hi] at this
theorem rItems_ok (l : List Itm) (hl : l.length ≤ 1000000) : FnOK Try.prog 65 [slI l] (.bool (l.all okItem), none) := by
  refine fn_ok CN rfl (by kernel_rfl) Try.func65 rfl ?_
  refine Sat.go (Eq.refl _) ?_
  refine NS.loop (σ := { k : Nat // k ≤ l.length ∧ ∀ i, i < k → okItem (l.getD i default) = true }) (fun k => [(0, slI l), (3, .int .i64 k.1)]) (fun _ => []) (fun k => l.length - k.1) ⟨0, Nat.zero_le _, fun i hi => by omega⟩ ?_ ?_
  · exact weak_hd [] rfl ⟨rfl, rfl, trivial⟩ trivial trivial (by kernel_rfl)
  · rintro ⟨k, hk, hn⟩
    refine Sat.go (Eq.refl _) (NS.ite (fun h => ?_) (fun h => ?_))
    · simp at h
      refine Sat.go (Eq.refl _) (NS.need (by simp; omega) ?_)
      refine Sat.go (Eq.refl _) (NS.call (rValidItem_ok (l.getD k default)) rfl ?_)
      refine Sat.go (Eq.refl _) (NS.ite (fun h2 => ?_) (fun h2 => ?_))
      · simp only [Bool.not_eq_true'] at h2
        refine Sat.go (Eq.refl _) (NS.leaveOut rfl (Eq.refl _) (NS.ret rfl rfl (LeA.of (congrArg A.bool ?_))))
        exact (all_f (k := k) (by omega) h2).symm
      · simp only [Bool.not_eq_false'] at h2
        refine Sat.go (Eq.refl _) (NS.next ⟨k + 1, by omega, fun i hi => ?_⟩ (by simp; omega) ?_)
        · by_cases hik : i = k
          · subst hik; exact h2
          · exact hn i (by omega)
        · exact weak_hd [] rfl ⟨rfl, ren_int rfl (i64_k (by omega) (by omega)), trivial⟩ trivial trivial (by kernel_rfl)
    · simp at h
      refine Sat.go (Eq.refl _) (NS.leave rfl (Eq.refl _) ?_)
      refine Sat.go (Eq.refl _) (NS.ret rfl rfl (LeA.of (congrArg A.bool ?_)))
      exact (all_t fun i hi => hn i (by omega)).symm

theorem checkItems_ok (d : Dur) (h1 : d.items.length ≤ 1000000) (h2 : d.inbox.length ≤ 1000000) : FnOK Try.prog 55 [.agg d.cells] (.int .i64 (checkM d), none) := by
  refine fn_ok CN rfl (by kernel_rfl) Try.func55 rfl ?_
  repeat' (first
    | refine Sat.go (Eq.refl _) ?_
    | refine NS.call (anyBad_ok d.items h1) rfl ?_
    | refine NS.call (anyBad_ok d.inbox h2) rfl ?_
    | refine NS.call (twice_ok d.items h1) rfl ?_
    | refine NS.call (twice_ok d.inbox h2) rfl ?_
    | refine NS.ite (fun _ => ?_) (fun _ => ?_)
    | refine NS.ret rfl rfl (LeA.of (congrArg (A.int .i64) ?_)))
  all_goals (simp only [checkM, *]; simp)
theorem rValid_ok (d : Dur) (h1 : d.items.length ≤ 1000000) (h2 : d.inbox.length ≤ 1000000) : FnOK Try.prog 56 [.agg d.cells] (.bool (validM d), none) := by
  refine fn_ok CN rfl (by kernel_rfl) Try.func56 rfl ?_
  repeat' (first
    | refine Sat.go (Eq.refl _) ?_
    | refine NS.call (rItems_ok d.items h1) rfl ?_
    | refine NS.call (rItems_ok d.inbox h2) rfl ?_
    | refine NS.call (rTwice_ok d.items h1) rfl ?_
    | refine NS.call (rTwice_ok d.inbox h2) rfl ?_
    | refine NS.ite (fun _ => ?_) (fun _ => ?_)
    | refine NS.ret rfl rfl (LeA.of (congrArg A.bool ?_)))
  all_goals (simp only [validM, *]; simp)
theorem isQuota_ok (n : Int) : FnOK Try.prog 58 [.int .i64 n] (.bool (inR n 0 1073741824), none) := by
  refine fn_ok CN rfl (by kernel_rfl) Try.func58 rfl ?_
  refine Sat.go (Eq.refl _) (NS.ite (fun h => ?_) (fun h => ?_))
  · exact Sat.go (Eq.refl _) (NS.ret rfl rfl (LeA.of (congrArg A.bool (inR_t h))))
  · exact Sat.go (Eq.refl _) (NS.ret rfl rfl (LeA.of (congrArg A.bool (inR_f h))))
theorem isTime_ok (n : Int) : FnOK Try.prog 59 [.int .i64 n] (.bool (inR n 0 1099511627776), none) := by
  refine fn_ok CN rfl (by kernel_rfl) Try.func59 rfl ?_
  refine Sat.go (Eq.refl _) (NS.ite (fun h => ?_) (fun h => ?_))
  · exact Sat.go (Eq.refl _) (NS.ret rfl rfl (LeA.of (congrArg A.bool (inR_t h))))
  · exact Sat.go (Eq.refl _) (NS.ret rfl rfl (LeA.of (congrArg A.bool (inR_f h))))

theorem used_ok (d : Dur) (h1 : d.items.length ≤ 1000000) : FnOK Try.prog 24 [.agg d.cells] (.int .i64 (usedM d.items), none) := by
  refine fn_ok CN rfl (by kernel_rfl) Try.func24 rfl ?_
  refine Sat.go (Eq.refl _) ?_
  refine NS.loop (σ := { k : Nat // k ≤ d.items.length }) (fun k => [(3, .int .i64 (usedM (d.items.take k.1))), (7, slI d.items), (8, .int .i64 d.items.length), (9, .int .i64 k.1)]) (fun _ => []) (fun k => d.items.length - k.1) ⟨0, Nat.zero_le _⟩ ?_ ?_
  · exact weak_hd [] rfl ⟨rfl, rfl, rfl, rfl, trivial⟩ trivial trivial (by kernel_rfl)
  · rintro ⟨k, hk⟩
    refine Sat.go (Eq.refl _) (NS.ite (fun h => ?_) (fun h => ?_))
    · simp at h
      refine Sat.go (Eq.refl _) (NS.need (by simp; omega) ?_)
      refine Sat.go (Eq.refl _) (NS.next ⟨k + 1, by omega⟩ (by simp; omega) ?_)
      refine weak_hd [] rfl ⟨ren_int rfl ?_, rfl, rfl, ren_int rfl (i64_k (by omega) (by omega)), trivial⟩ trivial trivial (by kernel_rfl)
      rw [take_snoc (by omega), used_snoc]; rfl
    · simp at h
      refine Sat.go (Eq.refl _) (NS.leave rfl (Eq.refl _) ?_)
      refine Sat.go (Eq.refl _) (NS.ret rfl rfl (LeA.of (congrArg (A.int .i64) ?_)))
      rw [take_all (by omega)]
theorem rUsed_ok (d : Dur) (h1 : d.items.length ≤ 1000000) : FnOK Try.prog 38 [.agg d.cells] (.int .i64 (usedM d.items), none) := by
  refine fn_ok CN rfl (by kernel_rfl) Try.func38 rfl ?_
  refine Sat.go (Eq.refl _) ?_
  refine NS.loop (σ := { k : Nat // k ≤ d.items.length }) (fun k => [(1, .ptr 1 0), (3, .int .i64 (usedM (d.items.take k.1))), (4, .int .i64 k.1)]) (fun _ => [(1, .box d.cells)]) (fun k => d.items.length - k.1) ⟨0, Nat.zero_le _⟩ ?_ ?_
  · exact weak_hd [] rfl ⟨rfl, rfl, rfl, trivial⟩ ⟨⟨_, rfl, _, _, rfl, rfl, _, _, rfl, rfl, rfl⟩, trivial⟩ trivial (by kernel_rfl)
  · rintro ⟨k, hk⟩
    refine Sat.go (Eq.refl _) (NS.ite (fun h => ?_) (fun h => ?_))
    · simp at h
      refine Sat.go (Eq.refl _) (NS.need (by simp; omega) ?_)
      refine Sat.go (Eq.refl _) (NS.next ⟨k + 1, by omega⟩ (by simp; omega) ?_)
      refine weak_hd [] rfl ⟨rfl, ren_int rfl ?_, ren_int rfl (i64_k (by omega) (by omega)), trivial⟩ ⟨⟨_, rfl, _, _, rfl, rfl, _, _, rfl, rfl, rfl⟩, trivial⟩ trivial (by kernel_rfl)
      rw [take_snoc (by omega), used_snoc]; rfl
    · simp at h
      refine Sat.go (Eq.refl _) (NS.leave rfl (Eq.refl _) ?_)
      refine Sat.go (Eq.refl _) (NS.ret rfl rfl (LeA.of (congrArg (A.int .i64) ?_)))
      rw [take_all (by omega)]
end Go.Proofs.Ytkgaaaidmaddnaa
