/- Membership in plain words; the checks of Normal. -/
import Derived.Test.YtbpdbibnfmdpoaaIB
set_option linter.unusedSimpArgs false
set_option linter.unusedSectionVars false
set_option linter.unusedVariables false
namespace Go.Mb
def cov1 (x y : Spn) : Bool := decide (y.lo ≤ x.lo) && decide (x.hi ≤ y.hi)
def hasM (l : List Spn) (t : Int) : Bool := (chkS l == 0) && hasL l t
def coversM (l : List Spn) (x : Spn) : Bool := vS x && ((chkS l == 0) && l.any (cov1 x))
def firstL (f n : Int) : List Spn → Int × Int
  | [] => (0, 7)
  | x :: l => if max x.lo f + n ≤ x.hi then (max x.lo f, 0) else firstL f n l
def badF (f n : Int) : Bool := decide (n < 1) || (decide (n > 1152921504606846976) || (decide (f < -1152921504606846976) || decide (f > 1152921504606846976)))
def firstM (l : List Spn) (f n : Int) : Int × Int := if chkS l != 0 then (0, 1) else if badF f n then (0, 2) else firstL f n l
def totL : List Spn → Int
  | [] => 0
  | x :: l => (x.hi - x.lo) + totL l
def totalM (l : List Spn) : Int := if chkS l != 0 then 0 else totL l
theorem chk_all : ∀ (l : List Spn) (p : Option Int), chkL p l = 0 → ∀ x ∈ l, vS x = true
  | [], _, _, x, hx => by cases hx
  | y :: l, p, h, x, hx => by
    unfold chkL at h
    split at h
    · rename_i hv
      split at h
      · cases h
      · rcases List.mem_cons.1 hx with rfl | hx
        · exact hv
        · exact chk_all l _ h x hx
    · cases h
theorem tot_nonneg : ∀ (l : List Spn), (∀ x ∈ l, vS x = true) → 0 ≤ totL l
  | [], _ => by simp [totL]
  | y :: l, h => by
    have h1 := h y (by simp)
    have h2 := tot_nonneg l fun x hx => h x (by simp [hx])
    simp only [vS, Bool.and_eq_true, decide_eq_true_eq] at h1
    simp only [totL]; omega
theorem tot_append (l m : List Spn) : totL (l ++ m) = totL l + totL m := by
  induction l with
  | nil => simp [totL]
  | cons x l ih => simp only [List.cons_append, totL, ih]; omega
theorem tot_bnd : ∀ (l : List Spn) (t : Int), chkL (some t) l = 0 → t ≤ 1152921504606846976 → totL l ≤ 1152921504606846976 - t
  | [], t, _, ht => by simp [totL]; omega
  | y :: l, t, h, ht => by
    unfold chkL at h
    split at h
    · rename_i hv
      simp only [vS, Bool.and_eq_true, decide_eq_true_eq] at hv
      split at h
      · cases h
      · rename_i hg
        simp [gapB] at hg
        have := tot_bnd l y.hi h (by omega)
        simp only [totL]; omega
    · cases h
theorem tot_bnd0 (l : List Spn) (h : chkL none l = 0) : totL l ≤ 2305843009213693952 := by
  cases l with
  | nil => simp [totL]
  | cons y l =>
    unfold chkL at h
    split at h
    · rename_i hv
      simp only [vS, Bool.and_eq_true, decide_eq_true_eq] at hv
      have := tot_bnd l y.hi (by simpa [gapB] using h) (by omega)
      simp only [totL]; omega
    · cases h
theorem chkS_none {l : List Spn} (h : chkS l = 0) : chkL none l = 0 ∧ l.length ≤ 1000 := by
  unfold chkS at h
  split at h
  · cases h
  · exact ⟨h, by omega⟩
theorem tot_take {l : List Spn} (h : chkS l = 0) (k : Nat) : 0 ≤ totL (l.take k) ∧ totL (l.take k) ≤ 2305843009213693952 := by
  obtain ⟨h1, _⟩ := chkS_none h
  have hv := chk_all l none h1
  have a := tot_nonneg (l.take k) fun x hx => hv x (List.mem_of_mem_take hx)
  have b := tot_nonneg (l.drop k) fun x hx => hv x (List.mem_of_mem_drop hx)
  have c := tot_bnd0 l h1
  have d := tot_append (l.take k) (l.drop k)
  rw [List.take_append_drop] at d
  omega
theorem chkS_at {l : List Spn} (h : chkS l = 0) {k : Nat} (hk : k < l.length) : (l.getD k default).lo < (l.getD k default).hi ∧ -1152921504606846976 ≤ (l.getD k default).lo ∧ (l.getD k default).hi ≤ 1152921504606846976 := by
  have := chk_all l none (chkS_none h).1 (l.getD k default) (by rw [getD_lt hk]; exact List.getElem_mem hk)
  simpa [vS] using this
theorem idx_any {α : Type} [Inhabited α] (p : α → Bool) (l : List α) : decide (idx p l ≥ 0) = l.any p := by
  have := idx_neg p l
  cases h : l.any p with
  | false => have := this.2 h; simp; omega
  | true => rw [h] at this; simp; simp at this; omega
theorem any_t {α : Type} [Inhabited α] {p : α → Bool} {l : List α} {k : Nat} (h : k < l.length) (hp : p (l.getD k default) = true) : l.any p = true := by
  rw [List.any_eq_true]; exact ⟨l.getD k default, by rw [getD_lt h]; exact List.getElem_mem h, hp⟩
theorem any_f {α : Type} [Inhabited α] {p : α → Bool} {l : List α} (hn : ∀ k, k < l.length → p (l.getD k default) = false) : l.any p = false := by
  rw [List.any_eq_false]
  intro x hx
  obtain ⟨i, hi, rfl⟩ := List.getElem_of_mem hx
  have := hn i hi
  rw [getD_lt hi] at this
  simp [this]
theorem max_a (a b : Int) : (if b > a then b else a) = max a b := by split <;> omega
theorem max_b (a b : Int) : (if b > a then b else a) = max b a := by split <;> omega
end Go.Mb
namespace Go.Proofs.Ytbpdbibnfmdpoaa
open Go.Sy Go.Mb
set_option maxRecDepth 100000
set_option linter.unusedVariables false
set_option maxHeartbeats 1000000

theorem normal1_ok (x : Spn) : FnOK Try.prog 59 [.agg x.cells] (.bool (!vS x), none) := by
  refine fn_ok CN rfl (by kernel_rfl) Try.func59 rfl ?_
  refine Sat.go (Eq.refl _) (NS.call (valid_ok x) rfl ?_)
  exact Sat.go (Eq.refl _) (NS.ret rfl rfl (LeA.refl _))
theorem idxBad_ok (l : List Spn)  (hl : l.length ≤ 1000000) : FnOK Try.prog 84 [slS l, .fn 59 []] (.int .i64 (idx (fun y => !vS y) l), none) := by
  refine fn_ok CN rfl (by kernel_rfl) Try.func84 rfl ?_
  refine Sat.go (Eq.refl _) ?_
  refine NS.loop (σ := { k : Nat // k ≤ l.length ∧ ∀ i, i < k → (fun y => !vS y) (l.getD i default) = false }) (fun k => [(0, slS l), (1, .fn 59 []), (7, .int .i64 l.length), (8, .int .i64 k.1)]) (fun _ => []) (fun k => l.length - k.1) ⟨0, Nat.zero_le _, fun i hi => by omega⟩ ?_ ?_
  · exact weak_hd [] rfl ⟨rfl, rfl, rfl, rfl, trivial⟩ trivial trivial (by kernel_rfl)
  · rintro ⟨k, hk, hn⟩
    refine Sat.go (Eq.refl _) (NS.ite (fun h => ?_) (fun h => ?_))
    · simp at h
      refine Sat.go (Eq.refl _) (NS.need (by simp; omega) ?_)
      refine Sat.go (Eq.refl _) (NS.call (normal1_ok (l.getD k default)) rfl ?_)
      refine Sat.go (Eq.refl _) (NS.ite (fun h2 => ?_) (fun h2 => ?_))
      · refine Sat.go (Eq.refl _) (NS.leaveOut rfl (Eq.refl _) (NS.ret rfl rfl (LeA.of (congrArg (A.int .i64) ?_))))
        exact (idx_found (by omega) h2 hn).symm
      · refine Sat.go (Eq.refl _) (NS.next ⟨k + 1, by omega, fun i hi => ?_⟩ (by simp; omega) ?_)
        · by_cases hik : i = k
          · subst hik; exact h2
          · exact hn i (by omega)
        · exact weak_hd [] rfl ⟨rfl, rfl, rfl, ren_int rfl (i64_k (by omega) (by omega)), trivial⟩ trivial trivial (by kernel_rfl)
    · simp at h
      refine Sat.go (Eq.refl _) (NS.leave rfl (Eq.refl _) ?_)
      refine Sat.go (Eq.refl _) (NS.ret rfl rfl (LeA.of (congrArg (A.int .i64) ?_)))
      exact (idx_none fun i hi => hn i (by omega)).symm
theorem anyBad_ok (l : List Spn)  (hl : l.length ≤ 1000000) : FnOK Try.prog 58 [slS l, .fn 59 []] (.bool (l.any (fun y => !vS y)), none) := by
  refine fn_ok CN rfl (by kernel_rfl) Try.func58 rfl ?_
  refine Sat.go (Eq.refl _) (NS.call (idxBad_ok l  hl) rfl ?_)
  exact Sat.go (Eq.refl _) (NS.ret rfl rfl (LeA.of (congrArg A.bool (idx_any _ _))))
end Go.Proofs.Ytbpdbibnfmdpoaa
