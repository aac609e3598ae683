/- The contracts of the checks of sets of integers. -/
import Derived.Test.YtbpdbibnfmdpoaaIA
import Derived.Test.YtbpdbibnfmdpoaaProg
set_option linter.unusedSimpArgs false
set_option linter.unusedSectionVars false
set_option linter.unusedVariables false
namespace Go.Proofs.Ytbpdbibnfmdpoaa
open Go.Sy Go.Mb
set_option maxRecDepth 100000
set_option linter.unusedVariables false
set_option maxHeartbeats 1000000

def i2 : List CK := [.i .i64, .i .i64]
noncomputable def EN : Env := { P := Try.prog, eqT := lookE [(49, i2)] }
theorem kinds_span : kindsT Try.prog 6 49 = some i2 := by kernel_rfl
theorem guard_span : Try.prog.eqGuardType Try.prog.depth 49 = false := by kernel_rfl
theorem EN_ok : EqOK EN := by
  refine eqOK_of ?_
  intro p hp
  simp only [List.mem_cons, List.not_mem_nil, or_false] at hp
  subst hp
  exact ⟨kinds_span, guard_span, by rw [Try.underlying49]; trivial⟩
noncomputable def CN : Cx := { E := EN, inl := [], ok := EN_ok }

theorem vS_t {x : Spn} (h1 : decide (x.lo < x.hi) = true) (h2 : decide (x.lo ≥ -1152921504606846976) = true) : decide (x.hi ≤ 1152921504606846976) = vS x := by
  have h2' : decide (-1152921504606846976 ≤ x.lo) = true := h2
  simp only [vS, h1, h2', Bool.true_and]
theorem vS_f1 {x : Spn} (h1 : decide (x.lo < x.hi) = false) : false = vS x := by simp only [vS, h1, Bool.false_and]
theorem vS_f2 {x : Spn} (h1 : decide (x.lo < x.hi) = true) (h2 : decide (x.lo ≥ -1152921504606846976) = false) : false = vS x := by
  have h2' : decide (-1152921504606846976 ≤ x.lo) = false := h2
  simp only [vS, h1, h2', Bool.true_and, Bool.false_and]
theorem valid_ok (x : Spn) : FnOK Try.prog 54 [.agg x.cells] (.bool (vS x), none) := by
  refine fn_ok CN rfl (by kernel_rfl) Try.func54 rfl ?_
  refine Sat.go (Eq.refl _) (NS.ite (fun h => ?_) (fun h => ?_))
  · refine Sat.go (Eq.refl _) (NS.ite (fun h2 => ?_) (fun h2 => ?_))
    · exact Sat.go (Eq.refl _) (NS.ret rfl rfl (LeA.of (congrArg A.bool (vS_t h h2))))
    · exact Sat.go (Eq.refl _) (NS.ret rfl rfl (LeA.of (congrArg A.bool (vS_f2 h h2))))
  · exact Sat.go (Eq.refl _) (NS.ret rfl rfl (LeA.of (congrArg A.bool (vS_f1 h))))
theorem rValid_ok (x : Spn) : FnOK Try.prog 96 [.agg x.cells] (.bool (vS x), none) := by
  refine fn_ok CN rfl (by kernel_rfl) Try.func96 rfl ?_
  refine Sat.go (Eq.refl _) (NS.ite (fun h => ?_) (fun h => ?_))
  · refine Sat.go (Eq.refl _) (NS.ite (fun h2 => ?_) (fun h2 => ?_))
    · exact Sat.go (Eq.refl _) (NS.ret rfl rfl (LeA.of (congrArg A.bool (vS_t h h2))))
    · exact Sat.go (Eq.refl _) (NS.ret rfl rfl (LeA.of (congrArg A.bool (vS_f2 h h2))))
  · exact Sat.go (Eq.refl _) (NS.ret rfl rfl (LeA.of (congrArg A.bool (vS_f1 h))))

/-- The check, from the k-th interval on. -/
def prevH (l : List Spn) : Nat → Option Int
  | 0 => none
  | k + 1 => some (l.getD k default).hi
def chkF (l : List Spn) (k : Nat) : Int := chkL (prevH l k) (l.drop k)
theorem chkF_bad {l : List Spn} {k : Nat} (h : k < l.length) (hv : vS (l.getD k default) = false) : chkF l k = 2 := by
  unfold chkF; rw [drop_cons h, chkL, if_neg (by rw [hv]; simp)]
theorem chkF_gap {l : List Spn} {k : Nat} (h : k < l.length) (hv : vS (l.getD k default) = true) (hg : gapB (prevH l k) (l.getD k default) = true) : chkF l k = 9 := by
  unfold chkF; rw [drop_cons h, chkL, if_pos hv, if_pos hg]
theorem chkF_step {l : List Spn} {k : Nat} (h : k < l.length) (hv : vS (l.getD k default) = true) (hg : gapB (prevH l k) (l.getD k default) = false) : chkF l k = chkF l (k + 1) := by
  unfold chkF; rw [drop_cons h, chkL, if_pos hv, if_neg (by rw [hg]; simp)]; rfl
theorem chkF_end {l : List Spn} {k : Nat} (h : l.length ≤ k) : chkF l k = 0 := by
  unfold chkF; rw [drop_end h]; cases prevH l k <;> rfl
theorem chkS_big {l : List Spn} (h : decide ((l.length : Int) > 1000) = true) : chkS l = 4 := by
  unfold chkS; rw [if_pos (by simp at h; omega)]
theorem chkS_small {l : List Spn} (h : decide ((l.length : Int) > 1000) = false) : chkS l = chkF l 0 := by
  unfold chkS; rw [if_neg (by simp at h; omega)]; rfl
theorem check_ok (l : List Spn) : FnOK Try.prog 26 [slS l] (.int .i64 (chkS l), none) := by
  refine fn_ok CN rfl (by kernel_rfl) Try.func26 rfl ?_
  refine Sat.go (Eq.refl _) (NS.ite (fun h0 => ?_) (fun h0 => ?_))
  · exact Sat.go (Eq.refl _) (NS.ret rfl rfl (LeA.of (congrArg (A.int .i64) (chkS_big h0).symm)))
  have hl : l.length ≤ 1000 := by simp at h0; omega
  rw [chkS_small h0]
  refine Sat.go (Eq.refl _) ?_
  refine NS.loop (σ := { k : Nat // k ≤ l.length ∧ chkF l 0 = chkF l k }) (fun k => [(0, slS l), (8, slS l), (9, .int .i64 l.length), (10, .int .i64 k.1)]) (fun _ => []) (fun k => l.length - k.1) ⟨0, Nat.zero_le _, rfl⟩ ?_ ?_
  · exact weak_hd [] rfl ⟨rfl, rfl, rfl, rfl, trivial⟩ trivial trivial (by kernel_rfl)
  · rintro ⟨k, hk, hn⟩
    refine Sat.go (Eq.refl _) (NS.ite (fun h => ?_) (fun h => ?_))
    · simp at h
      refine Sat.go (Eq.refl _) (NS.need (by simp; omega) ?_)
      refine Sat.go (Eq.refl _) (NS.call (valid_ok (l.getD k default)) rfl ?_)
      refine Sat.go (Eq.refl _) (NS.ite (fun h2 => ?_) (fun h2 => ?_))
      · refine Sat.go (Eq.refl _) (NS.leaveOut rfl (Eq.refl _) (NS.ret rfl rfl (LeA.of (congrArg (A.int .i64) ?_))))
        rw [hn, chkF_bad h (not_t h2)]
      · have hv := not_f h2
        refine Sat.go (Eq.refl _) (NS.chk (by kernel_rfl) ?_)
        refine Sat.go (Eq.refl _) (NS.ite (fun h3 => ?_) (fun h3 => ?_))
        · obtain ⟨m, rfl⟩ : ∃ m, k = m + 1 := ⟨k - 1, by simp at h3; omega⟩
          have e1 : IntKind.i64.wrap (((m + 1 : Nat) : Int) - 1) = (m : Int) := i64_s (n := l.length) (by omega) (by omega)
          refine Sat.go (Eq.refl _) (NS.need (by rw [e1]; simp; omega) ?_)
          rw [e1]
          refine Sat.go (Eq.refl _) (NS.ite (fun h4 => ?_) (fun h4 => ?_))
          · refine Sat.go (Eq.refl _) (NS.leaveOut rfl (Eq.refl _) (NS.ret rfl rfl (LeA.of (congrArg (A.int .i64) ?_))))
            rw [hn, chkF_gap h hv h4]
          · refine Sat.go (Eq.refl _) (NS.next ⟨m + 2, by omega, hn.trans (chkF_step h hv h4)⟩ (by simp; omega) ?_)
            exact weak_hd [] rfl ⟨rfl, rfl, rfl, ren_int rfl (i64_k (k := m + 1) (n := l.length) (by omega) (by omega)), trivial⟩ trivial trivial (by kernel_rfl)
        · obtain rfl : k = 0 := by simp at h3; omega
          refine Sat.go (Eq.refl _) (NS.next ⟨1, by omega, hn.trans (chkF_step h hv rfl)⟩ (by simp; omega) ?_)
          exact weak_hd [] rfl ⟨rfl, rfl, rfl, ren_int rfl (i64_k (k := 0) (n := l.length) (by omega) (by omega)), trivial⟩ trivial trivial (by kernel_rfl)
    · simp at h
      refine Sat.go (Eq.refl _) (NS.leave rfl (Eq.refl _) ?_)
      refine Sat.go (Eq.refl _) (NS.ret rfl rfl (LeA.of (congrArg (A.int .i64) ?_)))
      rw [hn, chkF_end h]
theorem rCheck_ok (l : List Spn) : FnOK Try.prog 81 [slS l] (.int .i64 (chkS l), none) := by
  refine fn_ok CN rfl (by kernel_rfl) Try.func81 rfl ?_
  refine Sat.go (Eq.refl _) (NS.ite (fun h0 => ?_) (fun h0 => ?_))
  · exact Sat.go (Eq.refl _) (NS.ret rfl rfl (LeA.of (congrArg (A.int .i64) (chkS_big h0).symm)))
  have hl : l.length ≤ 1000 := by simp at h0; omega
  rw [chkS_small h0]
  refine Sat.go (Eq.refl _) ?_
  refine NS.loop (σ := { k : Nat // k ≤ l.length ∧ chkF l 0 = chkF l k }) (fun k => [(0, slS l), (3, .int .i64 k.1)]) (fun _ => []) (fun k => l.length - k.1) ⟨0, Nat.zero_le _, rfl⟩ ?_ ?_
  · exact weak_hd [] rfl ⟨rfl, rfl, trivial⟩ trivial trivial (by kernel_rfl)
  · rintro ⟨k, hk, hn⟩
    refine Sat.go (Eq.refl _) (NS.ite (fun h => ?_) (fun h => ?_))
    · simp at h
      refine Sat.go (Eq.refl _) (NS.need (by simp; omega) ?_)
      refine Sat.go (Eq.refl _) (NS.call (rValid_ok (l.getD k default)) rfl ?_)
      refine Sat.go (Eq.refl _) (NS.ite (fun h2 => ?_) (fun h2 => ?_))
      · refine Sat.go (Eq.refl _) (NS.leaveOut rfl (Eq.refl _) (NS.ret rfl rfl (LeA.of (congrArg (A.int .i64) ?_))))
        rw [hn, chkF_bad h (not_t h2)]
      · have hv := not_f h2
        refine Sat.go (Eq.refl _) (NS.chk (by kernel_rfl) ?_)
        refine Sat.go (Eq.refl _) (NS.ite (fun h3 => ?_) (fun h3 => ?_))
        · obtain ⟨m, rfl⟩ : ∃ m, k = m + 1 := ⟨k - 1, by simp at h3; omega⟩
          have e1 : IntKind.i64.wrap (((m + 1 : Nat) : Int) - 1) = (m : Int) := i64_s (n := l.length) (by omega) (by omega)
          refine Sat.go (Eq.refl _) (NS.need (by simp; omega) ?_)
          refine Sat.go (Eq.refl _) (NS.need (by rw [e1]; simp; omega) ?_)
          rw [e1]
          refine Sat.go (Eq.refl _) (NS.ite (fun h4 => ?_) (fun h4 => ?_))
          · refine Sat.go (Eq.refl _) (NS.leaveOut rfl (Eq.refl _) (NS.ret rfl rfl (LeA.of (congrArg (A.int .i64) ?_))))
            rw [hn, chkF_gap h hv h4]
          · refine Sat.go (Eq.refl _) (NS.next ⟨m + 2, by omega, hn.trans (chkF_step h hv h4)⟩ (by simp; omega) ?_)
            exact weak_hd [] rfl ⟨rfl, ren_int rfl (i64_k (k := m + 1) (n := l.length) (by omega) (by omega)), trivial⟩ trivial trivial (by kernel_rfl)
        · obtain rfl : k = 0 := by simp at h3; omega
          refine Sat.go (Eq.refl _) (NS.next ⟨1, by omega, hn.trans (chkF_step h hv rfl)⟩ (by simp; omega) ?_)
          exact weak_hd [] rfl ⟨rfl, ren_int rfl (i64_k (k := 0) (n := l.length) (by omega) (by omega)), trivial⟩ trivial trivial (by kernel_rfl)
    · simp at h
      refine Sat.go (Eq.refl _) (NS.leave rfl (Eq.refl _) ?_)
      refine Sat.go (Eq.refl _) (NS.ret rfl rfl (LeA.of (congrArg (A.int .i64) ?_)))
      rw [hn, chkF_end h]
theorem same_ok (l m : List Spn) (hl : l.length ≤ 1000000) : FnOK Try.prog 27 [slS l, slS m] (.bool (sameBy Spn.eqv l m), none) := by
  refine fn_ok CN rfl (by kernel_rfl) Try.func27 rfl ?_
  refine Sat.go (Eq.refl _) (NS.ite (fun h0 => ?_) (fun h0 => ?_))
  · refine Sat.go (Eq.refl _) (NS.ret rfl rfl (LeA.of (congrArg A.bool ?_)))
    exact (sameBy_len (fun _ _ => Spn.eqv_iff) (by intro e; rw [e] at h0; simp at h0)).symm
  have hlm : l.length = m.length := by simp only [bne_eq_false_iff_eq] at h0; omega
  refine Sat.go (Eq.refl _) ?_
  refine NS.loop (σ := { k : Nat // k ≤ l.length ∧ ∀ i, i < k → Spn.eqv (l.getD i default) (m.getD i default) = true }) (fun k => [(0, slS l), (1, slS m), (5, .int .i64 k.1)]) (fun _ => []) (fun k => l.length - k.1) ⟨0, Nat.zero_le _, fun i hi => by omega⟩ ?_ ?_
  · exact weak_hd [] rfl ⟨rfl, rfl, rfl, trivial⟩ trivial trivial (by kernel_rfl)
  · rintro ⟨k, hk, hn⟩
    refine Sat.go (Eq.refl _) (NS.ite (fun h => ?_) (fun h => ?_))
    · simp at h
      refine Sat.go (Eq.refl _) (NS.chk (by kernel_rfl) ?_)
      refine Sat.go (Eq.refl _) (NS.need (by simp; omega) ?_)
      refine Sat.go (Eq.refl _) (NS.need (by simp; omega) ?_)
      refine Sat.go (Eq.refl _) (NS.ite (fun h2 => ?_) (fun h2 => ?_))
      · refine Sat.go (Eq.refl _) (NS.leaveOut rfl (Eq.refl _) (NS.ret rfl rfl (LeA.of (congrArg A.bool ?_))))
        refine (sameBy_f (k := k) (fun _ _ => Spn.eqv_iff) ?_).symm
        exact not_t h2
      · refine Sat.go (Eq.refl _) (NS.next ⟨k + 1, by omega, fun i hi => ?_⟩ (by simp; omega) ?_)
        · by_cases hik : i = k
          · subst hik; exact not_f h2
          · exact hn i (by omega)
        · exact weak_hd [] rfl ⟨rfl, rfl, ren_int rfl (i64_k (by omega) (by omega)), trivial⟩ trivial trivial (by kernel_rfl)
    · simp at h
      refine Sat.go (Eq.refl _) (NS.leave rfl (Eq.refl _) ?_)
      refine Sat.go (Eq.refl _) (NS.ret rfl rfl (LeA.of (congrArg A.bool ?_)))
      exact (sameBy_t (fun _ _ => Spn.eqv_iff) hlm fun i hi => hn i (by omega)).symm
end Go.Proofs.Ytbpdbibnfmdpoaa
