/- The contracts of the first fit, the total, and the reference's membership. -/
import Derived.Test.YtfbjgggminmhbaaIC
set_option linter.unusedSimpArgs false
set_option linter.unusedSectionVars false
set_option linter.unusedVariables false
namespace Go.Proofs.Ytfbjgggminmhbaa
open Go.Sy Go.Mb
set_option maxRecDepth 100000
set_option linter.unusedVariables false
set_option maxHeartbeats 1000000

theorem and_tt {a b : Bool} (h : a = true) (h' : b = true) : (a && b) = true := by rw [h, h']; rfl
theorem and_tf {a b : Bool} (h : a = true) (h' : b = false) : (a && b) = false := by rw [h, h']; rfl
theorem and_f {a b : Bool} (h : a = false) : (a && b) = false := by rw [h]; rfl
theorem first_at {l : List Spn} {k : Nat} {f n : Int} (h : k < l.length) : firstL f n (l.drop k) = if max (l.getD k default).lo f + n ≤ (l.getD k default).hi then (max (l.getD k default).lo f, 0) else firstL f n (l.drop (k + 1)) := by
  rw [drop_cons h, firstL]
theorem first_end {l : List Spn} {k : Nat} {f n : Int} (h : l.length ≤ k) : firstL f n (l.drop k) = (0, 7) := by
  rw [drop_end h, firstL]
theorem max_a (a b : Int) : (if b > a then b else a) = max a b := by split <;> omega
theorem max_b (a b : Int) : (if b > a then b else a) = max b a := by split <;> omega
theorem fst_le {r : Int × Int} {m e : Int} (h : r = (m, e)) : LeA (.tup [.int .i64 m, .int .i64 e]) (.tup [.int .i64 r.1, .int .i64 r.2]) := by
  subst h; exact LeA.refl _
theorem firstM_bad {l : List Spn} {f n : Int} (h : (chkS l != 0) = true) : firstM l f n = (0, 1) := by unfold firstM; rw [if_pos h]
theorem firstM_rng {l : List Spn} {f n : Int} (h : (chkS l != 0) = false) (hb : badF f n = true) : firstM l f n = (0, 2) := by unfold firstM; rw [if_neg (by rw [h]; simp), if_pos hb]
theorem firstM_go {l : List Spn} {f n : Int} (h : (chkS l != 0) = false) (hb : badF f n = false) : firstM l f n = firstL f n (l.drop 0) := by unfold firstM; rw [if_neg (by rw [h]; simp), if_neg (by rw [hb]; simp)]; rfl
theorem badF_f {f n : Int} (hb : badF f n = false) : 1 ≤ n ∧ n ≤ 1152921504606846976 ∧ -1152921504606846976 ≤ f ∧ f ≤ 1152921504606846976 := by
  simp [badF] at hb; omega
theorem chk_z {l : List Spn} (h : (chkS l != 0) = false) : chkS l = 0 := by simpa using h
theorem first_ok (l : List Spn) (f n : Int) : FnOK Try.prog 15 [slS l, .int .i64 f, .int .i64 n] (.tup [.int .i64 (firstM l f n).1, .int .i64 (firstM l f n).2], none) := by
  refine fn_ok CN rfl (by kernel_rfl) Try.func15 rfl ?_
  refine Sat.go (Eq.refl _) (NS.call (check_ok l) rfl ?_)
  refine Sat.go (Eq.refl _) (NS.ite (fun h0 => ?_) (fun h0 => ?_))
  · exact Sat.go (Eq.refl _) (NS.ret rfl rfl (fst_le (firstM_bad h0)))
  refine Sat.go (Eq.refl _) (NS.ite (fun b1 => ?_) (fun b1 => ?_))
  · exact Sat.go (Eq.refl _) (NS.ret rfl rfl (fst_le (firstM_rng h0 (by simp only [badF, b1]; simp))))
  refine Sat.go (Eq.refl _) (NS.ite (fun b2 => ?_) (fun b2 => ?_))
  · exact Sat.go (Eq.refl _) (NS.ret rfl rfl (fst_le (firstM_rng h0 (by simp only [badF, b1, b2]; simp))))
  refine Sat.go (Eq.refl _) (NS.ite (fun b3 => ?_) (fun b3 => ?_))
  · exact Sat.go (Eq.refl _) (NS.ret rfl rfl (fst_le (firstM_rng h0 (by simp only [badF, b1, b2, b3]; simp))))
  refine Sat.go (Eq.refl _) (NS.ite (fun b4 => ?_) (fun b4 => ?_))
  · exact Sat.go (Eq.refl _) (NS.ret rfl rfl (fst_le (firstM_rng h0 (by simp only [badF, b1, b2, b3, b4]; simp))))
  have hb : badF f n = false := by simp only [badF, b1, b2, b3, b4]; simp
  have hb' := badF_f hb
  have hc := chk_z h0
  have hl := (chkS_none hc).2
  have hm := firstM_go h0 hb
  generalize firstM l f n = r at hm
  refine Sat.go (Eq.refl _) ?_
  refine NS.loop (σ := { k : Nat // k ≤ l.length ∧ r = firstL f n (l.drop k) }) (fun k => [(0, slS l), (1, .int .i64 f), (2, .int .i64 n), (28, slS l), (29, .int .i64 l.length), (30, .int .i64 k.1)]) (fun _ => []) (fun k => l.length - k.1) ⟨0, Nat.zero_le _, hm⟩ ?_ ?_
  · exact weak_hd [] rfl ⟨rfl, rfl, rfl, rfl, rfl, rfl, trivial⟩ trivial trivial (by kernel_rfl)
  · rintro ⟨k, hk, hn⟩
    refine Sat.go (Eq.refl _) (NS.ite (fun h => ?_) (fun h => ?_))
    · simp at h
      have ha := chkS_at hc h
      rw [first_at h] at hn
      refine Sat.go (Eq.refl _) (NS.need (by simp; omega) ?_)
      
      refine Sat.go (Eq.refl _) (NS.ite (fun h2 => ?_) (fun h2 => ?_))
      · rw [decide_eq_true_eq] at h2
        change IntKind.i64.wrap ((if f > (l.getD k default).lo then f else (l.getD k default).lo) + n) ≤ (l.getD k default).hi at h2
        rw [max_a, wrap_i64 (by omega) (by omega)] at h2
        rw [if_pos h2] at hn
        refine Sat.go (Eq.refl _) (NS.leaveOut rfl (Eq.refl _) (NS.ret rfl rfl (fst_le ?_)))
        exact hn.trans (congrArg (fun z => (z, (0 : Int))) (max_a _ _).symm)
      · rw [decide_eq_false_iff_not] at h2
        change ¬ IntKind.i64.wrap ((if f > (l.getD k default).lo then f else (l.getD k default).lo) + n) ≤ (l.getD k default).hi at h2
        rw [max_a, wrap_i64 (by omega) (by omega)] at h2
        rw [if_neg h2] at hn
        refine Sat.go (Eq.refl _) (NS.next ⟨k + 1, by omega, hn⟩ (by simp; omega) ?_)
        exact weak_hd [] rfl ⟨rfl, rfl, rfl, rfl, rfl, ren_int rfl (i64_k (k := k) (n := l.length) (by omega) (by omega)), trivial⟩ trivial trivial (by kernel_rfl)
    · simp at h
      rw [first_end h] at hn
      refine Sat.go (Eq.refl _) (NS.leave rfl (Eq.refl _) ?_)
      exact Sat.go (Eq.refl _) (NS.ret rfl rfl (fst_le hn))
theorem rFirst_ok (l : List Spn) (f n : Int) : FnOK Try.prog 29 [slS l, .int .i64 f, .int .i64 n] (.tup [.int .i64 (firstM l f n).1, .int .i64 (firstM l f n).2], none) := by
  refine fn_ok CN rfl (by kernel_rfl) Try.func29 rfl ?_
  refine Sat.go (Eq.refl _) (NS.call (rCheck_ok l) rfl ?_)
  refine Sat.go (Eq.refl _) (NS.ite (fun h0 => ?_) (fun h0 => ?_))
  · exact Sat.go (Eq.refl _) (NS.ret rfl rfl (fst_le (firstM_bad h0)))
  refine Sat.go (Eq.refl _) (NS.ite (fun b1 => ?_) (fun b1 => ?_))
  · exact Sat.go (Eq.refl _) (NS.ret rfl rfl (fst_le (firstM_rng h0 (by simp only [badF, b1]; simp))))
  refine Sat.go (Eq.refl _) (NS.ite (fun b2 => ?_) (fun b2 => ?_))
  · exact Sat.go (Eq.refl _) (NS.ret rfl rfl (fst_le (firstM_rng h0 (by simp only [badF, b1, b2]; simp))))
  refine Sat.go (Eq.refl _) (NS.ite (fun b3 => ?_) (fun b3 => ?_))
  · exact Sat.go (Eq.refl _) (NS.ret rfl rfl (fst_le (firstM_rng h0 (by simp only [badF, b1, b2, b3]; simp))))
  refine Sat.go (Eq.refl _) (NS.ite (fun b4 => ?_) (fun b4 => ?_))
  · exact Sat.go (Eq.refl _) (NS.ret rfl rfl (fst_le (firstM_rng h0 (by simp only [badF, b1, b2, b3, b4]; simp))))
  have hb : badF f n = false := by simp only [badF, b1, b2, b3, b4]; simp
  have hb' := badF_f hb
  have hc := chk_z h0
  have hl := (chkS_none hc).2
  have hm := firstM_go h0 hb
  generalize firstM l f n = r at hm
  refine Sat.go (Eq.refl _) ?_
  refine NS.loop (σ := { k : Nat // k ≤ l.length ∧ r = firstL f n (l.drop k) }) (fun k => [(0, slS l), (1, .int .i64 f), (2, .int .i64 n), (8, .int .i64 k.1)]) (fun _ => []) (fun k => l.length - k.1) ⟨0, Nat.zero_le _, hm⟩ ?_ ?_
  · exact weak_hd [] rfl ⟨rfl, rfl, rfl, rfl, trivial⟩ trivial trivial (by kernel_rfl)
  · rintro ⟨k, hk, hn⟩
    refine Sat.go (Eq.refl _) (NS.ite (fun h => ?_) (fun h => ?_))
    · simp at h
      have ha := chkS_at hc h
      rw [first_at h] at hn
      refine Sat.go (Eq.refl _) (NS.need (by simp; omega) ?_)
      refine Sat.go (Eq.refl _) (NS.need (by simp; omega) ?_)
      refine Sat.go (Eq.refl _) (NS.ite (fun h2 => ?_) (fun h2 => ?_))
      · rw [decide_eq_true_eq] at h2
        change IntKind.i64.wrap ((if (l.getD k default).lo > f then (l.getD k default).lo else f) + n) ≤ (l.getD k default).hi at h2
        rw [max_b, wrap_i64 (by omega) (by omega)] at h2
        rw [if_pos h2] at hn
        refine Sat.go (Eq.refl _) (NS.leaveOut rfl (Eq.refl _) (NS.ret rfl rfl (fst_le ?_)))
        exact hn.trans (congrArg (fun z => (z, (0 : Int))) (max_b _ _).symm)
      · rw [decide_eq_false_iff_not] at h2
        change ¬ IntKind.i64.wrap ((if (l.getD k default).lo > f then (l.getD k default).lo else f) + n) ≤ (l.getD k default).hi at h2
        rw [max_b, wrap_i64 (by omega) (by omega)] at h2
        rw [if_neg h2] at hn
        refine Sat.go (Eq.refl _) (NS.next ⟨k + 1, by omega, hn⟩ (by simp; omega) ?_)
        exact weak_hd [] rfl ⟨rfl, rfl, rfl, ren_int rfl (i64_k (k := k) (n := l.length) (by omega) (by omega)), trivial⟩ trivial trivial (by kernel_rfl)
    · simp at h
      rw [first_end h] at hn
      refine Sat.go (Eq.refl _) (NS.leave rfl (Eq.refl _) ?_)
      exact Sat.go (Eq.refl _) (NS.ret rfl rfl (fst_le hn))
theorem totalM_bad {l : List Spn} (h : (chkS l != 0) = true) : totalM l = 0 := by unfold totalM; rw [if_pos h]
theorem totalM_go {l : List Spn} (h : (chkS l != 0) = false) : totalM l = totL l := by unfold totalM; rw [if_neg (by rw [h]; simp)]
theorem tot_snoc {l : List Spn} {k : Nat} (h : k < l.length) : totL (l.take (k + 1)) = totL (l.take k) + ((l.getD k default).hi - (l.getD k default).lo) := by
  rw [take_snoc h, tot_append]; simp [totL]
theorem total_ok (l : List Spn) : FnOK Try.prog 31 [slS l] (.int .i64 (totalM l), none) := by
  refine fn_ok CN rfl (by kernel_rfl) Try.func31 rfl ?_
  refine Sat.go (Eq.refl _) (NS.call (check_ok l) rfl ?_)
  refine Sat.go (Eq.refl _) (NS.ite (fun h0 => ?_) (fun h0 => ?_))
  · exact Sat.go (Eq.refl _) (NS.ret rfl rfl (LeA.of (congrArg (A.int .i64) (totalM_bad h0).symm)))
  have hc := chk_z h0
  have hl := (chkS_none hc).2
  rw [totalM_go h0]
  refine Sat.go (Eq.refl _) ?_
  refine NS.loop (σ := { k : Nat // k ≤ l.length }) (fun k => [(0, slS l), (3, .int .i64 (totL (l.take k.1))), (9, slS l), (10, .int .i64 l.length), (11, .int .i64 k.1)]) (fun _ => []) (fun k => l.length - k.1) ⟨0, Nat.zero_le _⟩ ?_ ?_
  · exact weak_hd [] rfl ⟨rfl, rfl, rfl, rfl, rfl, trivial⟩ trivial trivial (by kernel_rfl)
  · rintro ⟨k, hk⟩
    refine Sat.go (Eq.refl _) (NS.ite (fun h => ?_) (fun h => ?_))
    · simp at h
      have ha := chkS_at hc h
      have ht := tot_take hc k
      have hs := tot_snoc h
      refine Sat.go (Eq.refl _) (NS.need (by simp; omega) ?_)
      refine Sat.go (Eq.refl _) (NS.next ⟨k + 1, by omega⟩ (by simp; omega) ?_)
      refine weak_hd [] rfl ⟨rfl, ren_int rfl ?_, rfl, rfl, ren_int rfl (i64_k (k := k) (n := l.length) (by omega) (by omega)), trivial⟩ trivial trivial (by kernel_rfl)
      change IntKind.i64.wrap (totL (l.take k) + IntKind.i64.wrap ((l.getD k default).hi - (l.getD k default).lo)) = totL (l.take (k + 1))
      rw [wrap_i64 (n := (l.getD k default).hi - (l.getD k default).lo) (by omega) (by omega), wrap_i64 (by omega) (by omega), hs]
    · simp at h
      refine Sat.go (Eq.refl _) (NS.leave rfl (Eq.refl _) ?_)
      refine Sat.go (Eq.refl _) (NS.ret rfl rfl (LeA.of (congrArg (A.int .i64) ?_)))
      rw [take_all h]
theorem rTotal_ok (l : List Spn) : FnOK Try.prog 32 [slS l] (.int .i64 (totalM l), none) := by
  refine fn_ok CN rfl (by kernel_rfl) Try.func32 rfl ?_
  refine Sat.go (Eq.refl _) (NS.call (rCheck_ok l) rfl ?_)
  refine Sat.go (Eq.refl _) (NS.ite (fun h0 => ?_) (fun h0 => ?_))
  · exact Sat.go (Eq.refl _) (NS.ret rfl rfl (LeA.of (congrArg (A.int .i64) (totalM_bad h0).symm)))
  have hc := chk_z h0
  have hl := (chkS_none hc).2
  rw [totalM_go h0]
  refine Sat.go (Eq.refl _) ?_
  refine NS.loop (σ := { k : Nat // k ≤ l.length }) (fun k => [(0, slS l), (3, .int .i64 (totL (l.take k.1))), (4, .int .i64 k.1)]) (fun _ => []) (fun k => l.length - k.1) ⟨0, Nat.zero_le _⟩ ?_ ?_
  · exact weak_hd [] rfl ⟨rfl, rfl, rfl, trivial⟩ trivial trivial (by kernel_rfl)
  · rintro ⟨k, hk⟩
    refine Sat.go (Eq.refl _) (NS.ite (fun h => ?_) (fun h => ?_))
    · simp at h
      have ha := chkS_at hc h
      have ht := tot_take hc k
      have hs := tot_snoc h
      refine Sat.go (Eq.refl _) (NS.chk (by kernel_rfl) ?_)
      refine Sat.go (Eq.refl _) (NS.need (by simp; omega) ?_)
      refine Sat.go (Eq.refl _) (NS.need (by simp; omega) ?_)
      refine Sat.go (Eq.refl _) (NS.next ⟨k + 1, by omega⟩ (by simp; omega) ?_)
      refine weak_hd [] rfl ⟨rfl, ren_int rfl ?_, ren_int rfl (i64_k (k := k) (n := l.length) (by omega) (by omega)), trivial⟩ trivial trivial (by kernel_rfl)
      change IntKind.i64.wrap (IntKind.i64.wrap (totL (l.take k) + (l.getD k default).hi) - (l.getD k default).lo) = totL (l.take (k + 1))
      rw [wrap_i64 (n := totL (l.take k) + (l.getD k default).hi) (by omega) (by omega), wrap_i64 (by omega) (by omega), hs]
      omega
    · simp at h
      refine Sat.go (Eq.refl _) (NS.leave rfl (Eq.refl _) ?_)
      refine Sat.go (Eq.refl _) (NS.ret rfl rfl (LeA.of (congrArg (A.int .i64) ?_)))
      rw [take_all h]
theorem rHas_ok (l : List Spn) (t : Int) : FnOK Try.prog 33 [slS l, .int .i64 t] (.bool (hasM l t), none) := by
  refine fn_ok CN rfl (by kernel_rfl) Try.func33 rfl ?_
  refine Sat.go (Eq.refl _) (NS.call (rCheck_ok l) rfl ?_)
  refine Sat.go (Eq.refl _) (NS.ite (fun h0 => ?_) (fun h0 => ?_))
  · refine Sat.go (Eq.refl _) (NS.ret rfl rfl (LeA.of (congrArg A.bool ?_)))
    simp only [hasM]; rw [show (chkS l == 0) = false by simpa using h0]; rfl
  have hc := chk_z h0
  have hl := (chkS_none hc).2
  have hm : hasM l t = l.any (has1 t) := by simp only [hasM, hasL]; rw [hc]; rfl
  rw [hm]
  refine Sat.go (Eq.refl _) ?_
  refine NS.loop (σ := { k : Nat // k ≤ l.length ∧ ∀ i, i < k → has1 t (l.getD i default) = false }) (fun k => [(0, slS l), (1, .int .i64 t), (5, .int .i64 k.1)]) (fun _ => []) (fun k => l.length - k.1) ⟨0, Nat.zero_le _, fun i hi => by omega⟩ ?_ ?_
  · exact weak_hd [] rfl ⟨rfl, rfl, rfl, trivial⟩ trivial trivial (by kernel_rfl)
  · rintro ⟨k, hk, hn⟩
    have hstep : has1 t (l.getD k default) = false → ∀ i, i < k + 1 → has1 t (l.getD i default) = false := fun h2 i hi => by
      by_cases hik : i = k
      · subst hik; exact h2
      · exact hn i (by omega)
    refine Sat.go (Eq.refl _) (NS.ite (fun h => ?_) (fun h => ?_))
    · simp at h
      refine Sat.go (Eq.refl _) (NS.need (by simp; omega) ?_)
      refine Sat.go (Eq.refl _) (NS.ite (fun h2 => ?_) (fun h2 => ?_))
      · refine Sat.go (Eq.refl _) (NS.need (by simp; omega) ?_)
        refine Sat.go (Eq.refl _) (NS.ite (fun h3 => ?_) (fun h3 => ?_))
        · refine Sat.go (Eq.refl _) (NS.leaveOut rfl (Eq.refl _) (NS.ret rfl rfl (LeA.of (congrArg A.bool ?_))))
          exact (any_t h (p := has1 t) (and_tt h2 h3)).symm
        · refine Sat.go (Eq.refl _) (NS.next ⟨k + 1, by omega, hstep (and_tf h2 h3)⟩ (by simp; omega) ?_)
          exact weak_hd [] rfl ⟨rfl, rfl, ren_int rfl (i64_k (k := k) (n := l.length) (by omega) (by omega)), trivial⟩ trivial trivial (by kernel_rfl)
      · refine Sat.go (Eq.refl _) (NS.next ⟨k + 1, by omega, hstep (and_f h2)⟩ (by simp; omega) ?_)
        exact weak_hd [] rfl ⟨rfl, rfl, ren_int rfl (i64_k (k := k) (n := l.length) (by omega) (by omega)), trivial⟩ trivial trivial (by kernel_rfl)
    · simp at h
      refine Sat.go (Eq.refl _) (NS.leave rfl (Eq.refl _) ?_)
      refine Sat.go (Eq.refl _) (NS.ret rfl rfl (LeA.of (congrArg A.bool ?_)))
      exact (any_f fun i hi => hn i (by omega)).symm
theorem ren_spn (σ : Nat → Nat) (x : Spn) : RenL σ x.cells x.cells := ⟨_, _, rfl, rfl, _, _, rfl, rfl, rfl⟩
theorem rCovers_ok (l : List Spn) (x : Spn) : FnOK Try.prog 34 [slS l, .agg x.cells] (.bool (coversM l x), none) := by
  refine fn_ok CN rfl (by kernel_rfl) Try.func34 rfl ?_
  refine Sat.go (Eq.refl _) (NS.call (rCheck_ok l) rfl ?_)
  refine Sat.go (Eq.refl _) (NS.ite (fun h0 => ?_) (fun h0 => ?_))
  · refine Sat.go (Eq.refl _) (NS.ret rfl rfl (LeA.of (congrArg A.bool ?_)))
    simp only [coversM]; rw [show (chkS l == 0) = false by simpa using h0]; cases vS x <;> rfl
  have hc := chk_z h0
  have hl := (chkS_none hc).2
  refine Sat.go (Eq.refl _) (NS.call (rValid_ok x) rfl ?_)
  refine Sat.go (Eq.refl _) (NS.ite (fun h1 => ?_) (fun h1 => ?_))
  · refine Sat.go (Eq.refl _) (NS.ret rfl rfl (LeA.of (congrArg A.bool ?_)))
    simp only [coversM]; rw [not_t h1]; rfl
  have hm : coversM l x = l.any (cov1 x) := by simp only [coversM]; rw [hc, not_f h1]; rfl
  rw [hm]
  refine Sat.go (Eq.refl _) ?_
  refine NS.loop (σ := { k : Nat // k ≤ l.length ∧ ∀ i, i < k → cov1 x (l.getD i default) = false }) (fun k => [(0, slS l), (3, .ptr 3 0), (5, .int .i64 k.1)]) (fun _ => [(3, .box x.cells)]) (fun k => l.length - k.1) ⟨0, Nat.zero_le _, fun i hi => by omega⟩ ?_ ?_
  · exact weak_hd [] rfl ⟨rfl, rfl, rfl, trivial⟩ ⟨⟨_, rfl, ren_spn _ _⟩, trivial⟩ trivial (by kernel_rfl)
  · rintro ⟨k, hk, hn⟩
    have hstep : cov1 x (l.getD k default) = false → ∀ i, i < k + 1 → cov1 x (l.getD i default) = false := fun h2 i hi => by
      by_cases hik : i = k
      · subst hik; exact h2
      · exact hn i (by omega)
    refine Sat.go (Eq.refl _) (NS.ite (fun h => ?_) (fun h => ?_))
    · simp at h
      refine Sat.go (Eq.refl _) (NS.chk (by kernel_rfl) ?_)
      refine Sat.go (Eq.refl _) (NS.need (by simp; omega) ?_)
      refine Sat.go (Eq.refl _) (NS.ite (fun h2 => ?_) (fun h2 => ?_))
      · refine Sat.go (Eq.refl _) (NS.need (by simp; omega) ?_)
        refine Sat.go (Eq.refl _) (NS.ite (fun h3 => ?_) (fun h3 => ?_))
        · refine Sat.go (Eq.refl _) (NS.leaveOut rfl (Eq.refl _) (NS.ret rfl rfl (LeA.of (congrArg A.bool ?_))))
          exact (any_t h (p := cov1 x) (and_tt h2 h3)).symm
        · refine Sat.go (Eq.refl _) (NS.next ⟨k + 1, by omega, hstep (and_tf h2 h3)⟩ (by simp; omega) ?_)
          exact weak_hd [] rfl ⟨rfl, rfl, ren_int rfl (i64_k (k := k) (n := l.length) (by omega) (by omega)), trivial⟩ ⟨⟨_, rfl, ren_spn _ _⟩, trivial⟩ trivial (by kernel_rfl)
      · refine Sat.go (Eq.refl _) (NS.next ⟨k + 1, by omega, hstep (and_f h2)⟩ (by simp; omega) ?_)
        exact weak_hd [] rfl ⟨rfl, rfl, ren_int rfl (i64_k (k := k) (n := l.length) (by omega) (by omega)), trivial⟩ ⟨⟨_, rfl, ren_spn _ _⟩, trivial⟩ trivial (by kernel_rfl)
    · simp at h
      refine Sat.go (Eq.refl _) (NS.leave rfl (Eq.refl _) ?_)
      refine Sat.go (Eq.refl _) (NS.ret rfl rfl (LeA.of (congrArg A.bool ?_)))
      exact (any_f fun i hi => hn i (by omega)).symm
end Go.Proofs.Ytfbjgggminmhbaa
