/- Lists of changes, contacts and numbers: equality. -/
import Derived.Test.YthfbahebeembeaaUF
set_option linter.unusedSimpArgs false
set_option linter.unusedSectionVars false
set_option linter.unusedVariables false
namespace Go.Mb
open Go.Sy
def eqI (a b : Int) : Bool := a == b
theorem eqI_iff {a b : Int} : eqI a b = true ↔ a = b := by simp [eqI]
theorem chg_iff : ∀ a b : Chg, Chg.eqv a b = true ↔ a = b := fun _ _ => Chg.eqv_iff
theorem ctc_iff : ∀ a b : Ctc, Ctc.eqv a b = true ↔ a = b := fun _ _ => Ctc.eqv_iff
theorem int_iff : ∀ a b : Int, eqI a b = true ↔ a = b := fun _ _ => eqI_iff
theorem idx_any {α : Type} [Inhabited α] (p : α → Bool) (l : List α) : decide (idx p l ≥ 0) = l.any p := by
  have h := idx_neg p l
  rw [Bool.eq_iff_iff, decide_eq_true_eq]
  constructor
  · intro h2
    rw [← Bool.not_eq_false]
    intro h3
    have := h.2 h3
    omega
  · intro h2
    by_cases h3 : idx p l < 0
    · have := h.1 h3
      rw [h2] at this; cases this
    · omega
end Go.Mb
namespace Go.Proofs.Ythfbahebeembeaa
open Go.Sy Go.Mb
set_option maxRecDepth 100000
set_option linter.unusedVariables false
set_option maxHeartbeats 4000000
theorem sameC_ok (l m : List Chg) (hl : l.length ≤ 1000000) : FnOK Try.prog 41 [slChg l, slChg m] (.bool (sameBy Chg.eqv l m), none) := by
  refine fn_ok CN rfl (by kernel_rfl) Try.func41 rfl ?_
  refine Sat.go (Eq.refl _) (NS.ite (fun h0 => ?_) (fun h0 => ?_))
  · exact Sat.go (Eq.refl _) (NS.ret rfl rfl (LeA.of (congrArg A.bool ((sameBy_len chg_iff (by intro e; rw [e] at h0; simp at h0)).symm))))
  have hlm : l.length = m.length := by simp only [bne_eq_false_iff_eq] at h0; omega
  refine Sat.go (Eq.refl _) ?_
  refine NS.loop (σ := { k : Nat // k ≤ l.length ∧ ∀ i, i < k → Chg.eqv (l.getD i default) (m.getD i default) = true }) (fun k => [(0, slChg l), (1, slChg m), (5, .int .i64 k.1)]) (fun _ => []) (fun k => l.length - k.1) ⟨0, Nat.zero_le _, fun i hi => by omega⟩ ?_ ?_
  · exact weak_hd [] rfl ⟨rfl, rfl, rfl, trivial⟩ trivial trivial (by kernel_rfl)
  rintro ⟨k, hk, hn⟩
  refine Sat.go (Eq.refl _) (NS.ite (fun h => ?_) (fun h => ?_))
  · have h : k < l.length := by simpa using h
    refine Sat.go (Eq.refl _) (NS.chk (by kernel_rfl) ?_)
    refine Sat.go (Eq.refl _) (NS.need (by simp; omega) ?_)
    refine Sat.go (Eq.refl _) (NS.need (by simp; omega) ?_)
    refine Sat.go (Eq.refl _) (NS.ite (fun h2 => ?_) (fun h2 => ?_))
    · exact Sat.go (Eq.refl _) (NS.leaveOut rfl (Eq.refl _) (NS.ret rfl rfl (LeA.of (congrArg A.bool ((sameBy_f (k := k) chg_iff (not_t h2)).symm)))))
    · refine Sat.go (Eq.refl _) (NS.next ⟨k + 1, by omega, fun i hi => ?_⟩ (by simp; omega) ?_)
      · by_cases hik : i = k
        · subst hik; exact not_f h2
        · exact hn i (by omega)
      · exact weak_hd [] rfl ⟨rfl, rfl, ren_int rfl (i64_k (by omega) (by omega)), trivial⟩ trivial trivial (by kernel_rfl)
  · have h : ¬ k < l.length := by simpa using h
    refine Sat.go (Eq.refl _) (NS.leave rfl (Eq.refl _) ?_)
    exact Sat.go (Eq.refl _) (NS.ret rfl rfl (LeA.of (congrArg A.bool ((sameBy_t chg_iff hlm fun i hi => hn i (by omega)).symm))))
theorem sameK_ok (l m : List Ctc) (hl : l.length ≤ 1000000) : FnOK Try.prog 27 [slCtc l, slCtc m] (.bool (sameBy Ctc.eqv l m), none) := by
  refine fn_ok CN rfl (by kernel_rfl) Try.func27 rfl ?_
  refine Sat.go (Eq.refl _) (NS.ite (fun h0 => ?_) (fun h0 => ?_))
  · exact Sat.go (Eq.refl _) (NS.ret rfl rfl (LeA.of (congrArg A.bool ((sameBy_len ctc_iff (by intro e; rw [e] at h0; simp at h0)).symm))))
  have hlm : l.length = m.length := by simp only [bne_eq_false_iff_eq] at h0; omega
  refine Sat.go (Eq.refl _) ?_
  refine NS.loop (σ := { k : Nat // k ≤ l.length ∧ ∀ i, i < k → Ctc.eqv (l.getD i default) (m.getD i default) = true }) (fun k => [(0, slCtc l), (1, slCtc m), (5, .int .i64 k.1)]) (fun _ => []) (fun k => l.length - k.1) ⟨0, Nat.zero_le _, fun i hi => by omega⟩ ?_ ?_
  · exact weak_hd [] rfl ⟨rfl, rfl, rfl, trivial⟩ trivial trivial (by kernel_rfl)
  rintro ⟨k, hk, hn⟩
  refine Sat.go (Eq.refl _) (NS.ite (fun h => ?_) (fun h => ?_))
  · have h : k < l.length := by simpa using h
    refine Sat.go (Eq.refl _) (NS.chk (by kernel_rfl) ?_)
    refine Sat.go (Eq.refl _) (NS.need (by simp; omega) ?_)
    refine Sat.go (Eq.refl _) (NS.need (by simp; omega) ?_)
    refine Sat.go (Eq.refl _) (NS.ite (fun h2 => ?_) (fun h2 => ?_))
    · exact Sat.go (Eq.refl _) (NS.leaveOut rfl (Eq.refl _) (NS.ret rfl rfl (LeA.of (congrArg A.bool ((sameBy_f (k := k) ctc_iff (not_t h2)).symm)))))
    · refine Sat.go (Eq.refl _) (NS.next ⟨k + 1, by omega, fun i hi => ?_⟩ (by simp; omega) ?_)
      · by_cases hik : i = k
        · subst hik; exact not_f h2
        · exact hn i (by omega)
      · exact weak_hd [] rfl ⟨rfl, rfl, ren_int rfl (i64_k (by omega) (by omega)), trivial⟩ trivial trivial (by kernel_rfl)
  · have h : ¬ k < l.length := by simpa using h
    refine Sat.go (Eq.refl _) (NS.leave rfl (Eq.refl _) ?_)
    exact Sat.go (Eq.refl _) (NS.ret rfl rfl (LeA.of (congrArg A.bool ((sameBy_t ctc_iff hlm fun i hi => hn i (by omega)).symm))))
theorem great_ok (h : His) : FnOK Try.prog 11 [.agg h.cells] (.bool (decide ((h.l.length : Int) > 40)), none) := by
  refine fn_ok CN rfl (by kernel_rfl) Try.func11 rfl ?_
  exact Sat.go (Eq.refl _) (NS.ret rfl rfl (LeA.refl _))
theorem same_ok (a b : His) (hl : a.l.length ≤ 1000000) : FnOK Try.prog 17 [.agg a.cells, .agg b.cells] (.bool (a.nodes == b.nodes && sameBy Chg.eqv a.l b.l), none) := by
  refine fn_ok CN rfl (by kernel_rfl) Try.func17 rfl ?_
  refine Sat.go (Eq.refl _) (NS.ite (fun h => ?_) (fun h => ?_))
  · rw [show (a.nodes == b.nodes) = true from h, Bool.true_and]
    refine Sat.go (Eq.refl _) (NS.call (sameC_ok a.l b.l hl) rfl ?_)
    exact Sat.go (Eq.refl _) (NS.ret rfl rfl (LeA.refl _))
  · exact Sat.go (Eq.refl _) (NS.ret rfl rfl (LeA.of (congrArg A.bool (by rw [show (a.nodes == b.nodes) = false from h, Bool.false_and]))))
theorem equalV_ok (l m : List Int) (hl : l.length ≤ 1000000) : FnOK Try.prog 26 [slN l, slN m] (.bool (sameBy eqI l m), none) := by
  refine fn_ok CN rfl (by kernel_rfl) Try.func26 rfl ?_
  refine Sat.go (Eq.refl _) (NS.ite (fun h0 => ?_) (fun h0 => ?_))
  · exact Sat.go (Eq.refl _) (NS.ret rfl rfl (LeA.of (congrArg A.bool ((sameBy_len int_iff (by intro e; rw [e] at h0; simp at h0)).symm))))
  have hlm : l.length = m.length := by simp only [bne_eq_false_iff_eq] at h0; omega
  refine Sat.go (Eq.refl _) ?_
  refine NS.loop (σ := { k : Nat // k ≤ l.length ∧ ∀ i, i < k → eqI (l.getD i default) (m.getD i default) = true }) (fun k => [(0, slN l), (1, slN m), (12, .int .i64 l.length), (13, .int .i64 k.1)]) (fun _ => []) (fun k => l.length - k.1) ⟨0, Nat.zero_le _, fun i hi => by omega⟩ ?_ ?_
  · exact weak_hd [] rfl ⟨rfl, rfl, rfl, rfl, trivial⟩ trivial trivial (by kernel_rfl)
  rintro ⟨k, hk, hn⟩
  refine Sat.go (Eq.refl _) (NS.ite (fun h => ?_) (fun h => ?_))
  · have h : k < l.length := by simpa using h
    repeat' (first | (refine Sat.go (Eq.refl _) (NS.chk (by kernel_rfl) ?_)) | (refine Sat.go (Eq.refl _) (NS.need (by simp; omega) ?_)))
    refine Sat.go (Eq.refl _) (NS.ite (fun h2 => ?_) (fun h2 => ?_))
    · exact Sat.go (Eq.refl _) (NS.leaveOut rfl (Eq.refl _) (NS.ret rfl rfl (LeA.of (congrArg A.bool ((sameBy_f (k := k) int_iff (not_t h2)).symm)))))
    · refine Sat.go (Eq.refl _) (NS.next ⟨k + 1, by omega, fun i hi => ?_⟩ (by simp; omega) ?_)
      · by_cases hik : i = k
        · subst hik; exact not_f h2
        · exact hn i (by omega)
      · exact weak_hd [] rfl ⟨rfl, rfl, rfl, ren_int rfl (i64_k (by omega) (by omega)), trivial⟩ trivial trivial (by kernel_rfl)
  · have h : ¬ k < l.length := by simpa using h
    refine Sat.go (Eq.refl _) (NS.leave rfl (Eq.refl _) ?_)
    exact Sat.go (Eq.refl _) (NS.ret rfl rfl (LeA.of (congrArg A.bool ((sameBy_t int_iff hlm fun i hi => hn i (by omega)).symm))))
theorem equalK_ok (l m : List Ctc) (hl : l.length ≤ 1000000) : FnOK Try.prog 44 [slCtc l, slCtc m] (.bool (sameBy Ctc.eqv l m), none) := by
  refine fn_ok CN rfl (by kernel_rfl) Try.func44 rfl ?_
  refine Sat.go (Eq.refl _) (NS.ite (fun h0 => ?_) (fun h0 => ?_))
  · exact Sat.go (Eq.refl _) (NS.ret rfl rfl (LeA.of (congrArg A.bool ((sameBy_len ctc_iff (by intro e; rw [e] at h0; simp at h0)).symm))))
  have hlm : l.length = m.length := by simp only [bne_eq_false_iff_eq] at h0; omega
  refine Sat.go (Eq.refl _) ?_
  refine NS.loop (σ := { k : Nat // k ≤ l.length ∧ ∀ i, i < k → Ctc.eqv (l.getD i default) (m.getD i default) = true }) (fun k => [(0, slCtc l), (1, slCtc m), (12, .int .i64 l.length), (13, .int .i64 k.1)]) (fun _ => []) (fun k => l.length - k.1) ⟨0, Nat.zero_le _, fun i hi => by omega⟩ ?_ ?_
  · exact weak_hd [] rfl ⟨rfl, rfl, rfl, rfl, trivial⟩ trivial trivial (by kernel_rfl)
  rintro ⟨k, hk, hn⟩
  refine Sat.go (Eq.refl _) (NS.ite (fun h => ?_) (fun h => ?_))
  · have h : k < l.length := by simpa using h
    repeat' (first | (refine Sat.go (Eq.refl _) (NS.chk (by kernel_rfl) ?_)) | (refine Sat.go (Eq.refl _) (NS.need (by simp; omega) ?_)))
    refine Sat.go (Eq.refl _) (NS.ite (fun h2 => ?_) (fun h2 => ?_))
    · exact Sat.go (Eq.refl _) (NS.leaveOut rfl (Eq.refl _) (NS.ret rfl rfl (LeA.of (congrArg A.bool ((sameBy_f (k := k) ctc_iff (not_t h2)).symm)))))
    · refine Sat.go (Eq.refl _) (NS.next ⟨k + 1, by omega, fun i hi => ?_⟩ (by simp; omega) ?_)
      · by_cases hik : i = k
        · subst hik; exact not_f h2
        · exact hn i (by omega)
      · exact weak_hd [] rfl ⟨rfl, rfl, rfl, ren_int rfl (i64_k (by omega) (by omega)), trivial⟩ trivial trivial (by kernel_rfl)
  · have h : ¬ k < l.length := by simpa using h
    refine Sat.go (Eq.refl _) (NS.leave rfl (Eq.refl _) ?_)
    exact Sat.go (Eq.refl _) (NS.ret rfl rfl (LeA.of (congrArg A.bool ((sameBy_t ctc_iff hlm fun i hi => hn i (by omega)).symm))))
theorem idxK_ok (l : List Ctc) (hl : l.length ≤ 1000000) (f c : Nat) (el : Nat → A) (p : Ctc → Bool) (hc : ∀ x, FnOK Try.prog f [.agg (Ctc.cells x), .ip c el] (.bool (p x), none)) : FnOK Try.prog 67 [slCtc l, .fn f [.ip c el]] (.int .i64 (idx p l), none) := by
  refine fn_ok CN rfl (by kernel_rfl) Try.func67 rfl ?_
  refine Sat.go (Eq.refl _) ?_
  refine NS.loop (σ := { k : Nat // k ≤ l.length ∧ ∀ i, i < k → p (l.getD i default) = false }) (fun k => [(0, slCtc l), (1, .fn f [.ip c el]), (7, .int .i64 l.length), (8, .int .i64 k.1)]) (fun _ => []) (fun k => l.length - k.1) ⟨0, Nat.zero_le _, fun i hi => by omega⟩ ?_ ?_
  · exact weak_hd [] rfl ⟨rfl, rfl, rfl, rfl, trivial⟩ trivial trivial (by kernel_rfl)
  rintro ⟨k, hk, hn⟩
  refine Sat.go (Eq.refl _) (NS.ite (fun h => ?_) (fun h => ?_))
  · have h : k < l.length := by simpa using h
    repeat' (first | (refine Sat.go (Eq.refl _) (NS.chk (by kernel_rfl) ?_)) | (refine Sat.go (Eq.refl _) (NS.need (by simp; omega) ?_)))
    refine Sat.go (Eq.refl _) (NS.call (hc (l.getD k default)) rfl ?_)
    refine Sat.go (Eq.refl _) (NS.ite (fun h2 => ?_) (fun h2 => ?_))
    · exact Sat.go (Eq.refl _) (NS.leaveOut rfl (Eq.refl _) (NS.ret rfl rfl (LeA.of (congrArg (A.int .i64) ((idx_found (by omega) h2 hn).symm)))))
    · refine Sat.go (Eq.refl _) (NS.next ⟨k + 1, by omega, fun i hi => ?_⟩ (by simp; omega) ?_)
      · by_cases hik : i = k
        · subst hik; exact h2
        · exact hn i (by omega)
      · exact weak_hd [] rfl ⟨rfl, rfl, rfl, ren_int rfl (i64_k (by omega) (by omega)), trivial⟩ trivial trivial (by kernel_rfl)
  · have h : ¬ k < l.length := by simpa using h
    refine Sat.go (Eq.refl _) (NS.leave rfl (Eq.refl _) ?_)
    exact Sat.go (Eq.refl _) (NS.ret rfl rfl (LeA.of (congrArg (A.int .i64) ((idx_none fun i hi => hn i (by omega)).symm))))
theorem idxC_ok (l : List Chg) (hl : l.length ≤ 1000000) (f c : Nat) (el : Nat → A) (p : Chg → Bool) (hc : ∀ x, FnOK Try.prog f [.agg (Chg.cells x), .ip c el] (.bool (p x), none)) : FnOK Try.prog 69 [slChg l, .fn f [.ip c el]] (.int .i64 (idx p l), none) := by
  refine fn_ok CN rfl (by kernel_rfl) Try.func69 rfl ?_
  refine Sat.go (Eq.refl _) ?_
  refine NS.loop (σ := { k : Nat // k ≤ l.length ∧ ∀ i, i < k → p (l.getD i default) = false }) (fun k => [(0, slChg l), (1, .fn f [.ip c el]), (7, .int .i64 l.length), (8, .int .i64 k.1)]) (fun _ => []) (fun k => l.length - k.1) ⟨0, Nat.zero_le _, fun i hi => by omega⟩ ?_ ?_
  · exact weak_hd [] rfl ⟨rfl, rfl, rfl, rfl, trivial⟩ trivial trivial (by kernel_rfl)
  rintro ⟨k, hk, hn⟩
  refine Sat.go (Eq.refl _) (NS.ite (fun h => ?_) (fun h => ?_))
  · have h : k < l.length := by simpa using h
    repeat' (first | (refine Sat.go (Eq.refl _) (NS.chk (by kernel_rfl) ?_)) | (refine Sat.go (Eq.refl _) (NS.need (by simp; omega) ?_)))
    refine Sat.go (Eq.refl _) (NS.call (hc (l.getD k default)) rfl ?_)
    refine Sat.go (Eq.refl _) (NS.ite (fun h2 => ?_) (fun h2 => ?_))
    · exact Sat.go (Eq.refl _) (NS.leaveOut rfl (Eq.refl _) (NS.ret rfl rfl (LeA.of (congrArg (A.int .i64) ((idx_found (by omega) h2 hn).symm)))))
    · refine Sat.go (Eq.refl _) (NS.next ⟨k + 1, by omega, fun i hi => ?_⟩ (by simp; omega) ?_)
      · by_cases hik : i = k
        · subst hik; exact h2
        · exact hn i (by omega)
      · exact weak_hd [] rfl ⟨rfl, rfl, rfl, ren_int rfl (i64_k (by omega) (by omega)), trivial⟩ trivial trivial (by kernel_rfl)
  · have h : ¬ k < l.length := by simpa using h
    refine Sat.go (Eq.refl _) (NS.leave rfl (Eq.refl _) ?_)
    exact Sat.go (Eq.refl _) (NS.ret rfl rfl (LeA.of (congrArg (A.int .i64) ((idx_none fun i hi => hn i (by omega)).symm))))
theorem idxV_ok (l : List Int) (hl : l.length ≤ 1000000) (f : Nat) (p : Int → Bool) (hc : ∀ x, FnOK Try.prog f [.int .i64 x] (.bool (p x), none)) : FnOK Try.prog 92 [slN l, .fn f []] (.int .i64 (idx p l), none) := by
  refine fn_ok CN rfl (by kernel_rfl) Try.func92 rfl ?_
  refine Sat.go (Eq.refl _) ?_
  refine NS.loop (σ := { k : Nat // k ≤ l.length ∧ ∀ i, i < k → p (l.getD i default) = false }) (fun k => [(0, slN l), (1, .fn f []), (7, .int .i64 l.length), (8, .int .i64 k.1)]) (fun _ => []) (fun k => l.length - k.1) ⟨0, Nat.zero_le _, fun i hi => by omega⟩ ?_ ?_
  · exact weak_hd [] rfl ⟨rfl, rfl, rfl, rfl, trivial⟩ trivial trivial (by kernel_rfl)
  rintro ⟨k, hk, hn⟩
  refine Sat.go (Eq.refl _) (NS.ite (fun h => ?_) (fun h => ?_))
  · have h : k < l.length := by simpa using h
    repeat' (first | (refine Sat.go (Eq.refl _) (NS.chk (by kernel_rfl) ?_)) | (refine Sat.go (Eq.refl _) (NS.need (by simp; omega) ?_)))
    refine Sat.go (Eq.refl _) (NS.call (hc (l.getD k default)) rfl ?_)
    refine Sat.go (Eq.refl _) (NS.ite (fun h2 => ?_) (fun h2 => ?_))
    · exact Sat.go (Eq.refl _) (NS.leaveOut rfl (Eq.refl _) (NS.ret rfl rfl (LeA.of (congrArg (A.int .i64) ((idx_found (by omega) h2 hn).symm)))))
    · refine Sat.go (Eq.refl _) (NS.next ⟨k + 1, by omega, fun i hi => ?_⟩ (by simp; omega) ?_)
      · by_cases hik : i = k
        · subst hik; exact h2
        · exact hn i (by omega)
      · exact weak_hd [] rfl ⟨rfl, rfl, rfl, ren_int rfl (i64_k (by omega) (by omega)), trivial⟩ trivial trivial (by kernel_rfl)
  · have h : ¬ k < l.length := by simpa using h
    refine Sat.go (Eq.refl _) (NS.leave rfl (Eq.refl _) ?_)
    exact Sat.go (Eq.refl _) (NS.ret rfl rfl (LeA.of (congrArg (A.int .i64) ((idx_none fun i hi => hn i (by omega)).symm))))
theorem anyK_ok (l : List Ctc) (hl : l.length ≤ 1000000) (f c : Nat) (el : Nat → A) (p : Ctc → Bool) (hc : ∀ x, FnOK Try.prog f [.agg (Ctc.cells x), .ip c el] (.bool (p x), none)) : FnOK Try.prog 30 [slCtc l, .fn f [.ip c el]] (.bool (l.any p), none) := by
  refine fn_ok CN rfl (by kernel_rfl) Try.func30 rfl ?_
  refine Sat.go (Eq.refl _) (NS.call (idxK_ok l hl f c el p hc) rfl ?_)
  exact Sat.go (Eq.refl _) (NS.ret rfl rfl (LeA.of (congrArg A.bool (idx_any _ _))))
theorem anyC_ok (l : List Chg) (hl : l.length ≤ 1000000) (f c : Nat) (el : Nat → A) (p : Chg → Bool) (hc : ∀ x, FnOK Try.prog f [.agg (Chg.cells x), .ip c el] (.bool (p x), none)) : FnOK Try.prog 35 [slChg l, .fn f [.ip c el]] (.bool (l.any p), none) := by
  refine fn_ok CN rfl (by kernel_rfl) Try.func35 rfl ?_
  refine Sat.go (Eq.refl _) (NS.call (idxC_ok l hl f c el p hc) rfl ?_)
  exact Sat.go (Eq.refl _) (NS.ret rfl rfl (LeA.of (congrArg A.bool (idx_any _ _))))
theorem anyV_ok (l : List Int) (hl : l.length ≤ 1000000) (f : Nat) (p : Int → Bool) (hc : ∀ x, FnOK Try.prog f [.int .i64 x] (.bool (p x), none)) : FnOK Try.prog 75 [slN l, .fn f []] (.bool (l.any p), none) := by
  refine fn_ok CN rfl (by kernel_rfl) Try.func75 rfl ?_
  refine Sat.go (Eq.refl _) (NS.call (idxV_ok l hl f p hc) rfl ?_)
  exact Sat.go (Eq.refl _) (NS.ret rfl rfl (LeA.of (congrArg A.bool (idx_any _ _))))
end Go.Proofs.Ythfbahebeembeaa
