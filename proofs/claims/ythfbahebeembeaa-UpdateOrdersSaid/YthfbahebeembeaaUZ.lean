/- The laws UpdateChecks, UpdateChanges, UpdateMerge. -/
import Derived.Test.YthfbahebeembeaaUV
import Derived.Test.YthfbahebeembeaaUY
set_option linter.unusedSimpArgs false
set_option linter.unusedSectionVars false
set_option linter.unusedVariables false
namespace Go.Mb
open Go.Sy
set_option linter.unusedVariables false
theorem same_refl (h : His) : (h.nodes == h.nodes && sameBy Chg.eqv h.l h.l) = true := by rw [(sameBy_iff chg_iff).2 rfl]; simp
theorem newM_len (n : Int) : (newM n).1.l = [] := by unfold newM; split <;> rfl
theorem putM_len (h : His) (o : Int) (c : Ctc) : (putM h o c).1.l.length ≤ h.l.length + 1 := by
  unfold putM
  split
  · simp
  · split
    · simp
    · show (insM _ _).length ≤ _; rw [insM_len]; omega
theorem remM_len (h : His) (o : Int) (c : Ctc) : (remM h o c).1.l.length ≤ h.l.length + 1 := by
  unfold remM
  split
  · simp
  · split
    · simp
    · split
      · simp
      · show (insM _ _).length ≤ _; rw [insM_len]; omega
theorem insM_le (l : List Chg) (x : Chg) : (insM l x).length ≤ l.length + 1 := by rw [insM_len]; omega
theorem insAll_len : ∀ {l all r : List Chg}, insAll all l = some r → r.length ≤ all.length + l.length
  | [], all, r, h => by unfold insAll at h; injection h with h; subst h; simp
  | x :: l, all, r, h => by
    rw [insAll_cons] at h
    cases hs : insStep all x with
    | none => rw [hs] at h; cases h
    | some a =>
      rw [hs] at h
      have := insAll_len (l := l) h
      have h2 : a.length ≤ all.length + 1 := by
        unfold insStep at hs
        split at hs
        · cases hs
        · split at hs
          · injection hs with hs; subst hs; omega
          · injection hs with hs; subst hs; exact insM_le _ _
      simp only [List.length_cons]; omega
theorem mergeM_len (h : His) (l : List Chg) : (mergeM h l).1.l.length ≤ h.l.length + l.length := by
  unfold mergeM
  split
  · simp
  · split
    · simp
    · split
      · simp
      · rename_i r hr
        have := insAll_len hr
        split
        · simp
        · split
          · simp
          · split
            · simp
            · exact this
theorem missM_len (h : His) (v : List Int) : (missM h v).1.length ≤ h.l.length := by
  unfold missM
  split
  · simp
  · split
    · simp
    · split
      · simp
      · exact List.length_filter_le _ _
theorem consM_len (h : His) : (consM h).1.length ≤ h.l.length := by
  unfold consM
  split
  · simp
  · split
    · simp
    · show (conN h.l).length ≤ _; rw [show (conN h.l).length = (conL h.l).length from (srtN_perm _).length_eq]; exact conL_len _
end Go.Mb
namespace Go.Proofs.Ythfbahebeembeaa
open Go.Sy Go.Mb
set_option maxRecDepth 100000
set_option linter.unusedVariables false
set_option maxHeartbeats 4000000
theorem rNew_ok (n : Int) : FnOK Try.prog 19 [.int .i64 n] (hisR (newM n), none) := by
  have h0 : ∀ r, r = newM n → FnOK Try.prog 19 [.int .i64 n] (hisR r, none) := by
    intro r hr
    refine fn_ok CN rfl (by kernel_rfl) Try.func19 rfl ?_
    refine Sat.go (Eq.refl _) (NS.ite (fun h1 => ?_) (fun h1 => ?_))
    · rw [hr]; unfold newM; rw [show decide (n < 1) = true from h1, Bool.true_or, if_pos rfl]
      exact Sat.go (Eq.refl _) (NS.ret rfl rfl (hisR_le nil_chg))
    refine Sat.go (Eq.refl _) (NS.ite (fun h2 => ?_) (fun h2 => ?_))
    · rw [hr]; unfold newM; rw [show decide (n > 16) = true from h2, Bool.or_true, if_pos rfl]
      exact Sat.go (Eq.refl _) (NS.ret rfl rfl (hisR_le nil_chg))
    · rw [hr]; unfold newM; rw [show decide (n < 1) = false from h1, show decide (n > 16) = false from h2, if_neg (by simp)]
      exact Sat.go (Eq.refl _) (NS.ret rfl rfl (hisR_le nil_chg))
  exact h0 _ rfl
def exC : Ctc := ⟨0, 1, 5, 9, 1, 1, 0⟩
def exX : Chg := ⟨0, 1, 1, 1, exC⟩
def exY : Chg := ⟨1, 1, 2, 2, ⟨0, 1, 5, 0, 0, 0, 0⟩⟩
theorem awake_ok : FnOK Try.prog 12 [] (.bool true, none) := by
  have c1 := new_ok 2
  rw [show newM 2 = (⟨2, []⟩, 0) by kernel_rfl] at c1
  have c2 := put_ok ⟨2, []⟩ 0 exC (by simp)
  rw [show putM ⟨2, []⟩ 0 exC = (⟨2, [exX]⟩, 0) by kernel_rfl] at c2
  have c3 := contacts_ok ⟨2, [exX]⟩ (by simp)
  rw [show consM ⟨2, [exX]⟩ = ([exC], 0) by kernel_rfl] at c3
  have c4 := remove_ok ⟨2, [exX]⟩ 1 exC (by simp)
  rw [show remM ⟨2, [exX]⟩ 1 exC = (⟨2, [exX, exY]⟩, 0) by kernel_rfl] at c4
  have c5 := contacts_ok ⟨2, [exX, exY]⟩ (by simp)
  rw [show consM ⟨2, [exX, exY]⟩ = ([], 0) by kernel_rfl] at c5
  have c6 := equalK_ok [exC] [exC] (by simp)
  rw [show sameBy Ctc.eqv [exC] [exC] = true by kernel_rfl] at c6
  refine fn_ok CN rfl (by kernel_rfl) Try.func12 rfl ?_
  refine Sat.go (Eq.refl _) (NS.call (c1) rfl ?_)
  refine Sat.go (Eq.refl _) (NS.call (c2) rfl ?_)
  refine Sat.go (Eq.refl _) (NS.call (c3) rfl ?_)
  refine Sat.go (Eq.refl _) (NS.call (c4) rfl ?_)
  refine Sat.go (Eq.refl _) (NS.call (c5) rfl ?_)
  repeat' (first | (refine Sat.go (Eq.refl _) (NS.yes (rfl) ?_)) | (refine Sat.go (Eq.refl _) (NS.need (rfl) ?_)) | (refine Sat.go (Eq.refl _) (NS.call (c6.le (LeL.cons (LeA.refl _) (LeL.cons (LeA.sl rfl (row_one rfl)) LeL.nil))) rfl ?_)))
  exact Sat.go (Eq.refl _) (NS.ret rfl rfl (LeA.refl _))
theorem updateChecks_ok (h : His) (n : Int) : FnOK Try.prog 4 [.agg h.cells, .int .i64 n] (.bool true, none) := by
  refine fn_ok CN rfl (by kernel_rfl) Try.func4 rfl ?_
  refine Sat.go (Eq.refl _) (NS.call (great_ok h) rfl ?_)
  refine Sat.go (Eq.refl _) (NS.ite (fun h0 => ?_) (fun h0 => ?_))
  · refine Sat.go (Eq.refl _) (NS.call (awake_ok) rfl ?_)
    exact Sat.go (Eq.refl _) (NS.ret rfl rfl (LeA.refl _))
  have hl : h.l.length ≤ 40 := by have h0 : ¬ (h.l.length : Int) > 40 := of_decide_eq_false h0
                                  omega
  refine Sat.go (Eq.refl _) (NS.call (new_ok n) rfl ?_)
  refine Sat.go (Eq.refl _) (NS.call (rNew_ok n) rfl ?_)
  refine Sat.go (Eq.refl _) (NS.call (knownV_ok h (by omega)) rfl ?_)
  refine Sat.go (Eq.refl _) (NS.call (rKnownV_ok h (by omega)) rfl ?_)
  refine Sat.go (Eq.refl _) (NS.call (contacts_ok h (by omega)) rfl ?_)
  refine Sat.go (Eq.refl _) (NS.call (rContacts_ok h (by omega)) rfl ?_)
  refine Sat.go (Eq.refl _) (NS.chk (by kernel_rfl) ?_)
  refine Sat.go (Eq.refl _) (NS.call (same_ok (newM n).1 (newM n).1 (by rw [newM_len]; simp)) rfl ?_)
  refine Sat.go (Eq.refl _) (NS.yes (same_refl _) ?_)
  refine Sat.go (Eq.refl _) (NS.yes (by simp) ?_)
  refine Sat.go (Eq.refl _) (NS.call (check_ok h) rfl ?_)
  refine Sat.go (Eq.refl _) (NS.call (rCheck_ok h) rfl ?_)
  refine Sat.go (Eq.refl _) (NS.yes (by simp) ?_)
  refine Sat.go (Eq.refl _) (NS.call (equalV_ok (if chkHi h != 0 then [] else vecL h.nodes.toNat h.l) (if chkHi h != 0 then [] else vecL h.nodes.toNat h.l) (by split; simp; (have := chkHi_nodes (h := h) (by rename_i e; simpa using e); simp [vecL]; omega))) rfl ?_)
  refine Sat.go (Eq.refl _) (NS.yes ((sameBy_iff int_iff).2 rfl) ?_)
  refine Sat.go (Eq.refl _) (NS.yes (by simp) ?_)
  refine Sat.go (Eq.refl _) (NS.call (sameK_ok (consM h).1 (consM h).1 (by have := consM_len h; omega)) rfl ?_)
  refine Sat.go (Eq.refl _) (NS.yes ((sameBy_iff ctc_iff).2 rfl) ?_)
  refine Sat.go (Eq.refl _) (NS.yes (by simp) ?_)
  refine Sat.go (Eq.refl _) (NS.call (awake_ok) rfl ?_)
  exact Sat.go (Eq.refl _) (NS.ret rfl rfl (LeA.refl _))
theorem updateChanges_ok (h : His) (o : Int) (c : Ctc) : FnOK Try.prog 3 [.agg h.cells, .int .i64 o, .agg c.cells] (.bool true, none) := by
  refine fn_ok CN rfl (by kernel_rfl) Try.func3 rfl ?_
  refine Sat.go (Eq.refl _) (NS.call (great_ok h) rfl ?_)
  refine Sat.go (Eq.refl _) (NS.ite (fun h0 => ?_) (fun h0 => ?_))
  · refine Sat.go (Eq.refl _) (NS.call (awake_ok) rfl ?_)
    exact Sat.go (Eq.refl _) (NS.ret rfl rfl (LeA.refl _))
  have hl : h.l.length ≤ 40 := by have h0 : ¬ (h.l.length : Int) > 40 := of_decide_eq_false h0
                                  omega
  refine Sat.go (Eq.refl _) (NS.call (put_ok h o c (by omega)) rfl ?_)
  refine Sat.go (Eq.refl _) (NS.call (rPut_ok h o c (by omega)) rfl ?_)
  refine Sat.go (Eq.refl _) (NS.call (remove_ok h o c (by omega)) rfl ?_)
  refine Sat.go (Eq.refl _) (NS.call (rRemove_ok h o c (by omega)) rfl ?_)
  repeat' (first | (refine Sat.go (Eq.refl _) (NS.chk (by kernel_rfl) ?_)))
  refine Sat.go (Eq.refl _) (NS.call (same_ok (putM h o c).1 (putM h o c).1 (by have := putM_len h o c; omega)) rfl ?_)
  refine Sat.go (Eq.refl _) (NS.yes (same_refl _) ?_)
  refine Sat.go (Eq.refl _) (NS.yes (by simp) ?_)
  refine Sat.go (Eq.refl _) (NS.call (same_ok (remM h o c).1 (remM h o c).1 (by have := remM_len h o c; omega)) rfl ?_)
  refine Sat.go (Eq.refl _) (NS.yes (same_refl _) ?_)
  refine Sat.go (Eq.refl _) (NS.yes (by simp) ?_)
  refine Sat.go (Eq.refl _) (NS.call (awake_ok) rfl ?_)
  exact Sat.go (Eq.refl _) (NS.ret rfl rfl (LeA.refl _))
theorem updateMerge_ok (h : His) (l : List Chg) (v : List Int) : FnOK Try.prog 7 [.agg h.cells, slChg l, slN v] (.bool true, none) := by
  refine fn_ok CN rfl (by kernel_rfl) Try.func7 rfl ?_
  refine Sat.go (Eq.refl _) (NS.call (great_ok h) rfl ?_)
  refine Sat.go (Eq.refl _) (NS.ite (fun h0 => ?_) (fun h0 => ?_))
  · repeat' (first | (refine Sat.go (Eq.refl _) (NS.chk (by kernel_rfl) ?_)))
    refine Sat.go (Eq.refl _) (NS.call (awake_ok) rfl ?_)
    exact Sat.go (Eq.refl _) (NS.ret rfl rfl (LeA.refl _))
  have hl : h.l.length ≤ 40 := by have h0 : ¬ (h.l.length : Int) > 40 := of_decide_eq_false h0
                                  omega
  refine Sat.go (Eq.refl _) (NS.ite (fun h1 => ?_) (fun h1 => ?_))
  · refine Sat.go (Eq.refl _) (NS.call (awake_ok) rfl ?_)
    exact Sat.go (Eq.refl _) (NS.ret rfl rfl (LeA.refl _))
  have hm : l.length ≤ 40 := by have h1 : ¬ (l.length : Int) > 40 := of_decide_eq_false h1
                                omega
  refine Sat.go (Eq.refl _) (NS.ite (fun h2 => ?_) (fun h2 => ?_))
  · refine Sat.go (Eq.refl _) (NS.call (awake_ok) rfl ?_)
    exact Sat.go (Eq.refl _) (NS.ret rfl rfl (LeA.refl _))
  have hv : v.length ≤ 20 := by have h2 : ¬ (v.length : Int) > 20 := of_decide_eq_false h2
                                omega
  refine Sat.go (Eq.refl _) (NS.call (merge_ok h l (by omega) (by omega)) rfl ?_)
  refine Sat.go (Eq.refl _) (NS.call (rMerge_ok h l (by omega) (by omega)) rfl ?_)
  refine Sat.go (Eq.refl _) (NS.call (missing_ok h v (by omega) (by omega)) rfl ?_)
  refine Sat.go (Eq.refl _) (NS.call (rMissing_ok h v (by omega) (by omega)) rfl ?_)
  repeat' (first | (refine Sat.go (Eq.refl _) (NS.chk (by kernel_rfl) ?_)))
  refine Sat.go (Eq.refl _) (NS.call (same_ok (mergeM h l).1 (mergeM h l).1 (by have := mergeM_len h l; omega)) rfl ?_)
  refine Sat.go (Eq.refl _) (NS.yes (same_refl _) ?_)
  refine Sat.go (Eq.refl _) (NS.yes (by simp) ?_)
  refine Sat.go (Eq.refl _) (NS.call (sameC_ok (missM h v).1 (missM h v).1 (by have := missM_len h v; omega)) rfl ?_)
  refine Sat.go (Eq.refl _) (NS.yes ((sameBy_iff chg_iff).2 rfl) ?_)
  refine Sat.go (Eq.refl _) (NS.yes (by simp) ?_)
  refine Sat.go (Eq.refl _) (NS.call (awake_ok) rfl ?_)
  exact Sat.go (Eq.refl _) (NS.ret rfl rfl (LeA.refl _))
end Go.Proofs.Ythfbahebeembeaa
