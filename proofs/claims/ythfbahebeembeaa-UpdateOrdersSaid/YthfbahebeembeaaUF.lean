/- The reference's Check; New, Same. -/
import Derived.Test.YthfbahebeembeaaUE
set_option linter.unusedSimpArgs false
set_option linter.unusedSectionVars false
set_option linter.unusedVariables false
namespace Go.Mb
open Go.Sy
set_option linter.unusedVariables false
def newM (n : Int) : His × Int := if decide (n < 1) || decide (n > 16) then (⟨0, []⟩, 2) else (⟨n, []⟩, 0)
theorem folE_if {p x : Chg} : folE (some p) x = if x.org < p.org ∨ (p.org = x.org ∧ x.cnt ≤ p.cnt) then (9 : Int) else if p.org = x.org then (if x.cnt ≠ p.cnt + 1 then 25 else if x.stamp ≤ p.stamp then 9 else 0) else if x.cnt ≠ 1 then 25 else 0 := by
  show (if decide (x.org < p.org) || (p.org == x.org && decide (x.cnt ≤ p.cnt)) then (9 : Int) else if p.org == x.org then (if x.cnt != p.cnt + 1 then 25 else if decide (x.stamp ≤ p.stamp) then 9 else 0) else if x.cnt != 1 then 25 else 0) = _
  simp only [Bool.or_eq_true, Bool.and_eq_true, decide_eq_true_eq, beq_iff_eq, bne_iff_ne]
end Go.Mb
namespace Go.Proofs.Ythfbahebeembeaa
open Go.Sy Go.Mb
set_option maxRecDepth 100000
set_option linter.unusedVariables false
set_option maxHeartbeats 4000000
/-- A result that is a history with an error. -/
def hisR (r : His × Int) : A := .tup [.agg r.1.cells, .int .i64 r.2]
theorem hisR_le {x : A} {n : Int} {l : List Chg} {e : Int} (h : LeA x (slChg l)) : LeA (.tup [.agg [.int .i64 n, x], .int .i64 e]) (hisR (⟨n, l⟩, e)) := LeA.tup2 (LeA.agg (LeL.cons (LeA.refl _) (LeL.cons h LeL.nil))) (LeA.refl _)
theorem nil_chg : LeA .nils (slChg []) := LeA.nil' rfl
theorem new_ok (n : Int) : FnOK Try.prog 18 [.int .i64 n] (hisR (newM n), none) := by
  have h0 : ∀ r, r = newM n → FnOK Try.prog 18 [.int .i64 n] (hisR r, none) := by
    intro r hr
    refine fn_ok CN rfl (by kernel_rfl) Try.func18 rfl ?_
    refine Sat.go (Eq.refl _) (NS.ite (fun h1 => ?_) (fun h1 => ?_))
    · rw [hr]; unfold newM; rw [show decide (n < 1) = true from h1, Bool.true_or, if_pos rfl]
      exact Sat.go (Eq.refl _) (NS.ret rfl rfl (hisR_le nil_chg))
    refine Sat.go (Eq.refl _) (NS.ite (fun h2 => ?_) (fun h2 => ?_))
    · rw [hr]; unfold newM; rw [show decide (n > 16) = true from h2, Bool.or_true, if_pos rfl]
      exact Sat.go (Eq.refl _) (NS.ret rfl rfl (hisR_le nil_chg))
    · rw [hr]; unfold newM; rw [show decide (n < 1) = false from h1, show decide (n > 16) = false from h2, if_neg (by simp)]
      exact Sat.go (Eq.refl _) (NS.ret rfl rfl (hisR_le nil_chg))
  exact h0 _ rfl
theorem rCheck_ok (h : His) : FnOK Try.prog 25 [.agg h.cells] (.int .i64 (chkHi h), none) := by
  refine fn_ok CN rfl (by kernel_rfl) Try.func25 rfl ?_
  refine Sat.go (Eq.refl _) (NS.ite (fun h1 => ?_) (fun h1 => ?_))
  · exact Sat.go (Eq.refl _) (NS.ret rfl rfl (LeA.of (congrArg (A.int .i64) (by unfold chkHi; rw [show decide (h.nodes < 1) = true from h1]; rfl))))
  refine Sat.go (Eq.refl _) (NS.ite (fun h2 => ?_) (fun h2 => ?_))
  · exact Sat.go (Eq.refl _) (NS.ret rfl rfl (LeA.of (congrArg (A.int .i64) (by unfold chkHi; rw [show decide (h.nodes > 16) = true from h2, Bool.or_true, if_pos rfl]))))
  have e1 : ¬ (decide (h.nodes < 1) || decide (h.nodes > 16)) = true := by rw [show decide (h.nodes < 1) = false from h1, show decide (h.nodes > 16) = false from h2]; simp
  refine Sat.go (Eq.refl _) (NS.ite (fun h3 => ?_) (fun h3 => ?_))
  · exact Sat.go (Eq.refl _) (NS.ret rfl rfl (LeA.of (congrArg (A.int .i64) (by unfold chkHi; rw [if_neg e1, if_pos h3]))))
  have e2 : chkHi h = chkL h.nodes none h.l := by unfold chkHi; rw [if_neg e1, if_neg (by rw [show decide ((h.l.length : Int) > 1000) = false from h3]; simp)]
  have hl : h.l.length ≤ 1000 := by have := of_decide_eq_false h3; omega
  rw [e2]
  refine Sat.go (Eq.refl _) ?_
  refine NS.loop (σ := { k : Nat // k ≤ h.l.length ∧ chkL h.nodes none h.l = chkL h.nodes (optAt h.l k) (h.l.drop k) ∧ upTo (optAt h.l k) k }) (fun k => [(1, .ptr 1 0), (3, .int .i64 k.1)]) (fun k => [(1, .box h.cells)]) (fun k => h.l.length - k.1) ⟨0, Nat.zero_le _, rfl, fun q hq => by cases hq⟩ ?_ ?_
  · exact weak_hd [] rfl ⟨rfl, rfl, trivial⟩ ⟨⟨_, rfl, renHis _ _⟩, trivial⟩ trivial (by kernel_rfl)
  rintro ⟨k, hk, hs, hu⟩
  refine Sat.go (Eq.refl _) (NS.ite (fun a => ?_) (fun a => ?_))
  · have a : k < h.l.length := by simpa using a
    rw [drop_cons a, chkL] at hs
    refine Sat.go (Eq.refl _) (NS.need (by simp; omega) ?_)
    refine Sat.go (Eq.refl _) (NS.call (rValid_ok h.nodes (h.l.getD k default)) rfl ?_)
    refine Sat.go (Eq.refl _) (NS.ite (fun b => ?_) (fun b => ?_))
    · have b : (!validX h.nodes (h.l.getD k default)) = true := b
      exact Sat.go (Eq.refl _) (NS.leaveOut rfl (Eq.refl _) (NS.ret rfl rfl (LeA.of (congrArg (A.int .i64) (by rw [hs, if_pos b])))))
    have b : (!validX h.nodes (h.l.getD k default)) = false := b
    rw [if_neg (by rw [b]; simp)] at hs
    rcases k with _ | k
    · have hs : chkL h.nodes none h.l = if folE none (h.l.getD 0 default) != 0 then folE none (h.l.getD 0 default) else chkL h.nodes (some (h.l.getD 0 default)) (h.l.drop 1) := hs
      by_cases f : folE none (h.l.getD 0 default) = 0
      · rw [if_neg (by rw [f]; simp)] at hs
        have f1 := folE_none.1 f
        repeat' (first | (refine Sat.go (Eq.refl _) (NS.chk (by kernel_rfl) ?_)) | (refine Sat.go (Eq.refl _) (NS.no (rfl) ?_)) | (refine Sat.go (Eq.refl _) (NS.ite (fun h => ?_) (fun h => ?_))) | (refine Sat.go (Eq.refl _) (NS.next ⟨1, by omega, hs, upTo_next hu (by simpa using b) f⟩ (by simp; omega) ?_); exact weak_hd [] rfl ⟨rfl, rfl, trivial⟩ ⟨⟨_, rfl, renHis _ _⟩, trivial⟩ trivial (by kernel_rfl)) | (exact Sat.go (Eq.refl _) (NS.leaveOut rfl (Eq.refl _) (NS.ret rfl rfl (LeA.of (congrArg (A.int .i64) (by simp_all)))))))
      · have f1 : ¬ (h.l.getD 0 default).cnt = 1 := fun e => f (folE_none.2 e)
        rw [if_pos (by simpa using f), show folE none (h.l.getD 0 default) = 25 from if_pos (by simpa using f1)] at hs
        repeat' (first | (refine Sat.go (Eq.refl _) (NS.chk (by kernel_rfl) ?_)) | (refine Sat.go (Eq.refl _) (NS.no (rfl) ?_)) | (refine Sat.go (Eq.refl _) (NS.yes (by simpa using f1) ?_)) | (exact Sat.go (Eq.refl _) (NS.leaveOut rfl (Eq.refl _) (NS.ret rfl rfl (LeA.of (congrArg (A.int .i64) (hs.symm)))))))
    · have hs : chkL h.nodes none h.l = if folE (some (h.l.getD k default)) (h.l.getD (k + 1) default) != 0 then folE (some (h.l.getD k default)) (h.l.getD (k + 1) default) else chkL h.nodes (some (h.l.getD (k + 1) default)) (h.l.drop (k + 2)) := hs
      have hp : IntKind.i64.wrap (((k + 1 : Nat) : Int) - 1) = (k : Int) := by rw [wrap_i64 (by omega) (by omega)]; omega
      have hq := hu _ rfl
      have hw : IntKind.i64.wrap ((h.l.getD k default).cnt + 1) = (h.l.getD k default).cnt + 1 := wrap_i64 (by omega) (by omega)
      by_cases f : folE (some (h.l.getD k default)) (h.l.getD (k + 1) default) = 0
      · rw [if_neg (by rw [f]; simp)] at hs
        have f1 := folE_some.1 f
        unfold Nxt at f1
        rcases f1 with f1 | f1
        · repeat' (first | (refine Sat.go (Eq.refl _) (NS.chk (by kernel_rfl) ?_)) | (refine Sat.go (Eq.refl _) (NS.need (by simp only [hp, decide_eq_true_eq]; omega) ?_)) | (refine Sat.go (Eq.refl _) (NS.no (by simp only [hp, hw, Int.toNat_natCast, Bool.not_eq_true', Bool.not_eq_false', decide_eq_true_eq, decide_eq_false_iff_not, beq_iff_eq, beq_eq_false_iff_ne, bne_iff_ne, bne_eq_false_iff_eq]; omega) ?_)) | (refine Sat.go (Eq.refl _) (NS.yes (by simp only [hp, hw, Int.toNat_natCast, Bool.not_eq_true', Bool.not_eq_false', decide_eq_true_eq, decide_eq_false_iff_not, beq_iff_eq, beq_eq_false_iff_ne, bne_iff_ne, bne_eq_false_iff_eq]; omega) ?_)) | (refine Sat.go (Eq.refl _) (NS.next ⟨k + 2, by omega, hs, upTo_next hu (by simpa using b) f⟩ (by simp; omega) ?_); exact weak_hd [] rfl ⟨rfl, ren_int rfl (i64_k (k := k + 1) (n := h.l.length) a (by omega)), trivial⟩ ⟨⟨_, rfl, renHis _ _⟩, trivial⟩ trivial (by kernel_rfl)))
        · repeat' (first | (refine Sat.go (Eq.refl _) (NS.chk (by kernel_rfl) ?_)) | (refine Sat.go (Eq.refl _) (NS.need (by simp only [hp, decide_eq_true_eq]; omega) ?_)) | (refine Sat.go (Eq.refl _) (NS.no (by simp only [hp, hw, Int.toNat_natCast, Bool.not_eq_true', Bool.not_eq_false', decide_eq_true_eq, decide_eq_false_iff_not, beq_iff_eq, beq_eq_false_iff_ne, bne_iff_ne, bne_eq_false_iff_eq]; omega) ?_)) | (refine Sat.go (Eq.refl _) (NS.yes (by simp only [hp, hw, Int.toNat_natCast, Bool.not_eq_true', Bool.not_eq_false', decide_eq_true_eq, decide_eq_false_iff_not, beq_iff_eq, beq_eq_false_iff_ne, bne_iff_ne, bne_eq_false_iff_eq]; omega) ?_)) | (refine Sat.go (Eq.refl _) (NS.next ⟨k + 2, by omega, hs, upTo_next hu (by simpa using b) f⟩ (by simp; omega) ?_); exact weak_hd [] rfl ⟨rfl, ren_int rfl (i64_k (k := k + 1) (n := h.l.length) a (by omega)), trivial⟩ ⟨⟨_, rfl, renHis _ _⟩, trivial⟩ trivial (by kernel_rfl)))
      · have f1 : ¬ Nxt _ _ := fun e => f (folE_some.2 e)
        rw [if_pos (by simpa using f)] at hs
        have hv : folE (some (h.l.getD k default)) (h.l.getD (k + 1) default) = if (h.l.getD (k + 1) default).org < (h.l.getD k default).org ∨ ((h.l.getD k default).org = (h.l.getD (k + 1) default).org ∧ (h.l.getD (k + 1) default).cnt ≤ (h.l.getD k default).cnt) then (9 : Int) else if (h.l.getD k default).org = (h.l.getD (k + 1) default).org then (if (h.l.getD (k + 1) default).cnt ≠ (h.l.getD k default).cnt + 1 then 25 else if (h.l.getD (k + 1) default).stamp ≤ (h.l.getD k default).stamp then 9 else 0) else if (h.l.getD (k + 1) default).cnt ≠ 1 then 25 else 0 := folE_if
        rw [hv] at hs
        unfold Nxt at f1
        clear hv f
        repeat' (first | (refine Sat.go (Eq.refl _) (NS.chk (by kernel_rfl) ?_)) | (refine Sat.go (Eq.refl _) (NS.need (by simp only [hp, decide_eq_true_eq]; omega) ?_)) | (refine Sat.go (Eq.refl _) (NS.no (by simp only [hp, hw, Int.toNat_natCast, Bool.not_eq_true', Bool.not_eq_false', decide_eq_true_eq, decide_eq_false_iff_not, beq_iff_eq, beq_eq_false_iff_ne, bne_iff_ne, bne_eq_false_iff_eq]; omega) ?_)) | (refine Sat.go (Eq.refl _) (NS.yes (by simp only [hp, hw, Int.toNat_natCast, Bool.not_eq_true', Bool.not_eq_false', decide_eq_true_eq, decide_eq_false_iff_not, beq_iff_eq, beq_eq_false_iff_ne, bne_iff_ne, bne_eq_false_iff_eq]; omega) ?_)) | (refine Sat.go (Eq.refl _) (NS.ite (fun h => ?_) (fun h => ?_))) | (exact Sat.go (Eq.refl _) (NS.leaveOut rfl (Eq.refl _) (NS.ret rfl rfl (LeA.of (congrArg (A.int .i64) (by rw [hs]; simp only [hp, hw, Int.toNat_natCast, Bool.not_eq_true', Bool.not_eq_false', decide_eq_true_eq, decide_eq_false_iff_not, beq_iff_eq, beq_eq_false_iff_ne, bne_iff_ne, bne_eq_false_iff_eq] at *; (repeat' split) <;> omega)))))) | (exfalso; simp only [hp, hw, Int.toNat_natCast, Bool.not_eq_true', Bool.not_eq_false', decide_eq_true_eq, decide_eq_false_iff_not, beq_iff_eq, beq_eq_false_iff_ne, bne_iff_ne, bne_eq_false_iff_eq] at *; omega))
  · have a : h.l.length ≤ k := by simpa using a
    rw [List.drop_eq_nil_of_le a] at hs
    refine Sat.go (Eq.refl _) (NS.leave rfl (Eq.refl _) ?_)
    exact Sat.go (Eq.refl _) (NS.ret rfl rfl (LeA.of (congrArg (A.int .i64) (hs.symm))))
end Go.Proofs.Ythfbahebeembeaa
