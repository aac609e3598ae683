/- The checks of bundles. -/
import Derived.Test.YtdhfgfkfejpfdaaGreatKC
set_option linter.unusedSimpArgs false
set_option linter.unusedSectionVars false
set_option linter.unusedVariables false
namespace Go.Proofs.YtdhfgfkfejpfdaaGreat
open Go.Sy Go.Mb
set_option maxRecDepth 100000
set_option linter.unusedVariables false
set_option maxHeartbeats 4000000

theorem checkBlocks_ok (l : List Blk) : FnOK Tryz.prog 51 [slBlk l] (.int .i64 (chkBs l), none) := by
  refine fn_ok CN rfl (by kernel_rfl) Tryz.func51 rfl ?_
  refine Sat.go (Eq.refl _) (NS.ite (fun h0 => ?_) (fun h0 => ?_))
  · exact Sat.go (Eq.refl _) (NS.ret rfl rfl (LeA.of (congrArg (A.int .i64) (by unfold chkBs; rw [if_pos h0]))))
  have hl : l.length ≤ 8 := by have := of_decide_eq_false h0; omega
  have e0 : chkBs l = if fstE l != 0 then fstE l else if ordB none l then 0 else 9 := by unfold chkBs; rw [if_neg (by rw [h0]; simp)]
  rw [e0]
  refine Sat.go (Eq.refl _) ?_
  refine NS.loop (σ := { k : Nat // k ≤ l.length ∧ fstE l = fstE (l.drop k) }) (fun k => [(0, slBlk l), (10, slBlk l), (11, .int .i64 l.length), (12, .int .i64 k.1)]) (fun k => []) (fun k => l.length - k.1) ⟨0, Nat.zero_le _, rfl⟩ ?_ ?_
  · exact weak_hd [] rfl ⟨rfl, rfl, rfl, rfl, trivial⟩ trivial trivial (by kernel_rfl)
  rintro ⟨k, hk, hs⟩
  have hs : fstE l = fstE (l.drop k) := hs
  refine Sat.go (Eq.refl _) (NS.ite (fun a => ?_) (fun a => ?_))
  · have a : k < l.length := by simpa using a
    rw [drop_cons a, fstE] at hs
    refine Sat.go (Eq.refl _) (NS.need (by simp; omega) ?_)
    refine Sat.go (Eq.refl _) (NS.call (kCheck_ok (l.getD k default)) rfl ?_)
    refine Sat.go (Eq.refl _) (NS.ite (fun b => ?_) (fun b => ?_))
    · have b : (chkK (l.getD k default) != 0) = true := b
      rw [if_pos b] at hs
      exact Sat.go (Eq.refl _) (NS.leaveOut rfl (Eq.refl _) (NS.ret rfl rfl (LeA.of (congrArg (A.int .i64) (by rw [hs, if_pos b])))))
    have b : (chkK (l.getD k default) != 0) = false := b
    rw [if_neg (by rw [b]; simp)] at hs
    refine Sat.go (Eq.refl _) (NS.next ⟨k + 1, by omega, hs⟩ (by show l.length - (k + 1) < l.length - k; omega) ?_)
    exact weak_hd [] rfl ⟨rfl, rfl, rfl,ren_int rfl (i64_k (k := k) (n := l.length) a (by omega)), trivial⟩ trivial trivial (by kernel_rfl)
  have a : l.length ≤ k := by simpa using a
  rw [List.drop_eq_nil_of_le a] at hs
  have hs : fstE l = 0 := hs
  rw [if_neg (by rw [hs]; simp)]
  refine Sat.go (Eq.refl _) (NS.leave rfl (Eq.refl _) ?_)
  refine Sat.go (Eq.refl _) ?_
  refine NS.loop (σ := { k : Nat // (k + 1 ≤ l.length ∨ (k = 0 ∧ l.length = 0)) ∧ ordB none l = ordB (some (l.getD k default)) (l.drop (k + 1)) }) (fun k => [(0, slBlk l), (6, .int .i64 ((k.1 + 1 : Nat) : Int))]) (fun k => []) (fun k => l.length - k.1) ⟨0, by omega, by cases l <;> rfl⟩ ?_ ?_
  · exact weak_hd [] rfl ⟨rfl, rfl, trivial⟩ trivial trivial (by kernel_rfl)
  rintro ⟨k, hk2, hs2⟩
  have hs2 : ordB none l = ordB (some (l.getD k default)) (l.drop (k + 1)) := hs2
  have hk2 : k + 1 ≤ l.length ∨ (k = 0 ∧ l.length = 0) := hk2
  have hp : IntKind.i64.wrap (((k + 1 : Nat) : Int) - 1) = (k : Int) := i64_s (n := 9) (by omega) (by omega)
  refine Sat.go (Eq.refl _) (NS.ite (fun a => ?_) (fun a => ?_))
  · have a : k + 1 < l.length := by have a : decide (((k + 1 : Nat) : Int) < (l.length : Int)) = true := a; have := of_decide_eq_true a; omega
    rw [drop_cons a, ordB] at hs2
    refine Sat.go (Eq.refl _) (NS.chk (by kernel_rfl) ?_)
    refine Sat.go (Eq.refl _) (NS.need (by show decide (0 ≤ ((k + 1 : Nat) : Int) ∧ ((k + 1 : Nat) : Int) < (l.length : Int)) = true; exact decide_eq_true (by omega)) ?_)
    refine Sat.go (Eq.refl _) (NS.need (by rw [hp]; exact decide_eq_true (by omega)) ?_)
    refine Sat.go (Eq.refl _) (NS.ite (fun b => ?_) (fun b => ?_))
    · rw [hp] at b
      have b : (l.getD (k + 1) default).kind ≤ (l.getD k default).kind := of_decide_eq_true b
      rw [decide_eq_false (by omega), Bool.false_and] at hs2
      exact Sat.go (Eq.refl _) (NS.leaveOut rfl (Eq.refl _) (NS.ret rfl rfl (LeA.of (congrArg (A.int .i64) (by rw [hs2]; rfl)))))
    rw [hp] at b
    have b : (l.getD k default).kind < (l.getD (k + 1) default).kind := by have b : ¬ (l.getD (k + 1) default).kind ≤ (l.getD k default).kind := of_decide_eq_false b; omega
    rw [decide_eq_true b, Bool.true_and] at hs2
    refine Sat.go (Eq.refl _) (NS.next ⟨k + 1, by omega, hs2⟩ (by show l.length - (k + 1) < l.length - k; omega) ?_)
    exact weak_hd [] rfl ⟨rfl, ren_int rfl (i64_k (k := k + 1) (n := l.length) a (by omega)), trivial⟩ trivial trivial (by kernel_rfl)
  have a : l.length ≤ k + 1 := by have a : decide (((k + 1 : Nat) : Int) < (l.length : Int)) = false := a; have := of_decide_eq_false a; omega
  rw [List.drop_eq_nil_of_le a] at hs2
  have hs2 : ordB none l = true := hs2
  refine Sat.go (Eq.refl _) (NS.leave rfl (Eq.refl _) ?_)
  exact Sat.go (Eq.refl _) (NS.ret rfl rfl (LeA.of (congrArg (A.int .i64) (by rw [hs2]; rfl))))
theorem rBlocks_ok (l : List Blk) : FnOK Tryz.prog 63 [slBlk l] (.int .i64 (chkBs l), none) := by
  refine fn_ok CN rfl (by kernel_rfl) Tryz.func63 rfl ?_
  refine Sat.go (Eq.refl _) (NS.ite (fun h0 => ?_) (fun h0 => ?_))
  · exact Sat.go (Eq.refl _) (NS.ret rfl rfl (LeA.of (congrArg (A.int .i64) (by unfold chkBs; rw [if_pos h0]))))
  have hl : l.length ≤ 8 := by have := of_decide_eq_false h0; omega
  have e0 : chkBs l = if fstE l != 0 then fstE l else if ordB none l then 0 else 9 := by unfold chkBs; rw [if_neg (by rw [h0]; simp)]
  rw [e0]
  refine Sat.go (Eq.refl _) ?_
  refine NS.loop (σ := { k : Nat // k ≤ l.length ∧ fstE l = fstE (l.drop k) }) (fun k => [(0, slBlk l), (3, .int .i64 k.1)]) (fun k => []) (fun k => l.length - k.1) ⟨0, Nat.zero_le _, rfl⟩ ?_ ?_
  · exact weak_hd [] rfl ⟨rfl, rfl, trivial⟩ trivial trivial (by kernel_rfl)
  rintro ⟨k, hk, hs⟩
  have hs : fstE l = fstE (l.drop k) := hs
  refine Sat.go (Eq.refl _) (NS.ite (fun a => ?_) (fun a => ?_))
  · have a : k < l.length := by simpa using a
    rw [drop_cons a, fstE] at hs
    refine Sat.go (Eq.refl _) (NS.need (by simp; omega) ?_)
    refine Sat.go (Eq.refl _) (NS.call (rK_ok (l.getD k default)) rfl ?_)
    refine Sat.go (Eq.refl _) (NS.ite (fun b => ?_) (fun b => ?_))
    · have b : (chkK (l.getD k default) != 0) = true := b
      rw [if_pos b] at hs
      exact Sat.go (Eq.refl _) (NS.leaveOut rfl (Eq.refl _) (NS.ret rfl rfl (LeA.of (congrArg (A.int .i64) (by rw [hs, if_pos b])))))
    have b : (chkK (l.getD k default) != 0) = false := b
    rw [if_neg (by rw [b]; simp)] at hs
    refine Sat.go (Eq.refl _) (NS.next ⟨k + 1, by omega, hs⟩ (by show l.length - (k + 1) < l.length - k; omega) ?_)
    exact weak_hd [] rfl ⟨rfl,ren_int rfl (i64_k (k := k) (n := l.length) a (by omega)), trivial⟩ trivial trivial (by kernel_rfl)
  have a : l.length ≤ k := by simpa using a
  rw [List.drop_eq_nil_of_le a] at hs
  have hs : fstE l = 0 := hs
  rw [if_neg (by rw [hs]; simp)]
  refine Sat.go (Eq.refl _) (NS.leave rfl (Eq.refl _) ?_)
  refine Sat.go (Eq.refl _) ?_
  refine NS.loop (σ := { k : Nat // (k + 1 ≤ l.length ∨ (k = 0 ∧ l.length = 0)) ∧ ordB none l = ordB (some (l.getD k default)) (l.drop (k + 1)) }) (fun k => [(0, slBlk l), (5, .int .i64 ((k.1 + 1 : Nat) : Int))]) (fun k => []) (fun k => l.length - k.1) ⟨0, by omega, by cases l <;> rfl⟩ ?_ ?_
  · exact weak_hd [] rfl ⟨rfl, rfl, trivial⟩ trivial trivial (by kernel_rfl)
  rintro ⟨k, hk2, hs2⟩
  have hs2 : ordB none l = ordB (some (l.getD k default)) (l.drop (k + 1)) := hs2
  have hk2 : k + 1 ≤ l.length ∨ (k = 0 ∧ l.length = 0) := hk2
  have hp : IntKind.i64.wrap (((k + 1 : Nat) : Int) - 1) = (k : Int) := i64_s (n := 9) (by omega) (by omega)
  refine Sat.go (Eq.refl _) (NS.ite (fun a => ?_) (fun a => ?_))
  · have a : k + 1 < l.length := by have a : decide (((k + 1 : Nat) : Int) < (l.length : Int)) = true := a; have := of_decide_eq_true a; omega
    rw [drop_cons a, ordB] at hs2
    refine Sat.go (Eq.refl _) (NS.chk (by kernel_rfl) ?_)
    refine Sat.go (Eq.refl _) (NS.need (by show decide (0 ≤ ((k + 1 : Nat) : Int) ∧ ((k + 1 : Nat) : Int) < (l.length : Int)) = true; exact decide_eq_true (by omega)) ?_)
    refine Sat.go (Eq.refl _) (NS.need (by rw [hp]; exact decide_eq_true (by omega)) ?_)
    refine Sat.go (Eq.refl _) (NS.ite (fun b => ?_) (fun b => ?_))
    · rw [hp] at b
      have b : (l.getD (k + 1) default).kind ≤ (l.getD k default).kind := of_decide_eq_true b
      rw [decide_eq_false (by omega), Bool.false_and] at hs2
      exact Sat.go (Eq.refl _) (NS.leaveOut rfl (Eq.refl _) (NS.ret rfl rfl (LeA.of (congrArg (A.int .i64) (by rw [hs2]; rfl)))))
    rw [hp] at b
    have b : (l.getD k default).kind < (l.getD (k + 1) default).kind := by have b : ¬ (l.getD (k + 1) default).kind ≤ (l.getD k default).kind := of_decide_eq_false b; omega
    rw [decide_eq_true b, Bool.true_and] at hs2
    refine Sat.go (Eq.refl _) (NS.next ⟨k + 1, by omega, hs2⟩ (by show l.length - (k + 1) < l.length - k; omega) ?_)
    exact weak_hd [] rfl ⟨rfl, ren_int rfl (i64_k (k := k + 1) (n := l.length) a (by omega)), trivial⟩ trivial trivial (by kernel_rfl)
  have a : l.length ≤ k + 1 := by have a : decide (((k + 1 : Nat) : Int) < (l.length : Int)) = false := a; have := of_decide_eq_false a; omega
  rw [List.drop_eq_nil_of_le a] at hs2
  have hs2 : ordB none l = true := hs2
  refine Sat.go (Eq.refl _) (NS.leave rfl (Eq.refl _) ?_)
  exact Sat.go (Eq.refl _) (NS.ret rfl rfl (LeA.of (congrArg (A.int .i64) (by rw [hs2]; rfl))))
theorem okE_tot {x : Eid} (h : okE x = true) : 0 ≤ x.tot ∧ x.tot ≤ 4096 ∧ 0 ≤ x.off ∧ x.off ≤ 4096 ∧ 0 ≤ x.cre ∧ x.cre ≤ 1099511627776 := by
  unfold okE at h; have := of_decide_eq_true h; omega
theorem checkPayload_ok (b : Bun) (h : okE b.id = true) : FnOK Tryz.prog 52 [.agg b.cells] (.int .i64 (chkP b), none) := by
  have h1 := okE_tot h
  have e : IntKind.i64.wrap (b.id.tot - b.id.off) = b.id.tot - b.id.off := wrap_i64 (by omega) (by omega)
  refine fn_ok CN rfl (by kernel_rfl) Tryz.func52 rfl ?_
  repeat' (first | (refine Sat.go (Eq.refl _) (NS.ite (fun h => ?_) (fun h => ?_))) | (refine Sat.go (Eq.refl _) (NS.chk (by kernel_rfl) ?_)) | (refine Sat.go (Eq.refl _) (NS.call (bWithin_ok b.pay.size 1 (IntKind.i64.wrap (b.id.tot - b.id.off))) rfl ?_)) | (exact Sat.go (Eq.refl _) (NS.ret rfl rfl (LeA.of (congrArg (A.int .i64) (by unfold chkP; simp only [e, inR, Bool.not_eq_true', Bool.not_eq_false', decide_eq_true_eq, decide_eq_false_iff_not] at *; (repeat' split) <;> omega))))))
theorem number_ok (n : Int) : FnOK Tryz.prog 81 [.int .i64 n] (.bool (inR n 0 1099511627776), none) := by
  refine fn_ok CN rfl (by kernel_rfl) Tryz.func81 rfl ?_
  refine Sat.go (Eq.refl _) (NS.ite (fun h => ?_) (fun h => ?_))
  · exact Sat.go (Eq.refl _) (NS.ret rfl rfl (LeA.of (congrArg A.bool (inR_t h))))
  · exact Sat.go (Eq.refl _) (NS.ret rfl rfl (LeA.of (congrArg A.bool (inR_f h))))
theorem rId_ok (x : Eid) : FnOK Tryz.prog 60 [.agg x.cells] (.bool (okE x), none) := by
  refine fn_ok CN rfl (by kernel_rfl) Tryz.func60 rfl ?_
  repeat' (first | (refine Sat.go (Eq.refl _) (NS.ite (fun h => ?_) (fun h => ?_))) | (refine Sat.go (Eq.refl _) (NS.chk (by kernel_rfl) ?_)) | (refine Sat.go (Eq.refl _) (NS.call (number_ok x.cre) rfl ?_)) | (refine Sat.go (Eq.refl _) (NS.call (number_ok x.seq) rfl ?_)) | (exact Sat.go (Eq.refl _) (NS.ret rfl rfl (LeA.of (congrArg A.bool (by rw [Bool.eq_iff_iff]; simp only [okE, inR, Bool.not_eq_true', Bool.not_eq_false', decide_eq_true_eq, decide_eq_false_iff_not, beq_iff_eq, beq_eq_false_iff_ne, Bool.false_eq_true] at *; constructor <;> (intro hh; first | exact hh.elim | omega)))))))
theorem rFlags_ok (b : Bun) (h : okE b.id = true) : FnOK Tryz.prog 62 [.agg b.cells] (.bool (okF b), none) := by
  have h1 := okE_tot h
  refine fn_ok CN rfl (by kernel_rfl) Tryz.func62 rfl ?_
  by_cases hF : 0 ≤ b.flags ∧ b.flags ≤ 127
  · have e0 : okF b = (!(bit b.flags 4 && bit b.flags 64) && !(decide (0 < b.id.tot) && bit b.flags 2)) := by unfold okF; rw [decide_eq_true hF, Bool.true_and]
    have et : decide (0 < b.id.tot) = !(b.id.tot == 0) := by rw [Bool.eq_iff_iff]; simp; omega
    rw [e0, et]
    clear e0 et
    repeat' (first | (refine Sat.go (Eq.refl _) (NS.no (by simp; omega) ?_)) | (refine Sat.go (Eq.refl _) (NS.no (by rw [decide_eq_false_iff_not]; omega) ?_)) | (refine Sat.go (Eq.refl _) (NS.call (has_ok hF.1 hF.2 (.inl rfl)) rfl ?_)) | (refine Sat.go (Eq.refl _) (NS.call (has_ok hF.1 hF.2 (.inr (.inl rfl))) rfl ?_)) | (refine Sat.go (Eq.refl _) (NS.call (has_ok hF.1 hF.2 (.inr (.inr rfl))) rfl ?_)) | (refine Sat.go (Eq.refl _) (NS.ite (fun h => ?_) (fun h => ?_))) | (exact Sat.go (Eq.refl _) (NS.ret rfl rfl (LeA.of (congrArg A.bool (by simp_all))))))
  · have e0 : okF b = false := by unfold okF; rw [decide_eq_false hF, Bool.false_and]
    rw [e0]
    refine Sat.go (Eq.refl _) (NS.ite (fun h2 => ?_) (fun h2 => ?_))
    · exact Sat.go (Eq.refl _) (NS.ret rfl rfl (LeA.of (congrArg A.bool (rfl))))
    refine Sat.go (Eq.refl _) (NS.yes (by rw [decide_eq_false_iff_not] at h2; rw [decide_eq_true_eq]; omega) ?_)
    exact Sat.go (Eq.refl _) (NS.ret rfl rfl (LeA.of (congrArg A.bool (rfl))))
theorem checkB_ok (b : Bun) : FnOK Tryz.prog 27 [.agg b.cells] (.int .i64 (chkB b), none) := by
  refine fn_ok CN rfl (by kernel_rfl) Tryz.func27 rfl ?_
  refine Sat.go (Eq.refl _) (NS.call (checkId_ok b.id) rfl ?_)
  refine Sat.go (Eq.refl _) (NS.ite (fun h1 => ?_) (fun h1 => ?_))
  · exact Sat.go (Eq.refl _) (NS.ret rfl rfl (LeA.of (congrArg (A.int .i64) (by unfold chkB; cases h : okE b.id <;> simp_all))))
  have h1 : okE b.id = true := by cases h : okE b.id <;> simp_all
  have hE := okE_tot h1
  have e1 : (if okE b.id = true then (0 : Int) else 2) = 0 := by rw [if_pos h1]
  have ew : IntKind.i64.wrap (1099511627776 - b.id.cre) = 1099511627776 - b.id.cre := wrap_i64 (by omega) (by omega)
  unfold chkB; rw [if_pos h1]
  refine Sat.go (Eq.refl _) (NS.call (dCheck_ok b.dest) rfl ?_)
  refine Sat.go (Eq.refl _) (NS.ite (fun h2 => ?_) (fun h2 => ?_))
  · have h2 : (chkDst b.dest != 0) = true := h2
    exact Sat.go (Eq.refl _) (NS.ret rfl rfl (LeA.of (congrArg (A.int .i64) (by rw [if_pos h2]))))
  have h2 : (chkDst b.dest != 0) = false := h2
  rw [if_neg (by rw [h2]; simp)]
  by_cases h3 : (decide (b.life < 1) || decide (b.life > 1099511627776 - b.id.cre)) = true
  · rw [if_pos h3]
    rw [← ew] at h3
    repeat' (first | (refine Sat.go (Eq.refl _) (NS.ite (fun h => ?_) (fun h => ?_))) | (exact Sat.go (Eq.refl _) (NS.ret rfl rfl (LeA.of (congrArg (A.int .i64) (rfl))))) | (simp_all))
  rw [if_neg h3]
  rw [← ew] at h3
  simp only [Bool.or_eq_true, not_or] at h3
  refine Sat.go (Eq.refl _) (NS.no (by simpa using h3.1) ?_)
  refine Sat.go (Eq.refl _) (NS.no (by simpa using h3.2) ?_)
  refine Sat.go (Eq.refl _) (NS.call (bWithin_ok b.prio 0 2) rfl ?_)
  by_cases h4 : (decide (b.prio < 0) || decide (b.prio > 2)) = true
  · rw [if_pos h4]
    refine Sat.go (Eq.refl _) (NS.yes (by simp only [inR, Bool.not_eq_true', decide_eq_false_iff_not]; simp at h4; omega) ?_)
    exact Sat.go (Eq.refl _) (NS.ret rfl rfl (LeA.of (congrArg (A.int .i64) (rfl))))
  rw [if_neg h4]
  refine Sat.go (Eq.refl _) (NS.no (by simp only [inR, Bool.not_eq_false', decide_eq_true_eq]; simp at h4; omega) ?_)
  refine Sat.go (Eq.refl _) (NS.call (checkFlags_ok b) rfl ?_)
  refine Sat.go (Eq.refl _) (NS.ite (fun h5 => ?_) (fun h5 => ?_))
  · exact Sat.go (Eq.refl _) (NS.ret rfl rfl (LeA.of (congrArg (A.int .i64) (by cases h : okF b <;> simp_all))))
  have h5 : okF b = true := by cases h : okF b <;> simp_all
  rw [if_pos h5]
  refine Sat.go (Eq.refl _) (NS.call (checkBlocks_ok b.l) rfl ?_)
  refine Sat.go (Eq.refl _) (NS.ite (fun h6 => ?_) (fun h6 => ?_))
  · have h6 : (chkBs b.l != 0) = true := h6
    exact Sat.go (Eq.refl _) (NS.ret rfl rfl (LeA.of (congrArg (A.int .i64) (by rw [if_pos h6]))))
  have h6 : (chkBs b.l != 0) = false := h6
  rw [if_neg (by rw [h6]; simp)]
  refine Sat.go (Eq.refl _) (NS.call (checkPayload_ok b h1) rfl ?_)
  exact Sat.go (Eq.refl _) (NS.ret rfl rfl (LeA.of (congrArg (A.int .i64) (rfl))))
theorem rCheckB_ok (b : Bun) : FnOK Tryz.prog 40 [.agg b.cells] (.int .i64 (chkB b), none) := by
  refine fn_ok CN rfl (by kernel_rfl) Tryz.func40 rfl ?_
  refine Sat.go (Eq.refl _) (NS.call (rId_ok b.id) rfl ?_)
  refine Sat.go (Eq.refl _) (NS.ite (fun h1 => ?_) (fun h1 => ?_))
  · exact Sat.go (Eq.refl _) (NS.ret rfl rfl (LeA.of (congrArg (A.int .i64) (by unfold chkB; cases h : okE b.id <;> simp_all))))
  have h1 : okE b.id = true := by cases h : okE b.id <;> simp_all
  have hE := okE_tot h1
  have ew : IntKind.i64.wrap (1099511627776 - b.id.cre) = 1099511627776 - b.id.cre := wrap_i64 (by omega) (by omega)
  unfold chkB; rw [if_pos h1]
  refine Sat.go (Eq.refl _) (NS.call (rDst_ok b.dest) rfl ?_)
  refine Sat.go (Eq.refl _) (NS.ite (fun h2 => ?_) (fun h2 => ?_))
  · have h2 : (chkDst b.dest != 0) = true := h2
    exact Sat.go (Eq.refl _) (NS.ret rfl rfl (LeA.of (congrArg (A.int .i64) (by rw [if_pos h2]))))
  have h2 : (chkDst b.dest != 0) = false := h2
  rw [if_neg (by rw [h2]; simp)]
  by_cases h3 : (decide (b.life < 1) || decide (b.life > 1099511627776 - b.id.cre)) = true
  · rw [if_pos h3]
    rw [← ew] at h3
    repeat' (first | (refine Sat.go (Eq.refl _) (NS.ite (fun h => ?_) (fun h => ?_))) | (exact Sat.go (Eq.refl _) (NS.ret rfl rfl (LeA.of (congrArg (A.int .i64) (rfl))))) | (simp_all))
  rw [if_neg h3]
  rw [← ew] at h3
  simp only [Bool.or_eq_true, not_or] at h3
  refine Sat.go (Eq.refl _) (NS.no (by simpa using h3.1) ?_)
  refine Sat.go (Eq.refl _) (NS.no (by simpa using h3.2) ?_)
  by_cases h4 : (decide (b.prio < 0) || decide (b.prio > 2)) = true
  · rw [if_pos h4]
    repeat' (first | (refine Sat.go (Eq.refl _) (NS.ite (fun h => ?_) (fun h => ?_))) | (exact Sat.go (Eq.refl _) (NS.ret rfl rfl (LeA.of (congrArg (A.int .i64) (rfl))))) | (simp_all))
  rw [if_neg h4]
  simp only [Bool.or_eq_true, not_or] at h4
  refine Sat.go (Eq.refl _) (NS.no (by simpa using h4.1) ?_)
  refine Sat.go (Eq.refl _) (NS.no (by simpa using h4.2) ?_)
  refine Sat.go (Eq.refl _) (NS.call (rFlags_ok b h1) rfl ?_)
  refine Sat.go (Eq.refl _) (NS.ite (fun h5 => ?_) (fun h5 => ?_))
  · exact Sat.go (Eq.refl _) (NS.ret rfl rfl (LeA.of (congrArg (A.int .i64) (by cases h : okF b <;> simp_all))))
  have h5 : okF b = true := by cases h : okF b <;> simp_all
  rw [if_pos h5]
  refine Sat.go (Eq.refl _) (NS.call (rBlocks_ok b.l) rfl ?_)
  refine Sat.go (Eq.refl _) (NS.ite (fun h6 => ?_) (fun h6 => ?_))
  · have h6 : (chkBs b.l != 0) = true := h6
    exact Sat.go (Eq.refl _) (NS.ret rfl rfl (LeA.of (congrArg (A.int .i64) (by rw [if_pos h6]))))
  have h6 : (chkBs b.l != 0) = false := h6
  rw [if_neg (by rw [h6]; simp)]
  have e : IntKind.i64.wrap (b.id.tot - b.id.off) = b.id.tot - b.id.off := wrap_i64 (by omega) (by omega)
  clear h3 h4 h5 h6
  repeat' (first | (refine Sat.go (Eq.refl _) (NS.ite (fun h => ?_) (fun h => ?_))) | (refine Sat.go (Eq.refl _) (NS.chk (by kernel_rfl) ?_)) | (exact Sat.go (Eq.refl _) (NS.ret rfl rfl (LeA.of (congrArg (A.int .i64) (by unfold chkP; simp only [e, decide_eq_true_eq, decide_eq_false_iff_not, beq_iff_eq, beq_eq_false_iff_ne] at *; (repeat' split) <;> omega))))))
end Go.Proofs.YtdhfgfkfejpfdaaGreat
