/- The reference's Verify and Protect; SecurityProtect. -/
import Derived.Test.YtdhfgfkfejpfdaaGreatKRC
import Derived.Test.YtdhfgfkfejpfdaaGreatKZC
import Derived.Test.YtdhfgfkfejpfdaaGreatKP
set_option linter.unusedSimpArgs false
set_option linter.unusedSectionVars false
set_option linter.unusedVariables false
namespace Go.Mb
open Go.Sy
set_option linter.unusedVariables false
theorem tagS3 (s : ByteArray) (k : Nat) (h : 9 * k + 9 ≤ s.size) : s.extract ((9 * k + 1 : Nat) : Int).toNat ((9 * k + 9 : Nat) : Int).toNat = bs (((ls s).drop (9 * k + 1)).take 8) := by
  apply ls_inj
  rw [ls_extract, ls_bs (fun x hx => ls_lt s x (List.mem_of_mem_drop (List.mem_of_mem_take hx)))]
  show ((ls s).take (9 * k + 9)).drop (9 * k + 1) = _
  rw [List.drop_take]
  congr 1; omega
/-- The place of a new node. -/
def pos (m : Nat) (S : List Sg) : Nat → Prop := fun k => k ≤ S.length ∧ ∀ q, q < k → (S.getD q default).1 < m
theorem insS_at {x : Sg} : ∀ {S : List Sg} {k : Nat}, S.Pairwise (fun x y => x.1 < y.1) → pos x.1 S k → (k < S.length → ¬ (S.getD k default).1 < x.1) → (∀ p ∈ S, p.1 ≠ x.1) → insS x S = S.take k ++ x :: S.drop k
  | [], k, _, hk, _, _ => by simp [insS]
  | y :: S, 0, _, hk, h0, hne => by
    have h1 := h0 (by simp)
    have h2 := hne y (by simp)
    have h1 : ¬ y.1 < x.1 := h1
    rw [insS, if_pos (by omega)]; rfl
  | y :: S, k + 1, hp, hk, h0, hne => by
    have h1 : y.1 < x.1 := hk.2 0 (by omega)
    rw [insS, if_neg (by omega), insS_at (List.pairwise_cons.1 hp).2 ⟨by have := hk.1; simp at this; omega, fun q hq => hk.2 (q + 1) (by omega)⟩ (fun h => h0 (by simp; omega)) (fun p hp => hne p (by simp [hp]))]
    rfl
theorem ins_bytes {S : List Sg} (h : GoodS S) {x : Sg} {k : Nat} (hk : pos x.1 S k) (h0 : k < S.length → ¬ (S.getD k default).1 < x.1) (hne : ∀ p ∈ S, p.1 ≠ x.1) {s : ByteArray} (e : enS S = ls s) (t : ByteArray) (ht : t = bs x.2) :
    s.extract (0 : Int).toNat ((9 * k : Nat) : Int).toNat ++ bs [x.1] ++ t ++ s.extract ((9 * k : Nat) : Int).toNat ((s.size : Nat) : Int).toNat = bs (enS (insS x S)) := by
  have e1 := enS_take h.tags k hk.1
  have hl : ∀ m, ∀ x ∈ enS (S.take m), x < 256 := fun m x hx => h.lt x (by
    have : enS S = enS (S.take m) ++ enS (S.drop m) := by rw [← enS_append, List.take_append_drop]
    rw [this]; exact List.mem_append_left _ hx)
  have hd : ∀ m, ∀ x ∈ enS (S.drop m), x < 256 := fun m x hx => h.lt x (by
    have : enS S = enS (S.take m) ++ enS (S.drop m) := by rw [← enS_append, List.take_append_drop]
    rw [this]; exact List.mem_append_right _ hx)
  have q1 : s.extract (0 : Int).toNat ((9 * k : Nat) : Int).toNat = bs (enS (S.take k)) := by
    apply ls_inj
    rw [ls_extract, ls_bs (hl k), ← e1.1, e]
    simp
    omega
  have q2 : s.extract ((9 * k : Nat) : Int).toNat ((s.size : Nat) : Int).toNat = bs (enS (S.drop k)) := by
    apply ls_inj
    rw [ls_extract, ls_bs (hd k), ← e1.2, e, take_all (by rw [ls_len]; omega)]
    congr 1
  rw [q1, q2, ht, insS_at h.1 hk h0 hne, enS_append, enS_cons, ← bs_append, ← bs_append, ← bs_append]
  simp
end Go.Mb
namespace Go.Proofs.YtdhfgfkfejpfdaaGreat
open Go.Sy Go.Mb
set_option maxRecDepth 100000
set_option linter.unusedVariables false
set_option maxHeartbeats 4000000

theorem rVerify_ok (b : Bun) (n : Int) (key : ByteArray) : FnOK Tryz.prog 10 [.agg b.cells, .int .i64 n, .str key] (.int .i64 (verM b n key), none) := by
  have c15 := rCheck15_ok b n
  unfold verM chkAll
  by_cases h1 : (chkB b != 0) = true
  · rw [if_pos h1, if_pos h1]
    rw [show chk15 b n = chkB b from if_pos h1] at c15
    refine fn_ok CN rfl (by kernel_rfl) Tryz.func10 rfl ?_
    refine Sat.go (Eq.refl _) (NS.call (c15) rfl ?_)
    refine Sat.go (Eq.refl _) (NS.yes (h1) ?_)
    exact Sat.go (Eq.refl _) (NS.ret rfl rfl (LeA.refl _))
  rw [if_neg h1]
  by_cases h2 : (decide (n < 0) || decide (n ≥ 16)) = true
  · rw [if_pos h2]
    rw [show chk15 b n = 2 from (if_neg h1).trans (if_pos h2)] at c15
    refine fn_ok CN rfl (by kernel_rfl) Tryz.func10 rfl ?_
    refine Sat.go (Eq.refl _) (NS.call (c15) rfl ?_)
    refine Sat.go (Eq.refl _) (NS.yes (rfl) ?_)
    exact Sat.go (Eq.refl _) (NS.ret rfl rfl (LeA.refl _))
  rw [if_neg h2]
  rw [show chk15 b n = 0 from (if_neg h1).trans (if_neg h2)] at c15
  by_cases hk : ((key.size : Int) != 16) = true
  · rw [if_pos hk]
    refine fn_ok CN rfl (by kernel_rfl) Tryz.func10 rfl ?_
    refine Sat.go (Eq.refl _) (NS.call (c15) rfl ?_)
    refine Sat.go (Eq.refl _) (NS.no (rfl) ?_)
    refine Sat.go (Eq.refl _) (NS.yes (hk) ?_)
    exact Sat.go (Eq.refl _) (NS.ret rfl rfl (LeA.refl _))
  rw [if_neg hk]
  have hks : key.size = 16 := by simp at hk; omega
  have hk : ((key.size : Int) != 16) = false := by simpa using hk
  have h1 : chkB b = 0 := by simpa using h1
  have hg := goodL_of h1
  have ci := rIntact_ok b hg
  by_cases h3 : dmgB b = true
  · rw [if_pos h3]
    rw [if_pos h3] at ci
    refine fn_ok CN rfl (by kernel_rfl) Tryz.func10 rfl ?_
    refine Sat.go (Eq.refl _) (NS.call (c15) rfl ?_)
    refine Sat.go (Eq.refl _) (NS.no (rfl) ?_)
    refine Sat.go (Eq.refl _) (NS.no (hk) ?_)
    refine Sat.go (Eq.refl _) (NS.call (ci) rfl ?_)
    refine Sat.go (Eq.refl _) (NS.yes (rfl) ?_)
    exact Sat.go (Eq.refl _) (NS.ret rfl rfl (LeA.refl _))
  rw [if_neg h3]
  rw [if_neg h3] at ci
  rw [if_neg (by simp)]
  have h3 : dmgB b = false := by simpa using h3
  have hok : Okb b := ⟨h1, h3⟩
  have hd := fndB_data b.l (good_data hg) 4
  obtain ⟨h9, hsz, hen⟩ := auth9 hok
  have hgs := hok.good
  have hn : okN n := by unfold okN; simp only [Bool.or_eq_true, decide_eq_true_eq, not_or] at h2; omega
  have ct := rTag_ok b h1 n hn key hks
  have cp := rPlace_ok (authD b) hd h9 n
  rw [show sgs (ls (authD b)) = sgB b from rfl] at cp
  by_cases h4 : (fndS (sgB b) n).2 = false
  · rw [if_pos (by rw [h4]; rfl)]
    rw [show plc (sgB b) n = -1 from if_pos (fndS_idx.1 h4)] at cp
    refine fn_ok CN rfl (by kernel_rfl) Tryz.func10 rfl ?_
    refine Sat.go (Eq.refl _) (NS.call (c15) rfl ?_)
    refine Sat.go (Eq.refl _) (NS.no (rfl) ?_)
    refine Sat.go (Eq.refl _) (NS.no (hk) ?_)
    refine Sat.go (Eq.refl _) (NS.call (ci) rfl ?_)
    refine Sat.go (Eq.refl _) (NS.no (rfl) ?_)
    refine Sat.go (Eq.refl _) (NS.call (rSignatures_ok b hg) rfl ?_)
    refine Sat.go (Eq.refl _) (NS.call (cp) rfl ?_)
    refine Sat.go (Eq.refl _) (NS.yes (rfl) ?_)
    exact Sat.go (Eq.refl _) (NS.ret rfl rfl (LeA.refl _))
  have h4 : (fndS (sgB b) n).2 = true := by simpa using h4
  rw [if_neg (by rw [h4]; simp)]
  have hix : ¬ idx (fun p : Sg => (p.1 : Int) == n) (sgB b) < 0 := fun h => by rw [fndS_idx.2 h] at h4; cases h4
  have hpl : plc (sgB b) n = 9 * idx (fun p : Sg => (p.1 : Int) == n) (sgB b) := if_neg hix
  rcases idx_cases (fun p : Sg => (p.1 : Int) == n) (sgB b) with ⟨e, _⟩ | ⟨k, hkl, e, hpk, _⟩
  · exact absurd (by rw [e]; decide) hix
  have hkn : (((sgB b).getD k default).1 : Int) = n := by simpa using hpk
  rw [hpl, e, show (9 : Int) * (k : Int) = ((9 * k : Nat) : Int) by omega] at cp
  have hln := hgs.len
  have hfd : (fndS (sgB b) n).1 = ((ls (authD b)).drop (9 * k + 1)).take 8 := by
    have hmem : (sgB b).getD k default ∈ sgB b := by rw [getD_lt hkl]; exact List.getElem_mem hkl
    have := fndS_mem hgs hmem
    rw [hkn] at this
    rw [this]
    show ((sgB b).getD k default).2 = _
    rw [show sgB b = sgs (ls (authD b)) from rfl, sgs_get (by rw [ls_len]; omega)]
  rw [hfd]
  refine fn_ok CN rfl (by kernel_rfl) Tryz.func10 rfl ?_
  refine Sat.go (Eq.refl _) (NS.call (c15) rfl ?_)
  refine Sat.go (Eq.refl _) (NS.no (rfl) ?_)
  refine Sat.go (Eq.refl _) (NS.no (hk) ?_)
  refine Sat.go (Eq.refl _) (NS.call (ci) rfl ?_)
  refine Sat.go (Eq.refl _) (NS.no (rfl) ?_)
  refine Sat.go (Eq.refl _) (NS.call (rSignatures_ok b hg) rfl ?_)
  obtain ⟨s, hs⟩ : ∃ s, authD b = s := ⟨_, rfl⟩
  rw [hs] at cp hsz ⊢
  refine Sat.go (Eq.refl _) (NS.call (cp) rfl ?_)
  refine Sat.go (Eq.refl _) (NS.no (decide_eq_false (by omega)) ?_)
  have hw1 : IntKind.i64.wrap (((9 * k : Nat) : Int) + 1) = ((9 * k + 1 : Nat) : Int) := by rw [wrap_i64 (by omega) (by omega)]; omega
  have hw9 : IntKind.i64.wrap (((9 * k : Nat) : Int) + 9) = ((9 * k + 9 : Nat) : Int) := by rw [wrap_i64 (by omega) (by omega)]; omega
  have hx : s.extract (IntKind.i64.wrap (((9 * k : Nat) : Int) + 1)).toNat (IntKind.i64.wrap (((9 * k : Nat) : Int) + 9)).toNat = bs (((ls s).drop (9 * k + 1)).take 8) := by rw [hw1, hw9]; exact tagS3 s k (by omega)
  refine Sat.go (Eq.refl _) (NS.chk (by kernel_rfl) ?_)
  refine Sat.go (Eq.refl _) (NS.need (by show decide ((0 : Int) ≤ IntKind.i64.wrap (((9 * k : Nat) : Int) + 1) ∧ IntKind.i64.wrap (((9 * k : Nat) : Int) + 1) ≤ IntKind.i64.wrap (((9 * k : Nat) : Int) + 9) ∧ IntKind.i64.wrap (((9 * k : Nat) : Int) + 9) ≤ (s.size : Int)) = true; rw [hw1, hw9]; exact decide_eq_true (by omega)) ?_)
  refine Sat.go (Eq.refl _) (NS.call (ct) rfl ?_)
  refine Sat.go (Eq.refl _) (NS.ite (fun z => ?_) (fun z => ?_))
  · have z : ((bs (((ls s).drop (9 * k + 1)).take 8)).toList != (bs (sgnM b n.toNat key)).toList) = true := by rw [← hx]; exact z
    exact Sat.go (Eq.refl _) (NS.ret rfl rfl (LeA.of (congrArg (A.int .i64) (by rw [if_pos z]))))
  · have z : ((bs (((ls s).drop (9 * k + 1)).take 8)).toList != (bs (sgnM b n.toNat key)).toList) = false := by rw [← hx]; exact z
    exact Sat.go (Eq.refl _) (NS.ret rfl rfl (LeA.of (congrArg (A.int .i64) (by rw [if_neg (by rw [z]; simp)]))))
end Go.Proofs.YtdhfgfkfejpfdaaGreat
