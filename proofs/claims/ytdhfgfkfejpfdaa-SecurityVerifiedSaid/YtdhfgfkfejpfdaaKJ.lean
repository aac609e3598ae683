
/- Verify and Signers. -/
import Derived.Test.YtdhfgfkfejpfdaaKI
set_option linter.unusedSimpArgs false
set_option linter.unusedSectionVars false
set_option linter.unusedVariables false
namespace Go.Mb
open Go.Sy
theorem chk0 {b : Bun} (h : ¬ (chkB b != 0) = true) : chkB b = 0 := by simpa using h
end Go.Mb
namespace Go.Proofs.Ytdhfgfkfejpfdaa
open Go.Sy Go.Mb
set_option maxRecDepth 100000
set_option linter.unusedVariables false
set_option maxHeartbeats 4000000

theorem checkAll_ok (b : Bun) (n : Int) (key : ByteArray) : FnOK Try.prog 35 [.agg b.cells, .int .i64 n, .str key] (.int .i64 (chkAll b n key), none) := by
  unfold chkAll
  refine fn_ok CN rfl (by kernel_rfl) Try.func35 rfl ?_
  refine Sat.go (Eq.refl _) (NS.call (checkB_ok b) rfl ?_)
  refine Sat.go (Eq.refl _) (NS.ite (fun h1 => ?_) (fun h1 => ?_))
  · exact Sat.go (Eq.refl _) (NS.ret rfl rfl (LeA.of (congrArg (A.int .i64) (by rw [if_pos h1]))))
  rw [if_neg (by rw [show (chkB b != 0) = false from h1]; simp)]
  have h1 : chkB b = 0 := by simpa using h1
  by_cases h2 : (decide (n < 0) || decide (n ≥ 16)) = true
  · rw [if_pos h2]
    refine Sat.go (Eq.refl _) (NS.ite (fun a => ?_) (fun a => ?_))
    · exact Sat.go (Eq.refl _) (NS.ret rfl rfl (LeA.refl _))
    refine Sat.go (Eq.refl _) (NS.yes (by rw [show decide (n < 0) = false from a, Bool.false_or] at h2; exact h2) ?_)
    exact Sat.go (Eq.refl _) (NS.ret rfl rfl (LeA.refl _))
  rw [if_neg h2]
  simp only [Bool.or_eq_true, not_or] at h2
  refine Sat.go (Eq.refl _) (NS.no (by simpa using h2.1) ?_)
  refine Sat.go (Eq.refl _) (NS.no (by simpa using h2.2) ?_)
  by_cases h3 : ((key.size : Int) != 16) = true
  · rw [if_pos h3]
    refine Sat.go (Eq.refl _) (NS.call (sumE_ok key h3) rfl ?_)
    refine Sat.go (Eq.refl _) (NS.yes (rfl) ?_)
    exact Sat.go (Eq.refl _) (NS.ret rfl rfl (LeA.refl _))
  rw [if_neg h3]
  refine Sat.go (Eq.refl _) (NS.call (sumK_ok key .empty (by simp at h3; omega) (by decide)) rfl ?_)
  refine Sat.go (Eq.refl _) (NS.no (rfl) ?_)
  refine Sat.go (Eq.refl _) (NS.call (scheck_ok b (goodL_of h1)) rfl ?_)
  exact Sat.go (Eq.refl _) (NS.ret rfl rfl (LeA.refl _))
theorem verify_ok (b : Bun) (n : Int) (key : ByteArray) : FnOK Try.prog 13 [.agg b.cells, .int .i64 n, .str key] (.int .i64 (verM b n key), none) := by
  unfold verM
  refine fn_ok CN rfl (by kernel_rfl) Try.func13 rfl ?_
  refine Sat.go (Eq.refl _) (NS.call (checkAll_ok b n key) rfl ?_)
  refine Sat.go (Eq.refl _) (NS.ite (fun h1 => ?_) (fun h1 => ?_))
  · exact Sat.go (Eq.refl _) (NS.ret rfl rfl (LeA.of (congrArg (A.int .i64) (by rw [if_pos h1]))))
  rw [if_neg (by rw [show (chkAll b n key != 0) = false from h1]; simp)]
  have hp : PA b n key := chkAll_iff.1 (by simpa using h1)
  refine Sat.go (Eq.refl _) (NS.call (sfind_ok b (goodL_of hp.ok.chk) n) rfl ?_)
  refine Sat.go (Eq.refl _) (NS.ite (fun h2 => ?_) (fun h2 => ?_))
  · exact Sat.go (Eq.refl _) (NS.ret rfl rfl (LeA.of (congrArg (A.int .i64) (by rw [if_pos h2]))))
  rw [if_neg (by rw [show (!(fndS (sgB b) n).2) = false from h2]; simp)]
  refine Sat.go (Eq.refl _) (NS.call (sign_ok b hp.ok.chk n hp.rng key hp.key) rfl ?_)
  refine Sat.go (Eq.refl _) (NS.no (rfl) ?_)
  refine Sat.go (Eq.refl _) (NS.ite (fun h3 => ?_) (fun h3 => ?_))
  · exact Sat.go (Eq.refl _) (NS.ret rfl rfl (LeA.of (congrArg (A.int .i64) (by rw [if_pos (show (_ != _) = true from h3)]))))
  exact Sat.go (Eq.refl _) (NS.ret rfl rfl (LeA.of (congrArg (A.int .i64) (by rw [if_neg (by rw [show (_ != _) = false from h3]; simp)]))))
def sgI (x : Sg) : Int := (x.1 : Int)
theorem signers_ok (b : Bun) : FnOK Try.prog 23 [.agg b.cells] (.tup [slN (signersM b).1, .int .i64 (signersM b).2], none) := by
  unfold signersM
  refine fn_ok CS rfl (by kernel_rfl) Try.func23 rfl ?_
  refine Sat.go (Eq.refl _) (NS.call (checkB_ok b) rfl ?_)
  refine Sat.go (Eq.refl _) (NS.ite (fun h1 => ?_) (fun h1 => ?_))
  · rw [if_pos h1]
    exact Sat.go (Eq.refl _) (NS.ret rfl rfl (LeA.tup2 (LeA.nil' rfl) (LeA.refl _)))
  rw [if_neg (by rw [show (chkB b != 0) = false from h1]; simp)]
  have h1 : chkB b = 0 := by simpa using h1
  have hg := goodL_of h1
  refine Sat.go (Eq.refl _) (NS.call (scheck_ok b hg) rfl ?_)
  refine Sat.go (Eq.refl _) (NS.ite (fun h2 => ?_) (fun h2 => ?_))
  · have h2 : dmgB b = true := by cases h : dmgB b <;> simp_all
    rw [h2]
    exact Sat.go (Eq.refl _) (NS.ret rfl rfl (LeA.tup2 (LeA.nil' rfl) (LeA.refl _)))
  have h2 : dmgB b = false := by cases h : dmgB b <;> simp_all
  rw [h2]
  have hd := fndB_data b.l (good_data hg) 4
  refine Sat.go (Eq.refl _) (NS.call (find_ok b.l (by have := hg.1; omega) 4) rfl ?_)
  have hsg : sgB b = sgs (ls (fndB b.l 4).1.data) := rfl
  rw [hsg]
  obtain ⟨s, hs⟩ : ∃ s, (fndB b.l 4).1.data = s := ⟨_, rfl⟩
  rw [hs] at hd ⊢
  have hL := ls_len s
  have hS := sgs_len (ls s)
  refine Sat.go (Eq.refl _) ?_
  refine NS.loop (σ := { k : Nat // k ≤ s.size / 9 }) (fun k => [(0, .yld 38), (1, .ptr 37 0)]) (fun k => [(8, .box [.own 39]), (37, .box [.str (bs ((ls s).drop (9 * k.1)))]), (39, .row 3 1 (((sgs (ls s)).take k.1).map sgI).length (rowL nC (((sgs (ls s)).take k.1).map sgI)))]) (fun k => s.size / 9 - k.1) ⟨0, Nat.zero_le _⟩ ?_ ?_
  · refine (weak_promoteB 8 0 39 3 1 (rowL nC []) rfl rfl rfl).trans ?_
    exact weak_hd [] rfl ⟨rfl, rfl, trivial⟩ ⟨⟨_, rfl, _, _, rfl, rfl, rfl⟩, ⟨_, rfl, _, _, rfl, ren_str rfl (by rw [hs]; exact (bs_ls s).symm), rfl⟩, ren_row rfl rfl fun _ _ _ _ => rfl, trivial⟩ (by repeat' (first | exact trivial | refine ⟨.inr rfl, ?_⟩ | refine ⟨.inl rfl, ?_⟩)) (by kernel_rfl)
  rintro ⟨k, hk⟩
  have hk : k ≤ s.size / 9 := hk
  have hsz : (bs ((ls s).drop (9 * k))).size = s.size - 9 * k := by rw [bs_len, List.length_drop, hL]
  refine Sat.go (Eq.refl _) (NS.ite (fun b => ?_) (fun b => ?_))
  · have b : 9 ≤ s.size - 9 * k := by have b : decide (((bs ((ls s).drop (9 * k))).size : Int) ≥ 9) = true := b; have := of_decide_eq_true b; omega
    refine Sat.go (Eq.refl _) (NS.chk (by kernel_rfl) ?_)
    refine Sat.go (Eq.refl _) (NS.need (by show decide ((0 : Int) ≤ 0 ∧ 0 < ((bs ((ls s).drop (9 * k))).size : Int)) = true; exact decide_eq_true (by omega)) ?_)
    refine Sat.go (Eq.refl _) (NS.need (by show decide ((0 : Int) ≤ 1 ∧ (1 : Int) ≤ 9 ∧ 9 ≤ ((bs ((ls s).drop (9 * k))).size : Int)) = true; exact decide_eq_true (by omega)) ?_)
    have hlt : k < (sgs (ls s)).length := by omega
    have hln : (((sgs (ls s)).take k).map sgI).length = k := by rw [List.length_map, List.length_take]; omega
    have hg := nodeG s k
    refine Sat.go (Eq.refl _) (NS.need (decide_eq_true (by simp only [maxRow]; show ((((sgs (ls s)).take k).map sgI).length + 1) * _ ≤ _; rw [hln]; omega)) ?_)
    refine Sat.go (Eq.refl _) (NS.need (by show decide ((0 : Int) ≤ 9 ∧ 9 ≤ ((bs ((ls s).drop (9 * k))).size : Int) ∧ ((bs ((ls s).drop (9 * k))).size : Int) ≤ ((bs ((ls s).drop (9 * k))).size : Int)) = true; exact decide_eq_true (by omega)) ?_)
    have e : ((sgs (ls s)).take (k + 1)).map sgI = ((sgs (ls s)).take k).map sgI ++ [(((ls s).getD (9 * k) 0 : Nat) : Int)] := by
      rw [take_snoc hlt, sgs_get (by omega), List.map_append]; rfl
    refine Sat.go (Eq.refl _) (NS.next ⟨k + 1, by omega⟩ (by show s.size / 9 - (k + 1) < s.size / 9 - k; omega) ?_)
    refine weak_hd [(39, 90)] rfl ⟨rfl, rfl, trivial⟩ ⟨⟨_, rfl, _, _, rfl, rfl, rfl⟩, ⟨_, rfl, _, _, rfl, ren_str rfl (dropS s k), rfl⟩, ?_, trivial⟩ (by repeat' (first | exact trivial | refine ⟨.inr rfl, ?_⟩ | refine ⟨.inl rfl, ?_⟩)) (by kernel_rfl)
    simp only [e]
    exact ren_row rfl (by rw [List.length_append]; rfl) (fun i hi j hj => row_snoc (cells := nC) (l := ((sgs (ls s)).take k).map sgI) (x := (((ls s).getD (9 * k) 0 : Nat) : Int)) (congrArg (fun y => [A.int .i64 y]) hg) i (by rw [List.length_append] at hi; exact hi) j hj)
  have b : k = s.size / 9 := by have b : decide (((bs ((ls s).drop (9 * k))).size : Int) ≥ 9) = false := b; have := of_decide_eq_false b; omega
  have e : (sgs (ls s)).take k = sgs (ls s) := take_all (by omega)
  refine Sat.go (Eq.refl _) (NS.leave rfl (Eq.refl _) ?_)
  exact Sat.go (Eq.refl _) (NS.ret rfl rfl (LeA.tup2 (LeA.sl (by show (((sgs (ls s)).take k).map sgI).length = _; rw [e]; rfl) (fun i hi j hj => by show rowL nC (((sgs (ls s)).take k).map sgI) i j = _; rw [e]; rfl)) (LeA.refl _)))
end Go.Proofs.Ytdhfgfkfejpfdaa
