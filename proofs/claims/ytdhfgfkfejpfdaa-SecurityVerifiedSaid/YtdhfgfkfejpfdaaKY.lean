/- SecurityFree. -/
import Derived.Test.YtdhfgfkfejpfdaaKQ
set_option linter.unusedSimpArgs false
set_option linter.unusedSectionVars false
set_option linter.unusedVariables false
namespace Go.Mb
open Go.Sy
set_option linter.unusedVariables false
theorem same_of {b : Bun} {l : List Blk} (h : chkB b = 0) (hl : GoodL l) (hf : fndB l 4 = fndB b.l 4) (hr : rem4 l = rem4 b.l) :
    signersM { b with l := l } = signersM b ∧ ∀ n key, verM { b with l := l } n key = verM b n key := by
  have hc := chkB_with h hl
  have hd : dmgB { b with l := l } = dmgB b := by unfold dmgB authD; simp only [hf]
  have hs : sgB { b with l := l } = sgB b := by unfold sgB authD; simp only [hf]
  have ht : ∀ n key, sgnM { b with l := l } n key = sgnM b n key := fun n key => by unfold sgnM sdt; simp only [hr]
  have ha : ∀ n key, chkAll { b with l := l } n key = chkAll b n key := fun n key => by unfold chkAll; rw [hc, h, hd]
  refine ⟨?_, fun n key => ?_⟩
  · unfold signersM; rw [hc, h, hd, hs]
  · unfold verM; rw [ha, hs, ht]
theorem signersM_len (b : Bun) : (signersM b).1.length ≤ 16 := by
  unfold signersM
  split
  · simp
  · split
    · simp
    · rename_i h1 h2
      have := (Okb.good ⟨by simpa using h1, by simpa using h2⟩ : GoodS (sgB b)).len
      simpa using this
def putC (l : List Blk) (x : Blk) : List Blk × Int := if chkK x != 0 then ([], chkK x) else putM l x
theorem putC_ok {l : List Blk} {x : Blk} (h : (putC l x).2 = 0) : chkK x = 0 ∧ (putC l x).1 = putL l x ∧ (putL l x).length ≤ 8 := by
  unfold putC at h ⊢
  split at h <;> rename_i h1
  · have h1 : chkK x ≠ 0 := by simpa using h1
    exact absurd h h1
  · rw [if_neg h1]
    unfold putM at h ⊢
    split at h <;> rename_i h2
    · cases h
    · rw [if_neg h2]
      simp only [decide_eq_true_eq] at h2
      exact ⟨by simpa using h1, rfl, by omega⟩
theorem free_put {b : Bun} (h : chkB b = 0) {x : Blk} (hx : chkK x = 0) (hn : (putL b.l x).length ≤ 8) (hk : 1 ≤ x.kind) (hk' : x.kind ≤ 3) : signersM { b with l := putL b.l x } = signersM b ∧ ∀ n key, verM { b with l := putL b.l x } n key = verM b n key := by
  have hg := goodL_of h
  refine same_of h (putL_good hg hx hn) (fndB_eq (putL_sorted hg.2.2 x) hg.2.2 fun y hy => ?_) (rem4_putL hg.2.2 x (by omega))
  rw [putL_mem]
  constructor
  · rintro (rfl | h)
    · omega
    · exact h.1
  · intro h; exact .inr ⟨h, by omega⟩
theorem free_rem {b : Bun} (h : chkB b = 0) {k : Int} (hk : 1 ≤ k) (hk' : k ≤ 3) : signersM { b with l := remB b.l k } = signersM b ∧ ∀ n key, verM { b with l := remB b.l k } n key = verM b n key := by
  have hg := goodL_of h
  refine same_of h (remB_good hg k) (fndB_eq (remB_good hg k).2.2 hg.2.2 fun y hy => ?_) (remB_rem4 (by omega)).symm
  unfold remB
  rw [List.mem_filter]
  constructor
  · intro h; exact h.1
  · intro h; exact ⟨h, by simp; omega⟩
end Go.Mb
namespace Go.Proofs.Ytdhfgfkfejpfdaa
open Go.Sy Go.Mb
set_option maxRecDepth 100000
set_option linter.unusedVariables false
set_option maxHeartbeats 4000000

theorem putC_walk (l : List Blk) (x : Blk) (h : GoodL l) : FnOK Try.prog 21 [slBlk l, .agg x.cells] (putA (putC l x), none) := by
  by_cases hx : chkK x = 0
  · have e : putC l x = putM l x := by unfold putC; rw [if_neg (by rw [hx]; simp)]
    rw [e]; exact put_ok l x h hx
  · have hx : (chkK x != 0) = true := by simpa using hx
    have e : putC l x = ([], chkK x) := by unfold putC; rw [if_pos hx]
    rw [e]
    refine fn_ok CN rfl (by kernel_rfl) Try.func21 rfl ?_
    refine Sat.go (Eq.refl _) (NS.call (valid_ok l h) rfl ?_)
    refine Sat.go (Eq.refl _) (NS.no (rfl) ?_)
    refine Sat.go (Eq.refl _) (NS.call (kCheck_ok x) rfl ?_)
    refine Sat.go (Eq.refl _) (NS.yes (hx) ?_)
    exact Sat.go (Eq.refl _) (NS.ret rfl rfl (LeA.tup2 (LeA.nil' rfl) (LeA.refl _)))
theorem securityFree_ok (b : Bun) (x : Blk) (n : Int) (key : ByteArray) : FnOK Try.prog 5 [.agg b.cells, .agg x.cells, .int .i64 n, .str key] (.bool true, none) := by
  refine fn_ok CN rfl (by kernel_rfl) Try.func5 rfl ?_
  refine Sat.go (Eq.refl _) (NS.call (greatL_ok b key) rfl ?_)
  refine Sat.go (Eq.refl _) (NS.ite (fun g1 => ?_) (fun g1 => ?_))
  · refine Sat.go (Eq.refl _) (NS.call (awake_ok) rfl ?_)
    exact Sat.go (Eq.refl _) (NS.ret rfl rfl (LeA.refl _))
  refine Sat.go (Eq.refl _) (NS.ite (fun g2 => ?_) (fun g2 => ?_))
  · refine Sat.go (Eq.refl _) (NS.call (awake_ok) rfl ?_)
    exact Sat.go (Eq.refl _) (NS.ret rfl rfl (LeA.refl _))
  refine Sat.go (Eq.refl _) (NS.ite (fun g3 => ?_) (fun g3 => ?_))
  · refine Sat.go (Eq.refl _) (NS.call (awake_ok) rfl ?_)
    exact Sat.go (Eq.refl _) (NS.ret rfl rfl (LeA.refl _))
  refine Sat.go (Eq.refl _) (NS.ite (fun g4 => ?_) (fun g4 => ?_))
  · refine Sat.go (Eq.refl _) (NS.call (awake_ok) rfl ?_)
    exact Sat.go (Eq.refl _) (NS.ret rfl rfl (LeA.refl _))
  refine Sat.go (Eq.refl _) (NS.call (checkB_ok b) rfl ?_)
  refine Sat.go (Eq.refl _) (NS.ite (fun g5 => ?_) (fun g5 => ?_))
  · refine Sat.go (Eq.refl _) (NS.call (awake_ok) rfl ?_)
    exact Sat.go (Eq.refl _) (NS.ret rfl rfl (LeA.refl _))
  have hk : 1 ≤ x.kind := by have g3 : decide (x.kind < 1) = false := g3; have := of_decide_eq_false g3; omega
  have hk' : x.kind ≤ 3 := by have g4 : decide (x.kind > 3) = false := g4; have := of_decide_eq_false g4; omega
  have h : chkB b = 0 := by have g5 : (chkB b != 0) = false := g5; simpa using g5
  have hg := goodL_of h
  have hl16 := signersM_len b
  obtain ⟨r1, r2⟩ := free_rem h hk hk'
  have cs := signers_ok { b with l := remB b.l x.kind }
  rw [r1] at cs
  have cv := verify_ok { b with l := remB b.l x.kind } n key
  rw [r2] at cv
  refine Sat.go (Eq.refl _) (NS.chk (by kernel_rfl) ?_)
  refine Sat.go (Eq.refl _) (NS.call (putC_walk b.l x hg) rfl ?_)
  by_cases he : (putC b.l x).2 = 0
  · obtain ⟨e1, e2, e3⟩ := putC_ok he
    obtain ⟨r3, r4⟩ := free_put h e1 e3 hk hk'
    rw [← e2] at r3 r4
    have ct := signers_ok { b with l := (putC b.l x).1 }
    rw [r3] at ct
    have cw := verify_ok { b with l := (putC b.l x).1 } n key
    rw [r4] at cw
    refine Sat.go (Eq.refl _) (NS.yes (by show ((putC b.l x).2 == 0) = true; rw [he]; rfl) ?_)
    refine Sat.go (Eq.refl _) (NS.call (remove_ok b.l (by have := hg.1; omega) x.kind) rfl ?_)
    refine Sat.go (Eq.refl _) (NS.call (signers_ok b) rfl ?_)
    refine Sat.go (Eq.refl _) (NS.call (ct) rfl ?_)
    refine Sat.go (Eq.refl _) (NS.call (cs) rfl ?_)
    refine Sat.go (Eq.refl _) (NS.call (verify_ok b n key) rfl ?_)
    refine Sat.go (Eq.refl _) (NS.yes (by simp) ?_)
    refine Sat.go (Eq.refl _) (NS.yes (by simp) ?_)
    refine Sat.go (Eq.refl _) (NS.call (equalN_ok (signersM b).1 (by omega)) rfl ?_)
    refine Sat.go (Eq.refl _) (NS.yes (rfl) ?_)
    refine Sat.go (Eq.refl _) (NS.call (equalN_ok (signersM b).1 (by omega)) rfl ?_)
    refine Sat.go (Eq.refl _) (NS.yes (rfl) ?_)
    refine Sat.go (Eq.refl _) (NS.call (cw) rfl ?_)
    refine Sat.go (Eq.refl _) (NS.yes (by simp) ?_)
    refine Sat.go (Eq.refl _) (NS.call (cv) rfl ?_)
    refine Sat.go (Eq.refl _) (NS.yes (by simp) ?_)
    refine Sat.go (Eq.refl _) (NS.call (awake_ok) rfl ?_)
    exact Sat.go (Eq.refl _) (NS.ret rfl rfl (LeA.refl _))
  · refine Sat.go (Eq.refl _) (NS.no (by show ((putC b.l x).2 == 0) = false; simpa using he) ?_)
    refine Sat.go (Eq.refl _) (NS.call (remove_ok b.l (by have := hg.1; omega) x.kind) rfl ?_)
    refine Sat.go (Eq.refl _) (NS.call (signers_ok b) rfl ?_)
    refine Sat.go (Eq.refl _) (NS.call (signers_ok b) rfl ?_)
    refine Sat.go (Eq.refl _) (NS.call (cs) rfl ?_)
    refine Sat.go (Eq.refl _) (NS.call (verify_ok b n key) rfl ?_)
    refine Sat.go (Eq.refl _) (NS.yes (by simp) ?_)
    refine Sat.go (Eq.refl _) (NS.yes (by simp) ?_)
    refine Sat.go (Eq.refl _) (NS.call (equalN_ok (signersM b).1 (by omega)) rfl ?_)
    refine Sat.go (Eq.refl _) (NS.yes (rfl) ?_)
    refine Sat.go (Eq.refl _) (NS.call (equalN_ok (signersM b).1 (by omega)) rfl ?_)
    refine Sat.go (Eq.refl _) (NS.yes (rfl) ?_)
    refine Sat.go (Eq.refl _) (NS.call (verify_ok b n key) rfl ?_)
    refine Sat.go (Eq.refl _) (NS.yes (by simp) ?_)
    refine Sat.go (Eq.refl _) (NS.call (cv) rfl ?_)
    refine Sat.go (Eq.refl _) (NS.yes (by simp) ?_)
    refine Sat.go (Eq.refl _) (NS.call (awake_ok) rfl ?_)
    exact Sat.go (Eq.refl _) (NS.ret rfl rfl (LeA.refl _))
end Go.Proofs.Ytdhfgfkfejpfdaa
