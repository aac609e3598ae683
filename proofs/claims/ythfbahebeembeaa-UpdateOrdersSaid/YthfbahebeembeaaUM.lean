/- Known. -/
import Derived.Test.YthfbahebeembeaaUL
set_option linter.unusedSimpArgs false
set_option linter.unusedSectionVars false
set_option linter.unusedVariables false
namespace Go.Mb
open Go.Sy
set_option linter.unusedVariables false
/-- How many changes of each node are known. -/
def vecL (n : Nat) (l : List Chg) : List Int := (List.range n).map fun (i : Nat) => (cntO l (i : Int) : Int)
theorem vec_get {n i : Nat} (l : List Chg) (hi : i < n) : rowL nC (vecL n l) i 0 = .int .i64 (cntO l (i : Int)) := by
  have : (vecL n l).getD i default = (cntO l (i : Int) : Int) := by simp [vecL, List.getD, hi]
  unfold rowL
  rw [this]
  rfl
theorem chkHi_nodes {h : His} (e : chkHi h = 0) : 1 ≤ h.nodes ∧ h.nodes ≤ 16 := by
  unfold chkHi at e
  split at e
  · cases e
  · rename_i h1
    simp only [Bool.or_eq_true, decide_eq_true_eq] at h1
    omega
end Go.Mb
namespace Go.Proofs.Ythfbahebeembeaa
open Go.Sy Go.Mb
set_option maxRecDepth 100000
set_option linter.unusedVariables false
set_option maxHeartbeats 4000000
theorem knownV_ok (h : His) (hl : h.l.length ≤ 1000000) : FnOK Try.prog 20 [.agg h.cells] (.tup [slN (if chkHi h != 0 then [] else vecL h.nodes.toNat h.l), .int .i64 (if chkHi h != 0 then 1 else 0)], none) := by
  refine fn_ok CN rfl (by kernel_rfl) Try.func20 rfl ?_
  refine Sat.go (Eq.refl _) (NS.call (check_ok h) rfl ?_)
  refine Sat.go (Eq.refl _) (NS.ite (fun h1 => ?_) (fun h1 => ?_))
  · rw [if_pos h1, if_pos h1]
    exact Sat.go (Eq.refl _) (NS.ret rfl rfl (LeA.tup2 (LeA.nil' rfl) (LeA.refl _)))
  rw [if_neg (by rw [show (chkHi h != 0) = false from h1]; simp), if_neg (by rw [show (chkHi h != 0) = false from h1]; simp)]
  have g := chkHi_good (h := h) (by simpa using h1)
  have hn := chkHi_nodes (h := h) (by simpa using h1)
  refine Sat.go (Eq.refl _) (NS.need (decide_eq_true ⟨by omega, by omega, by simp only [maxRow]; omega⟩) ?_)
  refine Sat.go (Eq.refl _) ?_
  refine NS.loop (σ := { k : Nat // k ≤ h.l.length }) (fun k => [(4, .own 12), (14, slChg h.l), (15, .int .i64 h.l.length), (16, .int .i64 k.1)]) (fun k => [(12, .row 3 1 h.nodes.toNat (rowL nC (vecL h.nodes.toNat (h.l.take k.1))))]) (fun k => h.l.length - k.1) ⟨0, Nat.zero_le _⟩ ?_ ?_
  · refine weak_hd [] rfl ⟨rfl, rfl, rfl, rfl, trivial⟩ ⟨ren_row rfl rfl ?_, trivial⟩ trivial (by kernel_rfl)
    intro i hi j hj
    obtain rfl : j = 0 := by omega
    rw [vec_get _ hi]
    rfl
  rintro ⟨k, hk⟩
  refine Sat.go (Eq.refl _) (NS.ite (fun a => ?_) (fun a => ?_))
  · have a : k < h.l.length := by simpa using a
    have hv := (validX_iff.1 (g.v k a)).1
    have hc := g.cnt a
    have hs := cntO_snoc (h.l.take k) (h.l.getD k default)
    rw [← take_snoc a] at hs
    refine Sat.go (Eq.refl _) (NS.need (by simp; omega) ?_)
    refine Sat.go (Eq.refl _) (NS.need (decide_eq_true (by show 0 ≤ (h.l.getD k default).org ∧ (h.l.getD k default).org < (h.nodes.toNat : Int); omega)) ?_)
    refine Sat.go (Eq.refl _) (NS.need (decide_eq_true (by show (h.l.getD k default).org.toNat < h.nodes.toNat; omega)) ?_)
    refine Sat.go (Eq.refl _) (NS.next ⟨k + 1, a⟩ (by simp; omega) ?_)
    refine weak_hd [] rfl ⟨rfl, rfl, rfl, ren_int rfl (i64_k (k := k) (n := h.l.length) a (by omega)), trivial⟩ ⟨ren_row rfl rfl ?_, trivial⟩ trivial (by kernel_rfl)
    intro i hi j hj
    obtain rfl : j = 0 := by omega
    refine Eq.trans ?_ (vec_get (h.l.take (k + 1)) hi).symm
    have hs := hs (i : Int)
    split
    · rename_i e
      have e : i = (h.l.getD k default).org.toNat := e.1
      have e : (h.l.getD k default).org = (i : Int) := by omega
      rw [if_pos (by simpa using e)] at hs
      show A.int .i64 (h.l.getD k default).cnt = A.int .i64 (cntO (h.l.take (k + 1)) (i : Int) : Int)
      rw [hs, hc, e]; rfl
    · rename_i e
      have e : (h.l.getD k default).org ≠ (i : Int) := fun e2 => e ⟨by show i = (h.l.getD k default).org.toNat; omega, by omega, by omega⟩
      rw [if_neg (by simpa using e)] at hs
      show rowL nC (vecL h.nodes.toNat (h.l.take k)) i 0 = A.int .i64 (cntO (h.l.take (k + 1)) (i : Int) : Int)
      rw [vec_get _ hi, hs]; rfl
  · have a : h.l.length ≤ k := by simpa using a
    refine Sat.go (Eq.refl _) (NS.leave rfl (Eq.refl _) ?_)
    exact Sat.go (Eq.refl _) (NS.ret rfl rfl (LeA.tup2 (LeA.sl (by simp [vecL]) fun i hi j hj => by rw [take_all a]) (LeA.refl _)))
end Go.Proofs.Ythfbahebeembeaa
