/- The reference's Known. -/
import Derived.Test.YthfbahebeembeaaUM
set_option linter.unusedSimpArgs false
set_option linter.unusedSectionVars false
set_option linter.unusedVariables false
namespace Go.Proofs.Ythfbahebeembeaa
open Go.Sy Go.Mb
set_option maxRecDepth 100000
set_option linter.unusedVariables false
set_option maxHeartbeats 4000000
theorem rKnownV_ok (h : His) (hl : h.l.length ≤ 1000000) : FnOK Try.prog 21 [.agg h.cells] (.tup [slN (if chkHi h != 0 then [] else vecL h.nodes.toNat h.l), .int .i64 (if chkHi h != 0 then 1 else 0)], none) := by
  refine fn_ok CN rfl (by kernel_rfl) Try.func21 rfl ?_
  refine Sat.go (Eq.refl _) (NS.call (rCheck_ok h) rfl ?_)
  refine Sat.go (Eq.refl _) (NS.ite (fun h1 => ?_) (fun h1 => ?_))
  · rw [if_pos h1, if_pos h1]
    exact Sat.go (Eq.refl _) (NS.ret rfl rfl (LeA.tup2 (LeA.nil' rfl) (LeA.refl _)))
  rw [if_neg (by rw [show (chkHi h != 0) = false from h1]; simp), if_neg (by rw [show (chkHi h != 0) = false from h1]; simp)]
  have hn := chkHi_nodes (h := h) (by simpa using h1)
  refine Sat.go (Eq.refl _) (NS.need (decide_eq_true ⟨by omega, by omega, by simp only [maxRow]; omega⟩) ?_)
  refine Sat.go (Eq.refl _) ?_
  refine NS.loop (σ := { k : Nat // k ≤ h.nodes.toNat }) (fun k => [(1, .ptr 1 0), (4, .own 11), (5, .int .i64 k.1)]) (fun k => [(1, .box h.cells), (11, .row 3 1 h.nodes.toNat (fun i j => getA [A.int .i64 (if i < k.1 then (cntO h.l (i : Int) : Int) else 0)] j))]) (fun k => h.nodes.toNat - k.1) ⟨0, Nat.zero_le _⟩ ?_ ?_
  · refine weak_hd [] rfl ⟨rfl, rfl, rfl, trivial⟩ ⟨⟨_, rfl, renHis _ _⟩, ren_row rfl rfl ?_, trivial⟩ trivial (by kernel_rfl)
    intro i hi j hj
    obtain rfl : j = 0 := by omega
    rfl
  rintro ⟨k, hk⟩
  refine Sat.go (Eq.refl _) (NS.ite (fun a => ?_) (fun a => ?_))
  · have a : (k : Int) < h.nodes := of_decide_eq_true a
    have hle := cntO_le h.l (k : Int)
    refine Sat.go (Eq.refl _) (NS.call (known_ok h (k : Int) hl) rfl ?_)
    refine Sat.go (Eq.refl _) (NS.need (decide_eq_true (by show 0 ≤ (k : Int) ∧ (k : Int) < (h.nodes.toNat : Int); omega)) ?_)
    refine Sat.go (Eq.refl _) (NS.need (decide_eq_true (by show (k : Int).toNat < h.nodes.toNat; omega)) ?_)
    refine Sat.go (Eq.refl _) (NS.next ⟨k + 1, by omega⟩ (by show h.nodes.toNat - (k + 1) < h.nodes.toNat - k; omega) ?_)
    refine weak_hd [] rfl ⟨rfl, rfl, ren_int rfl (i64_k (k := k) (n := h.nodes.toNat) (by omega) (by omega)), trivial⟩ ⟨⟨_, rfl, renHis _ _⟩, ren_row rfl rfl ?_, trivial⟩ trivial (by kernel_rfl)
    intro i hi j hj
    obtain rfl : j = 0 := by omega
    show (if i = (k : Int).toNat ∧ 0 ≤ 0 ∧ 0 < 0 + 1 then A.int .i64 (cntO h.l (k : Int) : Int) else A.int .i64 (if i < k then (cntO h.l (i : Int) : Int) else 0)) = A.int .i64 (if i < k + 1 then (cntO h.l (i : Int) : Int) else 0)
    rw [Int.toNat_natCast]
    by_cases e : i = k
    · subst e
      rw [if_pos ⟨rfl, by omega, by omega⟩, if_pos (by omega)]
    · rw [if_neg (by omega)]
      by_cases e2 : i < k
      · rw [if_pos e2, if_pos (by omega)]
      · rw [if_neg e2, if_neg (by omega)]
  · have a : ¬ (k : Int) < h.nodes := of_decide_eq_false a
    refine Sat.go (Eq.refl _) (NS.leave rfl (Eq.refl _) ?_)
    refine Sat.go (Eq.refl _) (NS.ret rfl rfl (LeA.tup2 (LeA.sl (by simp [vecL]) ?_) (LeA.refl _)))
    intro i hi j hj
    obtain rfl : j = 0 := by omega
    rw [vec_get _ hi]
    show A.int .i64 (if i < k then (cntO h.l (i : Int) : Int) else 0) = _
    rw [if_pos (by omega)]
end Go.Proofs.Ythfbahebeembeaa
