/- Putting a block. -/
import Derived.Test.YtdhfgfkfejpfdaaGreatKJ
set_option linter.unusedSimpArgs false
set_option linter.unusedSectionVars false
set_option linter.unusedVariables false
namespace Go.Mb
open Go.Sy
def putM (l : List Blk) (x : Blk) : List Blk × Int := if decide (((putL l x).length : Int) > 8) then ([], 4) else (putL l x, 0)
def putA (r : List Blk × Int) : A := .tup [slBlk r.1, .int .i64 r.2]
end Go.Mb
namespace Go.Proofs.YtdhfgfkfejpfdaaGreat
open Go.Sy Go.Mb
set_option maxRecDepth 100000
set_option linter.unusedVariables false
set_option maxHeartbeats 4000000

theorem valid_ok (l : List Blk) (h : GoodL l) : FnOK Tryz.prog 35 [slBlk l] (.bool true, none) := by
  refine fn_ok CN rfl (by kernel_rfl) Tryz.func35 rfl ?_
  refine Sat.go (Eq.refl _) (NS.call (kEncAll_ok l h) rfl ?_)
  exact Sat.go (Eq.refl _) (NS.ret rfl rfl (LeA.refl _))
theorem put1_ok (x y : Blk) : FnOK Tryz.prog 38 [.agg y.cells, .ip 3 (getA x.cells)] (.bool (decide (y.kind < x.kind)), none) := by
  refine fn_ok CN rfl (by kernel_rfl) Tryz.func38 rfl ?_
  exact Sat.go (Eq.refl _) (NS.ret rfl rfl (LeA.refl _))
theorem put2_ok (x y : Blk) : FnOK Tryz.prog 39 [.agg y.cells, .ip 3 (getA x.cells)] (.bool (decide (y.kind > x.kind)), none) := by
  refine fn_ok CN rfl (by kernel_rfl) Tryz.func39 rfl ?_
  exact Sat.go (Eq.refl _) (NS.ret rfl rfl (LeA.refl _))
theorem put_ok (l : List Blk) (x : Blk) (h : GoodL l) (hx : chkK x = 0) : FnOK Tryz.prog 19 [slBlk l, .agg x.cells] (putA (putM l x), none) := by
  have hl := h.1
  have hf : ∀ p : Blk → Bool, (l.filter p).length ≤ 8 := fun p => Nat.le_trans (List.length_filter_le _ _) hl
  have c := kCheck_ok x
  rw [hx] at c
  unfold putM
  refine fn_ok CN rfl (by kernel_rfl) Tryz.func19 rfl ?_
  refine Sat.go (Eq.refl _) (NS.call (valid_ok l h) rfl ?_)
  refine Sat.go (Eq.refl _) (NS.no (rfl) ?_)
  refine Sat.go (Eq.refl _) (NS.call (c) rfl ?_)
  refine Sat.go (Eq.refl _) (NS.no (rfl) ?_)
  refine Sat.go (Eq.refl _) (NS.chk (by kernel_rfl) ?_)
  refine Sat.go (Eq.refl _) (NS.call (filter_ok l (by omega) _ 3 (getA x.cells) (fun y => decide (y.kind < x.kind)) (put1_ok x)) rfl ?_)
  have f1 := hf (fun y => decide (y.kind < x.kind))
  have f2 := hf (fun y => decide (y.kind > x.kind))
  refine Sat.go (Eq.refl _) (NS.need (decide_eq_true (by simp only [maxRow]; show ((l.filter (fun y => decide (y.kind < x.kind))).length + 1) * (31 + 1 + 1) ≤ _; omega)) ?_)
  refine Sat.go (Eq.refl _) (NS.call ((filter_ok l (by omega) _ 3 (getA x.cells) (fun y => decide (y.kind > x.kind)) (put2_ok x))) rfl ?_)
  obtain ⟨F1, hF1⟩ : ∃ F, l.filter (fun y => decide (y.kind < x.kind)) = F := ⟨_, rfl⟩
  obtain ⟨F2, hF2⟩ : ∃ F, l.filter (fun y => decide (y.kind > x.kind)) = F := ⟨_, rfl⟩
  have hP : putL l x = F1 ++ [x] ++ F2 := by unfold putL; rw [hF1, hF2]
  have hlen : (putL l x).length = F1.length + 1 + F2.length := by rw [hP]; simp only [List.length_append, List.length_singleton]
  rw [hF1] at f1 ⊢
  rw [hF2] at f2 ⊢
  refine Sat.go (Eq.refl _) (NS.need (decide_eq_true (by simp only [maxRow]; show (F1.length + 1 + F2.length) * (31 + 1 + 1) ≤ _; omega)) ?_)
  refine Sat.go (Eq.refl _) (NS.ite (fun h8 => ?_) (fun h8 => ?_))
  · have h8 : ((F1.length + 1 + F2.length : Nat) : Int) > 8 := of_decide_eq_true h8
    rw [if_pos (decide_eq_true (by rw [hlen]; exact h8))]
    exact Sat.go (Eq.refl _) (NS.ret rfl rfl (LeA.tup2 (LeA.nil' rfl) (LeA.refl _)))
  have h8 : ¬ ((F1.length + 1 + F2.length : Nat) : Int) > 8 := of_decide_eq_false h8
  rw [if_neg (by rw [hlen]; simpa using h8)]
  refine Sat.go (Eq.refl _) (NS.ret rfl rfl (LeA.tup2 (LeA.sl (by rw [hlen]) (fun i hi j hj => ?_)) (LeA.refl _)))
  show (if i < F1.length + 1 then _ else rowL Blk.cells F2 (i - (F1.length + 1)) j) = rowL Blk.cells (putL l x) i j
  have e2 : (F1 ++ [x]).length = F1.length + 1 := by simp
  rw [hP, ← rowL_append, e2]
  by_cases h1 : i < F1.length + 1
  · rw [if_pos h1, if_pos h1]
    exact row_snoc (cells := Blk.cells) (l := F1) (x := x) rfl i h1 j hj
  · rw [if_neg h1, if_neg h1]
end Go.Proofs.YtdhfgfkfejpfdaaGreat
