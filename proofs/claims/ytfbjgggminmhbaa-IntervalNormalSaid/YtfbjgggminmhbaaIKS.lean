/- The walks of IntervalNormal and IntervalSets. -/
import Derived.Test.YtfbjgggminmhbaaIJ
import Derived.Test.YtfbjgggminmhbaaIQ
set_option linter.unusedSimpArgs false
set_option linter.unusedSectionVars false
set_option linter.unusedVariables false
namespace Go.Proofs.Ytfbjgggminmhbaa
open Go.Sy Go.Mb
set_option maxRecDepth 100000
set_option linter.unusedVariables false
set_option maxHeartbeats 4000000

def great1 (l : List Spn) : Bool := (decide ((l.length : Int) > 40) && decide ((l.length : Int) ≤ 1000)) || decide ((l.length : Int) > 1100)
theorem great_ok (ls : List (List Spn)) (hl : ls.length ≤ 1000) : FnOK Try.prog 17 [.sl 1 ls.length (rowL lC ls)] (.bool (ls.any great1), none) := by
  refine fn_ok CN rfl (by kernel_rfl) Try.func17 rfl ?_
  refine Sat.go (Eq.refl _) ?_
  refine NS.loop (σ := { k : Nat // k ≤ ls.length ∧ ∀ i, i < k → great1 (ls.getD i default) = false }) (fun k => [(5, .sl 1 ls.length (rowL lC ls)), (6, .int .i64 ls.length), (7, .int .i64 k.1)]) (fun _ => []) (fun k => ls.length - k.1) ⟨0, Nat.zero_le _, fun i hi => by omega⟩ ?_ ?_
  · exact weak_hd [] rfl ⟨rfl, rfl, rfl, trivial⟩ trivial trivial (by kernel_rfl)
  · rintro ⟨k, hk, hn⟩
    have hstep : great1 (ls.getD k default) = false → ∀ i, i < k + 1 → great1 (ls.getD i default) = false := fun h2 i hi => by
      by_cases hik : i = k
      · subst hik; exact h2
      · exact hn i (by omega)
    refine Sat.go (Eq.refl _) (NS.ite (fun h => ?_) (fun h => ?_))
    · simp at h
      refine Sat.go (Eq.refl _) (NS.need (by simp; omega) ?_)
      refine Sat.go (Eq.refl _) (NS.ite (fun h2 => ?_) (fun h2 => ?_))
      · have h2 : decide (((ls.getD k default).length : Int) > 40) = true := h2
        refine Sat.go (Eq.refl _) (NS.ite (fun h3 => ?_) (fun h3 => ?_))
        · have h3 : decide (((ls.getD k default).length : Int) ≤ 1000) = true := h3
          refine Sat.go (Eq.refl _) (NS.leaveOut rfl (Eq.refl _) (NS.ret rfl rfl (LeA.of (congrArg A.bool ?_))))
          rw [any_t h (p := great1) (by unfold great1; rw [h2, h3]; rfl)]
        · have h3 : decide (((ls.getD k default).length : Int) ≤ 1000) = false := h3
          refine Sat.go (Eq.refl _) (NS.ite (fun h4 => ?_) (fun h4 => ?_))
          · have h4 : decide (((ls.getD k default).length : Int) > 1100) = true := h4
            refine Sat.go (Eq.refl _) (NS.leaveOut rfl (Eq.refl _) (NS.ret rfl rfl (LeA.of (congrArg A.bool ?_))))
            rw [any_t h (p := great1) (by unfold great1; rw [h2, h3, h4]; rfl)]
          · have h4 : decide (((ls.getD k default).length : Int) > 1100) = false := h4
            refine Sat.go (Eq.refl _) (NS.next ⟨k + 1, by omega, hstep (by unfold great1; rw [h2, h3, h4]; rfl)⟩ (by simp; omega) ?_)
            exact weak_hd [] rfl ⟨rfl, rfl, ren_int rfl (i64_k (k := k) (n := ls.length) (by omega) (by omega)), trivial⟩ trivial trivial (by kernel_rfl)
      · have h2 : decide (((ls.getD k default).length : Int) > 40) = false := h2
        refine Sat.go (Eq.refl _) (NS.ite (fun h4 => ?_) (fun h4 => ?_))
        · have h4 : decide (((ls.getD k default).length : Int) > 1100) = true := h4
          refine Sat.go (Eq.refl _) (NS.leaveOut rfl (Eq.refl _) (NS.ret rfl rfl (LeA.of (congrArg A.bool ?_))))
          rw [any_t h (p := great1) (by unfold great1; rw [h2, h4]; rfl)]
        · have h4 : decide (((ls.getD k default).length : Int) > 1100) = false := h4
          refine Sat.go (Eq.refl _) (NS.next ⟨k + 1, by omega, hstep (by unfold great1; rw [h2, h4]; rfl)⟩ (by simp; omega) ?_)
          exact weak_hd [] rfl ⟨rfl, rfl, ren_int rfl (i64_k (k := k) (n := ls.length) (by omega) (by omega)), trivial⟩ trivial trivial (by kernel_rfl)
    · simp at h
      refine Sat.go (Eq.refl _) (NS.leave rfl (Eq.refl _) ?_)
      refine Sat.go (Eq.refl _) (NS.ret rfl rfl (LeA.of (congrArg A.bool ?_)))
      rw [any_f (p := great1) fun i hi => hn i (by omega)]
theorem greatOf1 (a : List Spn) {el : Nat → Nat → A} (h0 : el 0 0 = slS a) : FnOK Try.prog 17 [.sl 1 1 el] (.bool (great1 a), none) := by
  have := great_ok [a] (by simp)
  rw [show [a].any great1 = great1 a by simp] at this
  exact this.le (LeL.cons (LeA.sl rfl fun i hi j hj => by
    match i, j, hi, hj with
    | 0, 0, _, _ => exact h0) LeL.nil)
theorem greatOf2 (a b : List Spn) {el : Nat → Nat → A} (h0 : el 0 0 = slS a) (h1 : el 1 0 = slS b) : FnOK Try.prog 17 [.sl 1 2 el] (.bool (great1 a || great1 b), none) := by
  have := great_ok [a, b] (by simp)
  rw [show [a, b].any great1 = (great1 a || great1 b) by simp] at this
  exact this.le (LeL.cons (LeA.sl rfl fun i hi j hj => by
    match i, j, hi, hj with
    | 0, 0, _, _ => exact h0
    | 1, 0, _, _ => exact h1) LeL.nil)
theorem same_r {l : List Spn} (hl : l.length ≤ 1000000) : FnOK Try.prog 13 [slS l, slS l] (.bool true, none) := by
  have := same_ok l l hl
  rw [(sameBy_iff fun _ _ => Spn.eqv_iff).2 rfl] at this
  exact this
theorem normM_len (l : List Spn) : (normM l).1.length ≤ 1000 := by
  unfold normM
  split
  · simp
  · split
    · simp
    · rename_i h1 h2
      have := (norm_spec (all_of_any (by simpa using h2))).2.2
      simp only; omega
theorem intervalNormal_ok (l : List Spn) (x : Spn) (t n : Int) : FnOK Try.prog 9 [slS l, .agg x.cells, .int .i64 t, .int .i64 n] (.bool true, none) := by
  refine fn_ok CN rfl (by kernel_rfl) Try.func9 rfl ?_
  refine Sat.go (Eq.refl _) (NS.call (greatOf1 l rfl) rfl ?_)
  refine Sat.go (Eq.refl _) (NS.ite (fun h0 => ?_) (fun h0 => ?_))
  · refine Sat.go (Eq.refl _) (NS.call awake_ok rfl ?_)
    exact Sat.go (Eq.refl _) (NS.ret rfl rfl (LeA.of rfl))
  refine Sat.go (Eq.refl _) (NS.call (normal_ok l) rfl ?_)
  refine Sat.go (Eq.refl _) (NS.call (rNormal_ok l) rfl ?_)
  refine Sat.go (Eq.refl _) (NS.call (first_ok l t n) rfl ?_)
  refine Sat.go (Eq.refl _) (NS.call (rFirst_ok l t n) rfl ?_)
  refine Sat.go (Eq.refl _) (NS.chk (by kernel_rfl) ?_)
  refine Sat.go (Eq.refl _) (NS.call (check_ok l) rfl ?_)
  refine Sat.go (Eq.refl _) (NS.call (rCheck_ok l) rfl ?_)
  refine Sat.go (Eq.refl _) (NS.yes (beq_self_eq_true _) ?_)
  refine Sat.go (Eq.refl _) (NS.call (same_r (Nat.le_trans (normM_len l) (by omega))) rfl ?_)
  refine Sat.go (Eq.refl _) (NS.yes rfl ?_)
  refine Sat.go (Eq.refl _) (NS.yes (beq_self_eq_true _) ?_)
  refine Sat.go (Eq.refl _) (NS.call (total_ok l) rfl ?_)
  refine Sat.go (Eq.refl _) (NS.call (rTotal_ok l) rfl ?_)
  refine Sat.go (Eq.refl _) (NS.yes (beq_self_eq_true _) ?_)
  refine Sat.go (Eq.refl _) (NS.call (has_ok l t) rfl ?_)
  refine Sat.go (Eq.refl _) (NS.call (rHas_ok l t) rfl ?_)
  refine Sat.go (Eq.refl _) (NS.yes (beq_self_eq_true _) ?_)
  refine Sat.go (Eq.refl _) (NS.call (covers_ok l x) rfl ?_)
  refine Sat.go (Eq.refl _) (NS.call (rCovers_ok l x) rfl ?_)
  refine Sat.go (Eq.refl _) (NS.yes (beq_self_eq_true _) ?_)
  refine Sat.go (Eq.refl _) (NS.yes (beq_self_eq_true _) ?_)
  refine Sat.go (Eq.refl _) (NS.yes (beq_self_eq_true _) ?_)
  refine Sat.go (Eq.refl _) (NS.call awake_ok rfl ?_)
  exact Sat.go (Eq.refl _) (NS.ret rfl rfl (LeA.of rfl))
theorem ref_comb {f : Bool → Bool → Bool} (hf : f false false = false) {x a b : List Spn} (h : SetL a → SetL b → x = combL f a b) : refM x a b = combM f a b := by
  unfold refM combM limM
  split
  · rfl
  · rename_i h0
    obtain ⟨ha, hb⟩ := or_split (by simpa using h0 : (chkS a != 0 || chkS b != 0) = false)
    rw [h ((chkS_zero a).1 (chk_z ha)).2 ((chkS_zero b).1 (chk_z hb)).2]
theorem combM_len (f : Bool → Bool → Bool) (a b : List Spn) : (combM f a b).1.length ≤ 1000 := by
  unfold combM
  split
  · simp
  · split
    · simp
    · simp only; omega
theorem intervalSets_ok (a b : List Spn) : FnOK Try.prog 5 [slS a, slS b] (.bool true, none) := by
  have r1 := rUnion_ok a b
  rw [ref_comb (f := fU) rfl fun sa sb => foldI_comb sa sb] at r1
  have r2 := rIntersect_ok a b
  rw [ref_comb (f := fI) rfl fun sa sb => both_comb sa sb] at r2
  have r3 := rMinus_ok a b
  rw [ref_comb (f := fM) rfl fun sa sb => minus_comb sa sb] at r3
  refine fn_ok CN rfl (by kernel_rfl) Try.func5 rfl ?_
  refine Sat.go (Eq.refl _) (NS.call (greatOf2 a b rfl rfl) rfl ?_)
  refine Sat.go (Eq.refl _) (NS.ite (fun h0 => ?_) (fun h0 => ?_))
  · refine Sat.go (Eq.refl _) (NS.call awake_ok rfl ?_)
    exact Sat.go (Eq.refl _) (NS.ret rfl rfl (LeA.of rfl))
  refine Sat.go (Eq.refl _) (NS.call (Union_ok a b) rfl ?_)
  refine Sat.go (Eq.refl _) (NS.call r1 rfl ?_)
  refine Sat.go (Eq.refl _) (NS.call (Intersect_ok a b) rfl ?_)
  refine Sat.go (Eq.refl _) (NS.call r2 rfl ?_)
  refine Sat.go (Eq.refl _) (NS.call (Minus_ok a b) rfl ?_)
  refine Sat.go (Eq.refl _) (NS.call r3 rfl ?_)
  refine Sat.go (Eq.refl _) (NS.call (same_r (Nat.le_trans (combM_len fU a b) (by omega))) rfl ?_)
  refine Sat.go (Eq.refl _) (NS.yes rfl ?_)
  refine Sat.go (Eq.refl _) (NS.yes (beq_self_eq_true _) ?_)
  refine Sat.go (Eq.refl _) (NS.call (same_r (Nat.le_trans (combM_len fI a b) (by omega))) rfl ?_)
  refine Sat.go (Eq.refl _) (NS.yes rfl ?_)
  refine Sat.go (Eq.refl _) (NS.yes (beq_self_eq_true _) ?_)
  refine Sat.go (Eq.refl _) (NS.call (same_r (Nat.le_trans (combM_len fM a b) (by omega))) rfl ?_)
  refine Sat.go (Eq.refl _) (NS.yes rfl ?_)
  refine Sat.go (Eq.refl _) (NS.yes (beq_self_eq_true _) ?_)
  refine Sat.go (Eq.refl _) (NS.call awake_ok rfl ?_)
  exact Sat.go (Eq.refl _) (NS.ret rfl rfl (LeA.of rfl))
end Go.Proofs.Ytfbjgggminmhbaa
