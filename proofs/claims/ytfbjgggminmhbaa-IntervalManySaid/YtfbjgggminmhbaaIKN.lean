/- The walk of IntervalCanonical. -/
import Derived.Test.YtfbjgggminmhbaaIJ
set_option linter.unusedSimpArgs false
set_option linter.unusedSectionVars false
set_option linter.unusedVariables false
namespace Go.Proofs.Ytfbjgggminmhbaa
open Go.Sy Go.Mb
set_option maxRecDepth 100000
set_option linter.unusedVariables false
set_option maxHeartbeats 1000000

theorem same_t (l : List Spn) (hl : l.length ≤ 1000000) : FnOK Try.prog 13 [slS l, slS l] (.bool true, none) := by
  have := same_ok l l hl
  rw [(sameBy_iff fun _ _ => Spn.eqv_iff).2 rfl] at this
  exact this
theorem intervalCanonical_ok (l : List Spn) (t : Int) : FnOK Try.prog 6 [slS l, .int .i64 t] (.bool true, none) := by
  refine fn_ok CN rfl (by kernel_rfl) Try.func6 rfl ?_
  refine Sat.go (Eq.refl _) (NS.ite (fun h0 => ?_) (fun h0 => ?_))
  · refine Sat.go (Eq.refl _) (NS.call awake_ok rfl ?_)
    exact Sat.go (Eq.refl _) (NS.ret rfl rfl (LeA.of rfl))
  have hl : l.length ≤ 40 := by simp at h0; omega
  have c1 := normal_ok l
  cases hb : l.any (fun y => !vS y) with
  | true =>
    have hm : normM l = ([], 2) := by unfold normM; rw [if_neg (by omega), if_pos hb]
    rw [hm] at c1
    refine Sat.go (Eq.refl _) (NS.call c1 rfl ?_)
    refine Sat.go (Eq.refl _) (NS.yes rfl ?_)
    refine Sat.go (Eq.refl _) (NS.yes rfl ?_)
    refine Sat.go (Eq.refl _) (NS.call awake_ok rfl ?_)
    exact Sat.go (Eq.refl _) (NS.ret rfl rfl (LeA.of rfl))
  | false =>
    have hv := all_of_any hb
    obtain ⟨sn, hn, ln⟩ := norm_spec hv
    have hm : normM l = (normL l, 0) := by unfold normM; rw [if_neg (by omega), if_neg (by rw [hb]; simp)]
    rw [hm] at c1
    have hbr : l.reverse.any (fun y => !vS y) = false := by
      rw [List.any_eq_false] at hb ⊢
      intro x hx; exact hb x (by simpa using hx)
    have hmr : normM l.reverse = (normL l, 0) := by
      unfold normM
      rw [if_neg (by simp; omega), if_neg (by rw [hbr]; simp), norm_perm (List.reverse_perm l) hv]
    have c2 := normal_ok l.reverse
    rw [hmr] at c2
    have c3 := normal_ok (normL l)
    have hbn : (normL l).any (fun y => !vS y) = false := by
      rw [List.any_eq_false]
      intro x hx; rw [set_all sn x hx]; simp
    have hmn : normM (normL l) = (normL l, 0) := by
      unfold normM
      rw [if_neg (by omega), if_neg (by rw [hbn]; simp), norm_set sn]
    rw [hmn] at c3
    have ck : chkS (normL l) = 0 := (chkS_zero _).2 ⟨by omega, sn⟩
    have c4 := check_ok (normL l)
    rw [ck] at c4
    have hh : ∀ z, hasM (normL l) z = hasL l z := fun z => by unfold hasM; rw [ck, hn]; rfl
    have hcov : ∀ k, k < l.length → coversM (normL l) (l.getD k default) = true := fun k hk => by
      have hx := hv (l.getD k default) (by rw [getD_lt hk]; exact List.getElem_mem hk)
      have hx' := hx
      simp only [vS, Bool.and_eq_true, decide_eq_true_eq] at hx'
      unfold coversM
      rw [hx, ck, cov_of sn hx'.1 fun z hz => by rw [hn]; exact any_t hk (p := has1 z) hz]
      rfl
    generalize normL l = n at c1 c2 c3 c4 hh hcov ln
    refine Sat.go (Eq.refl _) (NS.call c1 rfl ?_)
    refine Sat.go (Eq.refl _) (NS.no rfl ?_)
    refine Sat.go (Eq.refl _) ?_
    refine NS.loop (σ := { k : Nat // k ≤ l.length }) (fun k => [(0, slS l), (1, .int .i64 t), (5, slS n), (7, .own 7), (33, .int .i64 l.length), (34, .int .i64 k.1)]) (fun k => [(7, .row 24 2 k.1 (rowL Spn.cells (backL l k.1)))]) (fun k => l.length - k.1) ⟨0, Nat.zero_le _⟩ ?_ ?_
    · exact (weak_promote 7 7 24 2 (rowL Spn.cells []) rfl rfl).trans (weak_hd [] rfl ⟨rfl, rfl, rfl, rfl, rfl, rfl, trivial⟩ ⟨ren_row rfl rfl (fun i hi => absurd hi (Nat.not_lt_zero _)), trivial⟩ trivial (by kernel_rfl))
    rintro ⟨k, hk⟩
    refine Sat.go (Eq.refl _) (NS.ite (fun h => ?_) (fun h => ?_))
    · have h : k < l.length := by simpa using h
      have e1 : IntKind.i64.wrap (IntKind.i64.wrap ((l.length : Int) - 1) - (k : Int)) = ((l.length - 1 - k : Nat) : Int) := by
        rw [wrap_i64 (n := (l.length : Int) - 1) (by omega) (by omega), wrap_i64 (by omega) (by omega)]; omega
      refine Sat.go (Eq.refl _) (NS.need (by rw [e1]; simp; omega) ?_)
      rw [e1]
      refine Sat.go (Eq.refl _) (NS.need (decide_eq_true (by simp only [maxRow]; omega)) ?_)
      refine Sat.go (Eq.refl _) (NS.next ⟨k + 1, by omega⟩ (by simp; omega) ?_)
      refine weak_hd [(7, 47)] rfl ⟨rfl, rfl, rfl, rfl, rfl, ren_int rfl (i64_k (k := k) (n := l.length) (by omega) (by omega)), trivial⟩ ⟨ren_row rfl rfl fun i hi j hj => ?_, trivial⟩ trivial (by kernel_rfl)
      have hlen := backL_len (l := l) (k := k) hk
      have := row_snoc (cells := Spn.cells) (l := backL l k) (x := l.getD (l.length - 1 - k) default) (c := 2) rfl i (by rw [hlen]; exact hi) j hj
      rw [← backL_snoc h, hlen] at this
      exact this
    have h : l.length ≤ k := by simpa using h
    obtain rfl : k = l.length := by omega
    refine Sat.go (Eq.refl _) (NS.leave rfl (Eq.refl _) ?_)
    refine Sat.wk (weak_freeze 7 7 rfl rfl) ?_
    refine Sat.go (Eq.refl _) (NS.call (c2.le (LeL.cons (LeA.sl (by simp) fun i hi j hj => by rw [backL_all]) LeL.nil)) rfl ?_)
    refine Sat.go (Eq.refl _) (NS.call c3 rfl ?_)
    refine Sat.go (Eq.refl _) (NS.no rfl ?_)
    refine Sat.go (Eq.refl _) (NS.no rfl ?_)
    refine Sat.go (Eq.refl _) (NS.call c4 rfl ?_)
    refine Sat.go (Eq.refl _) (NS.no rfl ?_)
    refine Sat.go (Eq.refl _) (NS.call (same_t n (by omega)) rfl ?_)
    refine Sat.go (Eq.refl _) (NS.no rfl ?_)
    refine Sat.go (Eq.refl _) (NS.call (same_t n (by omega)) rfl ?_)
    refine Sat.go (Eq.refl _) (NS.no rfl ?_)
    have c5 := has_ok n t
    rw [hh] at c5
    refine Sat.go (Eq.refl _) (NS.call c5 rfl ?_)
    refine Sat.go (Eq.refl _) (NS.call (lWithin_ok l t (by omega)) rfl ?_)
    refine Sat.go (Eq.refl _) (NS.no (by cases hasL l t <;> rfl) ?_)
    refine Sat.go (Eq.refl _) ?_
    refine NS.loop (σ := { k : Nat // k ≤ l.length }) (fun k => [(0, slS l), (5, slS n), (91, slS l), (92, .int .i64 l.length), (93, .int .i64 k.1)]) (fun k => []) (fun k => l.length - k.1) ⟨0, Nat.zero_le _⟩ ?_ ?_
    · exact weak_hd [] rfl ⟨rfl, rfl, rfl, rfl, rfl, trivial⟩ trivial trivial (by kernel_rfl)
    rintro ⟨k, hk⟩
    refine Sat.go (Eq.refl _) (NS.ite (fun h => ?_) (fun h => ?_))
    · have h : k < l.length := by simpa using h
      have c6 := covers_ok n (l.getD k default)
      rw [hcov k h] at c6
      have c7 := has_ok n (l.getD k default).hi
      rw [hh] at c7
      refine Sat.go (Eq.refl _) (NS.need (by simp; omega) ?_)
      refine Sat.go (Eq.refl _) (NS.chk (by kernel_rfl) ?_)
      refine Sat.go (Eq.refl _) (NS.call c6 rfl ?_)
      refine Sat.go (Eq.refl _) (NS.no rfl ?_)
      refine Sat.go (Eq.refl _) (NS.call c7 rfl ?_)
      refine Sat.go (Eq.refl _) (NS.call (lWithin_ok l (l.getD k default).hi (by omega)) rfl ?_)
      refine Sat.go (Eq.refl _) (NS.no (by cases hasL l (l.getD k default).hi <;> rfl) ?_)
      refine Sat.go (Eq.refl _) (NS.next ⟨k + 1, by omega⟩ (by simp; omega) ?_)
      exact weak_hd [] rfl ⟨rfl, rfl, rfl, rfl, ren_int rfl (i64_k (k := k) (n := l.length) (by omega) (by omega)), trivial⟩ trivial trivial (by kernel_rfl)
    · refine Sat.go (Eq.refl _) (NS.leave rfl (Eq.refl _) ?_)
      refine Sat.go (Eq.refl _) (NS.call awake_ok rfl ?_)
      exact Sat.go (Eq.refl _) (NS.ret rfl rfl (LeA.of rfl))
end Go.Proofs.Ytfbjgggminmhbaa
