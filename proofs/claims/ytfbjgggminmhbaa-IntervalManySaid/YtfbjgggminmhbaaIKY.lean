/- The walk of IntervalMany. -/
import Derived.Test.YtfbjgggminmhbaaIKN
set_option linter.unusedSimpArgs false
set_option linter.unusedSectionVars false
set_option linter.unusedVariables false
namespace Go.Proofs.Ytfbjgggminmhbaa
open Go.Sy Go.Mb
set_option maxRecDepth 100000
set_option linter.unusedVariables false
set_option maxHeartbeats 1000000

theorem many_chk {s u v : Int} {k : Nat} (hs : 0 ≤ s) (h1 : u < v) (h2 : v < s + u) (h3 : 0 ≤ u) (h4 : u ≤ s) (hk : k = 1000) (h5 : s ≤ 10) : chkS (manyL s u v k) = 0 := by
  refine (chkS_zero _).2 ⟨by rw [many_len]; omega, (many_set hs h1 h2 h3 h4 k ?_).1⟩
  have : s * (k : Int) ≤ 10 * k := Int.mul_le_mul_of_nonneg_right h5 (by omega)
  omega
theorem many_row {s u v : Int} {k : Nat} {cs : List A} (hcs : cs = (Spn.mk (s * k + u) (s * k + v)).cells) (i : Nat) (hi : i < k + 1) (j : Nat) (hj : j < 2) : (if i < k then rowL Spn.cells (manyL s u v k) i j else getA cs ((i - k) * 2 + j)) = rowL Spn.cells (manyL s u v (k + 1)) i j := by
  have := row_snoc (cells := Spn.cells) (l := manyL s u v k) (x := ⟨s * k + u, s * k + v⟩) (c := 2) (cs := cs) hcs i (by rw [many_len]; exact hi) j hj
  rw [many_len, ← many_snoc] at this
  exact this
theorem cells_w {k : Nat} (hk : k < 1000) {a b : Int} {x : Spn} (hx : IntKind.i64.wrap a = x.lo) (hy : IntKind.i64.wrap b = x.hi) : [A.int .i64 (IntKind.i64.wrap a), A.int .i64 (IntKind.i64.wrap b)] = x.cells := by
  rw [hx, hy]; rfl
theorem w4 {k : Nat} (hk : k < 1000) : IntKind.i64.wrap (4 * (k : Int)) = 4 * k := wrap_i64 (by omega) (by omega)
theorem w4a {k : Nat} (hk : k < 1000) {c : Int} (h0 : 0 ≤ c) (h9 : c ≤ 9) : IntKind.i64.wrap (IntKind.i64.wrap (4 * (k : Int)) + c) = 4 * k + c := by
  rw [w4 hk]; exact wrap_i64 (by omega) (by omega)
theorem w4z {k : Nat} (hk : k < 1000) : IntKind.i64.wrap (4 * (k : Int)) = 4 * k + 0 := by rw [w4 hk]; omega
theorem manyApart_ok : FnOK Try.prog 3 [.bool true] (.bool true, none) := by
  refine fn_ok CN rfl (by kernel_rfl) Try.func3 rfl ?_
  refine Sat.go (Eq.refl _) ?_
  refine NS.loop (σ := { k : Nat // k ≤ 1000 }) (fun k => [(0, .bool true), (3, .own 3), (4, .own 4), (8, .int .i64 k.1)]) (fun k => [(3, .row 24 2 k.1 (rowL Spn.cells (manyL 4 0 1 k.1))), (4, .row 24 2 k.1 (rowL Spn.cells (manyL 4 2 3 k.1)))]) (fun k => 1000 - k.1) ⟨0, Nat.zero_le _⟩ ?_ ?_
  · exact ((weak_promote 3 3 24 2 (rowL Spn.cells []) rfl rfl).trans (weak_promote 4 4 24 2 (rowL Spn.cells []) rfl rfl)).trans (weak_hd [] rfl ⟨.inl rfl, rfl, rfl, rfl, trivial⟩ ⟨ren_row rfl rfl (fun i hi => absurd hi (Nat.not_lt_zero _)), ren_row rfl rfl (fun i hi => absurd hi (Nat.not_lt_zero _)), trivial⟩ trivial (by kernel_rfl))
  rintro ⟨k, hk⟩
  refine Sat.go (Eq.refl _) (NS.ite (fun h => ?_) (fun h => ?_))
  · have h : k < 1000 := by simp at h; omega
    refine Sat.go (Eq.refl _) (NS.need (decide_eq_true (by simp only [maxRow]; omega)) ?_)
    refine Sat.go (Eq.refl _) (NS.yes rfl ?_)
    refine Sat.go (Eq.refl _) (NS.need (decide_eq_true (by simp only [maxRow]; omega)) ?_)
    refine Sat.go (Eq.refl _) (NS.next ⟨k + 1, by omega⟩ (by simp; omega) ?_)
    exact weak_hd [(3, 19), (4, 30)] rfl ⟨.inl rfl, rfl, rfl, ren_int rfl (i64_k (k := k) (n := 1000) (by omega) (by omega)), trivial⟩ ⟨ren_row rfl rfl fun i hi j hj => many_row (s := 4) (u := 0) (v := 1) (cells_w h (w4z h) (w4a h (by omega) (by omega))) i hi j hj, ren_row rfl rfl fun i hi j hj => many_row (s := 4) (u := 2) (v := 3) (cells_w h (w4a h (by omega) (by omega)) (w4a h (by omega) (by omega))) i hi j hj, trivial⟩ trivial (by kernel_rfl)
  have h : 1000 ≤ k := by simp at h; omega
  have hk' : k = 1000 := by omega
  have ca := many_chk (s := 4) (u := 0) (v := 1) (by omega) (by omega) (by omega) (by omega) (by omega) hk' (by omega)
  have cb := many_chk (s := 4) (u := 2) (v := 3) (by omega) (by omega) (by omega) (by omega) (by omega) hk' (by omega)
  have la := many_len 4 0 1 k
  have lb := many_len 4 2 3 k
  have hc : combL fU (manyL 4 0 1 k) (manyL 4 2 3 k) = manyL 2 0 1 (2 * k) := many_apart hk'
  have hm : combM fU (manyL 4 0 1 k) (manyL 4 2 3 k) = ([], 4) := by
    unfold combM; rw [ca, cb, hc, if_neg (by simp), if_pos (by rw [many_len]; omega)]
  have c1 := Union_ok (manyL 4 0 1 k) (manyL 4 2 3 k)
  rw [hm] at c1
  refine Sat.go (Eq.refl _) (NS.leave rfl (Eq.refl _) ?_)
  refine Sat.wk ((weak_freeze 3 3 rfl rfl).trans (weak_freeze 4 4 rfl rfl)) ?_
  refine Sat.go (Eq.refl _) (NS.call (c1.le (LeL.cons (LeA.sl (by rw [la]) fun _ _ _ _ => rfl) (LeL.cons (LeA.sl (by rw [lb]) fun _ _ _ _ => rfl) LeL.nil))) rfl ?_)
  refine Sat.go (Eq.refl _) (NS.yes rfl ?_)
  refine Sat.go (Eq.refl _) (NS.yes rfl ?_)
  refine Sat.go (Eq.refl _) (NS.yes rfl ?_)
  refine Sat.go (Eq.refl _) (NS.call awake_ok rfl ?_)
  exact Sat.go (Eq.refl _) (NS.ret rfl rfl (LeA.of rfl))
theorem manyNear_ok : FnOK Try.prog 3 [.bool false] (.bool true, none) := by
  refine fn_ok CN rfl (by kernel_rfl) Try.func3 rfl ?_
  refine Sat.go (Eq.refl _) ?_
  refine NS.loop (σ := { k : Nat // k ≤ 1000 }) (fun k => [(0, .bool false), (3, .own 3), (4, .own 4), (8, .int .i64 k.1)]) (fun k => [(3, .row 24 2 k.1 (rowL Spn.cells (manyL 4 0 1 k.1))), (4, .row 24 2 k.1 (rowL Spn.cells (manyL 4 0 2 k.1)))]) (fun k => 1000 - k.1) ⟨0, Nat.zero_le _⟩ ?_ ?_
  · exact ((weak_promote 3 3 24 2 (rowL Spn.cells []) rfl rfl).trans (weak_promote 4 4 24 2 (rowL Spn.cells []) rfl rfl)).trans (weak_hd [] rfl ⟨.inl rfl, rfl, rfl, rfl, trivial⟩ ⟨ren_row rfl rfl (fun i hi => absurd hi (Nat.not_lt_zero _)), ren_row rfl rfl (fun i hi => absurd hi (Nat.not_lt_zero _)), trivial⟩ trivial (by kernel_rfl))
  rintro ⟨k, hk⟩
  refine Sat.go (Eq.refl _) (NS.ite (fun h => ?_) (fun h => ?_))
  · have h : k < 1000 := by simp at h; omega
    refine Sat.go (Eq.refl _) (NS.need (decide_eq_true (by simp only [maxRow]; omega)) ?_)
    refine Sat.go (Eq.refl _) (NS.no rfl ?_)
    refine Sat.go (Eq.refl _) (NS.need (decide_eq_true (by simp only [maxRow]; omega)) ?_)
    refine Sat.go (Eq.refl _) (NS.next ⟨k + 1, by omega⟩ (by simp; omega) ?_)
    exact weak_hd [(3, 19), (4, 39)] rfl ⟨.inl rfl, rfl, rfl, ren_int rfl (i64_k (k := k) (n := 1000) (by omega) (by omega)), trivial⟩ ⟨ren_row rfl rfl fun i hi j hj => many_row (s := 4) (u := 0) (v := 1) (cells_w h (w4z h) (w4a h (by omega) (by omega))) i hi j hj, ren_row rfl rfl fun i hi j hj => many_row (s := 4) (u := 0) (v := 2) (cells_w h (w4z h) (w4a h (by omega) (by omega))) i hi j hj, trivial⟩ trivial (by kernel_rfl)
  have h : 1000 ≤ k := by simp at h; omega
  have hk' : k = 1000 := by omega
  have ca := many_chk (s := 4) (u := 0) (v := 1) (by omega) (by omega) (by omega) (by omega) (by omega) hk' (by omega)
  have cb := many_chk (s := 4) (u := 0) (v := 2) (by omega) (by omega) (by omega) (by omega) (by omega) hk' (by omega)
  have la := many_len 4 0 1 k
  have lb := many_len 4 0 2 k
  have hc : combL fU (manyL 4 0 1 k) (manyL 4 0 2 k) = manyL 4 0 2 k := many_union hk'
  have hm : combM fU (manyL 4 0 1 k) (manyL 4 0 2 k) = (manyL 4 0 2 k, 0) := by
    unfold combM; rw [ca, cb, hc, if_neg (by simp), if_neg (by rw [many_len]; omega)]
  have c1 := Union_ok (manyL 4 0 1 k) (manyL 4 0 2 k)
  rw [hm] at c1
  refine Sat.go (Eq.refl _) (NS.leave rfl (Eq.refl _) ?_)
  refine Sat.wk ((weak_freeze 3 3 rfl rfl).trans (weak_freeze 4 4 rfl rfl)) ?_
  refine Sat.go (Eq.refl _) (NS.call (c1.le (LeL.cons (LeA.sl (by rw [la]) fun _ _ _ _ => rfl) (LeL.cons (LeA.sl (by rw [lb]) fun _ _ _ _ => rfl) LeL.nil))) rfl ?_)
  refine Sat.go (Eq.refl _) (NS.no rfl ?_)
  refine Sat.go (Eq.refl _) (NS.call ((same_t (manyL 4 0 2 k) (by omega)).le (LeL.cons (LeA.refl _) (LeL.cons (LeA.sl (by rw [lb]) fun _ _ _ _ => rfl) LeL.nil))) rfl ?_)
  refine Sat.go (Eq.refl _) (NS.yes rfl ?_)
  refine Sat.go (Eq.refl _) (NS.yes rfl ?_)
  refine Sat.go (Eq.refl _) (NS.call awake_ok rfl ?_)
  exact Sat.go (Eq.refl _) (NS.ret rfl rfl (LeA.of rfl))
theorem intervalMany_ok (b : Bool) : FnOK Try.prog 3 [.bool b] (.bool true, none) := by
  cases b
  · exact manyNear_ok
  · exact manyApart_ok
end Go.Proofs.Ytfbjgggminmhbaa
