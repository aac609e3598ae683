/- The contracts of Accept and Join, and of the reference's. -/
import Derived.Test.YtphegncldncaiaaPD
set_option linter.unusedSimpArgs false
set_option linter.unusedSectionVars false
set_option linter.unusedVariables false
namespace Go.Proofs.Ytphegncldncaiaa
open Go.Sy Go.Mb
set_option maxRecDepth 100000
set_option linter.unusedVariables false
set_option maxHeartbeats 1000000

theorem accM_1 {w : Win} {n : Int} (h : (chkW w != 0) = true) : accM w n = (⟨0, 0, []⟩, 1) := by unfold accM; rw [if_pos h]
theorem accM_2 {w : Win} {n : Int} (h : (chkW w != 0) = false) (h2 : (decide (n < 0) || decide (n > 1152921504606846976)) = true) : accM w n = (⟨0, 0, []⟩, 2) := by unfold accM; rw [if_neg (by rw [h]; simp), if_pos h2]
theorem accM_3 {w : Win} {n : Int} (h : (chkW w != 0) = false) (h2 : (decide (n < 0) || decide (n > 1152921504606846976)) = false) (h3 : refW w n = true) : accM w n = (⟨0, 0, []⟩, 23) := by unfold accM; rw [if_neg (by rw [h]; simp), if_neg (by rw [h2]; simp), if_pos h3]
theorem accM_4 {w : Win} {n : Int} (h : (chkW w != 0) = false) (h2 : (decide (n < 0) || decide (n > 1152921504606846976)) = false) (h3 : refW w n = false) : accM w n = (accW w n, 0) := by unfold accM; rw [if_neg (by rw [h]; simp), if_neg (by rw [h2]; simp), if_neg (by rw [h3]; simp)]
theorem own_le_win {s t : Int} {l : List Int} {n : Nat} {el : Nat → Nat → A} (hn : n = l.length) (he : ∀ i, i < n → ∀ j, j < 1 → el i j = rowL nC l i j) : LeA (.agg [.int .i64 s, .int .i64 t, .sl 1 n el]) (.agg (Win.mk s t l).cells) :=
  LeA.agg (LeL.cons (LeA.refl _) (LeL.cons (LeA.refl _) (LeL.cons (LeA.sl hn he) LeL.nil)))
theorem accept_ok (w : Win) (n : Int) : FnOK Try.prog 14 [.agg w.cells, .int .i64 n] (.tup [.agg (accM w n).1.cells, .int .i64 (accM w n).2], none) := by
  refine fn_ok CN rfl (by kernel_rfl) Try.func14 rfl ?_
  refine Sat.go (Eq.refl _) (NS.call (check_ok w) rfl ?_)
  refine Sat.go (Eq.refl _) (NS.ite (fun h1 => ?_) (fun h1 => ?_))
  · exact Sat.go (Eq.refl _) (NS.ret rfl rfl (win_le (accM_1 h1) zero_le_win))
  have hg := (good_iff w).1 (by simpa using h1)
  have hl := good_len hg
  refine Sat.go (Eq.refl _) (NS.ite (fun h2 => ?_) (fun h2 => ?_))
  · exact Sat.go (Eq.refl _) (NS.ret rfl rfl (win_le (accM_2 h1 (by rw [show decide (n < 0) = true from h2]; rfl)) zero_le_win))
  refine Sat.go (Eq.refl _) (NS.ite (fun h3 => ?_) (fun h3 => ?_))
  · exact Sat.go (Eq.refl _) (NS.ret rfl rfl (win_le (accM_2 h1 (by rw [show decide (n > 1152921504606846976) = true from h3]; simp)) zero_le_win))
  have h23 : (decide (n < 0) || decide (n > 1152921504606846976)) = false := by rw [show decide (n < 0) = false from h2, show decide (n > 1152921504606846976) = false from h3]; rfl
  have hn : 0 ≤ n ∧ n ≤ 1152921504606846976 := by simp at h23; exact h23
  refine Sat.go (Eq.refl _) (NS.call (refuses_ok n hg) rfl ?_)
  refine Sat.go (Eq.refl _) (NS.ite (fun h4 => ?_) (fun h4 => ?_))
  · exact Sat.go (Eq.refl _) (NS.ret rfl rfl (win_le (accM_3 h1 h23 h4) zero_le_win))
  have c5 := window_ok w.size (w.seen ++ [n]) ⟨hg.s1, hg.s2⟩ (fun x hx => by
    rcases List.mem_append.1 hx with hx | hx
    · have := hg.mem x hx; have := hg.t2; omega
    · rw [List.mem_singleton.1 hx]; exact hn) (by simp) (by simp; omega)
  rw [acc_win hg h4 hn.1] at c5
  refine Sat.go (Eq.refl _) (NS.chk (by kernel_rfl) ?_)
  refine Sat.go (Eq.refl _) (NS.call (cloneN_ok w.seen (by omega)) rfl ?_)
  refine Sat.go (Eq.refl _) (NS.need (decide_eq_true (by simp only [maxRow]; omega)) ?_)
  refine Sat.go (Eq.refl _) (NS.call (c5.le (LeL.cons (LeA.refl _) (LeL.cons (LeA.sl (by simp) fun i hi j hj => row_snoc (cells := nC) (l := w.seen) (x := n) rfl i hi j hj) LeL.nil))) rfl ?_)
  exact Sat.go (Eq.refl _) (NS.ret rfl rfl (win_le (accM_4 h1 h23 h4) (own_le_win rfl fun _ _ _ _ => rfl)))
theorem rAccept_ok (w : Win) (n : Int) : FnOK Try.prog 15 [.agg w.cells, .int .i64 n] (.tup [.agg (accM w n).1.cells, .int .i64 (accM w n).2], none) := by
  refine fn_ok CN rfl (by kernel_rfl) Try.func15 rfl ?_
  refine Sat.go (Eq.refl _) (NS.call (rCheck_ok w) rfl ?_)
  refine Sat.go (Eq.refl _) (NS.ite (fun h1 => ?_) (fun h1 => ?_))
  · exact Sat.go (Eq.refl _) (NS.ret rfl rfl (win_le (accM_1 h1) zero_le_win))
  have hg := (good_iff w).1 (by simpa using h1)
  have hl := good_len hg
  refine Sat.go (Eq.refl _) (NS.ite (fun h2 => ?_) (fun h2 => ?_))
  · exact Sat.go (Eq.refl _) (NS.ret rfl rfl (win_le (accM_2 h1 (by rw [show decide (n < 0) = true from h2]; rfl)) zero_le_win))
  refine Sat.go (Eq.refl _) (NS.ite (fun h3 => ?_) (fun h3 => ?_))
  · exact Sat.go (Eq.refl _) (NS.ret rfl rfl (win_le (accM_2 h1 (by rw [show decide (n > 1152921504606846976) = true from h3]; simp)) zero_le_win))
  have h23 : (decide (n < 0) || decide (n > 1152921504606846976)) = false := by rw [show decide (n < 0) = false from h2, show decide (n > 1152921504606846976) = false from h3]; rfl
  have hn : 0 ≤ n ∧ n ≤ 1152921504606846976 := by simp at h23; exact h23
  refine Sat.go (Eq.refl _) (NS.call (rRefuses_ok n hg) rfl ?_)
  refine Sat.go (Eq.refl _) (NS.ite (fun h4 => ?_) (fun h4 => ?_))
  · exact Sat.go (Eq.refl _) (NS.ret rfl rfl (win_le (accM_3 h1 h23 h4) zero_le_win))
  rw [accM_4 h1 h23 h4]
  have emx : (if n > w.top then n else w.top) = max w.top n := by split <;> omega
  have ets : IntKind.i64.wrap (max w.top n - w.size) = max w.top n - w.size := by
    have := hg.s1
    have := hg.s2
    have := hg.t1
    have := hg.t2
    exact wrap_i64 (by omega) (by omega)
  refine Sat.go (Eq.refl _) ?_
  rw [emx]
  generalize hA : w.seen.filter (fun x => decide (x < n) && decide (x > max w.top n - w.size)) = fa
  have hfl : fa.length ≤ 64 := by rw [← hA]; exact Nat.le_trans (List.length_filter_le _ _) hl
  refine NS.loop (σ := { k : Nat // k ≤ w.seen.length }) (fun k => [(1, .int .i64 n), (2, .ptr 2 0), (4, .ptr 4 0), (6, .ptr 6 0), (7, .int .i64 k.1)]) (fun k => [(2, .box w.cells), (4, .box [.int .i64 0, .int .i64 0, .nils]), (6, .box [.int .i64 w.size, .int .i64 (max w.top n), .own 3]), (3, .row 3 1 ((w.seen.take k.1).filter fun x => decide (x < n) && decide (x > max w.top n - w.size)).length (rowL nC ((w.seen.take k.1).filter fun x => decide (x < n) && decide (x > max w.top n - w.size))))]) (fun k => w.seen.length - k.1) ⟨0, Nat.zero_le _⟩ ?_ ?_
  · refine (weak_promoteB 6 2 3 3 1 (rowL nC []) rfl rfl rfl).trans ?_
    exact weak_hd [] rfl ⟨rfl, rfl, rfl, rfl, rfl, trivial⟩ ⟨⟨_, rfl, ren_win _ _⟩, ⟨_, rfl, _, _, rfl, rfl, _, _, rfl, rfl, _, _, rfl, rfl, rfl⟩, ⟨_, rfl, _, _, rfl, rfl, _, _, rfl, rfl, _, _, rfl, rfl, rfl⟩, ren_row rfl rfl fun _ _ _ _ => rfl, trivial⟩ trivial (by kernel_rfl)
  rintro ⟨k, hk⟩
  have hlen : ((w.seen.take k).filter fun x => decide (x < n) && decide (x > max w.top n - w.size)).length ≤ 1000000 := Nat.le_trans (List.length_filter_le _ _) (by simp; omega)
  refine Sat.go (Eq.refl _) (NS.ite (fun h5 => ?_) (fun h5 => ?_))
  · have h5 : k < w.seen.length := by simpa using h5
    have ek : IntKind.i64.wrap ((k : Int) + 1) = ((k + 1 : Nat) : Int) := i64_k (k := k) (n := 100) (by omega) (by omega)
    have hsn := filter_take (p := fun x => decide (x < n) && decide (x > max w.top n - w.size)) h5
    refine Sat.go (Eq.refl _) (NS.chk (by kernel_rfl) ?_)
    refine Sat.go (Eq.refl _) (NS.need (by simp; omega) ?_)
    refine Sat.go (Eq.refl _) (NS.ite (fun h6 => ?_) (fun h6 => ?_))
    · have h6 : decide (w.seen.getD k default < n) = true := h6
      refine Sat.go (Eq.refl _) (NS.need (by simp; omega) ?_)
      refine Sat.go (Eq.refl _) (NS.ite (fun h7 => ?_) (fun h7 => ?_))
      · rw [ets] at h7
        have h7 : decide (w.seen.getD k default > max w.top n - w.size) = true := h7
        rw [if_pos (by rw [h6, h7]; rfl)] at hsn
        refine Sat.go (Eq.refl _) (NS.chk (by kernel_rfl) ?_)
        refine Sat.go (Eq.refl _) (NS.need (by simp; omega) ?_)
        refine Sat.go (Eq.refl _) (NS.need (decide_eq_true (by simp only [maxRow]; omega)) ?_)
        refine Sat.go (Eq.refl _) (NS.next ⟨k + 1, by omega⟩ (by simp; omega) ?_)
        refine weak_hd [(3, 66)] rfl ⟨rfl, rfl, rfl, rfl, ren_int rfl ek, trivial⟩ ⟨⟨_, rfl, ren_win _ _⟩, ⟨_, rfl, _, _, rfl, rfl, _, _, rfl, rfl, _, _, rfl, rfl, rfl⟩, ⟨_, rfl, _, _, rfl, rfl, _, _, rfl, rfl, _, _, rfl, rfl, rfl⟩, ?_, trivial⟩ trivial (by kernel_rfl)
        simp only [hsn]
        exact ren_row rfl (by simp) (fun i hi j hj => row_snoc (cells := nC) (x := w.seen.getD k default) rfl i (by simpa using hi) j hj)
      · rw [ets] at h7
        have h7 : decide (w.seen.getD k default > max w.top n - w.size) = false := h7
        rw [if_neg (by rw [h6, h7]; simp), List.append_nil] at hsn
        refine Sat.go (Eq.refl _) (NS.next ⟨k + 1, by omega⟩ (by simp; omega) ?_)
        refine weak_hd [] rfl ⟨rfl, rfl, rfl, rfl, ren_int rfl ek, trivial⟩ ⟨⟨_, rfl, ren_win _ _⟩, ⟨_, rfl, _, _, rfl, rfl, _, _, rfl, rfl, _, _, rfl, rfl, rfl⟩, ⟨_, rfl, _, _, rfl, rfl, _, _, rfl, rfl, _, _, rfl, rfl, rfl⟩, ?_, trivial⟩ trivial (by kernel_rfl)
        simp only [hsn]
        exact ren_row rfl rfl fun _ _ _ _ => rfl
    · have h6 : decide (w.seen.getD k default < n) = false := h6
      rw [if_neg (by rw [h6]; simp), List.append_nil] at hsn
      refine Sat.go (Eq.refl _) (NS.next ⟨k + 1, by omega⟩ (by simp; omega) ?_)
      refine weak_hd [] rfl ⟨rfl, rfl, rfl, rfl, ren_int rfl ek, trivial⟩ ⟨⟨_, rfl, ren_win _ _⟩, ⟨_, rfl, _, _, rfl, rfl, _, _, rfl, rfl, _, _, rfl, rfl, rfl⟩, ⟨_, rfl, _, _, rfl, rfl, _, _, rfl, rfl, _, _, rfl, rfl, rfl⟩, ?_, trivial⟩ trivial (by kernel_rfl)
      simp only [hsn]
      exact ren_row rfl rfl fun _ _ _ _ => rfl
  obtain rfl : k = w.seen.length := by have h5 : ¬ k < w.seen.length := by simpa using h5
                                       omega
  refine Sat.go (Eq.refl _) (NS.leave rfl (Eq.refl _) ?_)
  refine Sat.go (Eq.refl _) (NS.need (decide_eq_true (by simp only [maxRow]; omega)) ?_)
  have hA' : (w.seen.take w.seen.length).filter (fun x => decide (x < n) && decide (x > max w.top n - w.size)) = fa := by rw [List.take_length, hA]
  refine Sat.go (Eq.refl _) ?_
  refine NS.loop (σ := { k : Nat // k ≤ w.seen.length }) (fun k => [(1, .int .i64 n), (2, .ptr 2 0), (4, .ptr 4 0), (6, .ptr 6 0), (8, .int .i64 k.1)]) (fun k => [(2, .box w.cells), (4, .box [.int .i64 0, .int .i64 0, .nils]), (6, .box [.int .i64 w.size, .int .i64 (max w.top n), .own 3]), (3, .row 3 1 (fa ++ n :: (w.seen.take k.1).filter fun x => decide (x > n)).length (rowL nC (fa ++ n :: (w.seen.take k.1).filter fun x => decide (x > n))))]) (fun k => w.seen.length - k.1) ⟨0, Nat.zero_le _⟩ ?_ ?_
  · refine weak_hd [(3, 72)] rfl ⟨rfl, rfl, rfl, rfl, rfl, trivial⟩ ⟨⟨_, rfl, ren_win _ _⟩, ⟨_, rfl, _, _, rfl, rfl, _, _, rfl, rfl, _, _, rfl, rfl, rfl⟩, ⟨_, rfl, _, _, rfl, rfl, _, _, rfl, rfl, _, _, rfl, rfl, rfl⟩, ?_, trivial⟩ trivial (by kernel_rfl)
    simp only [hA', List.take_zero, List.filter_nil]
    exact ren_row rfl (by simp) (fun i hi j hj => row_snoc (cells := nC) (x := n) rfl i (by simpa using hi) j hj)
  rintro ⟨k, hk⟩
  have hlen : (fa ++ n :: (w.seen.take k).filter fun x => decide (x > n)).length ≤ 1000000 := by
    have : ((w.seen.take k).filter fun x => decide (x > n)).length ≤ 64 := Nat.le_trans (List.length_filter_le _ _) (by simp; omega)
    simp only [List.length_append, List.length_cons]; omega
  refine Sat.go (Eq.refl _) (NS.ite (fun h5 => ?_) (fun h5 => ?_))
  · have h5 : k < w.seen.length := by simpa using h5
    have ek : IntKind.i64.wrap ((k : Int) + 1) = ((k + 1 : Nat) : Int) := i64_k (k := k) (n := 100) (by omega) (by omega)
    have hsn := filter_take (p := fun x => decide (x > n)) h5
    refine Sat.go (Eq.refl _) (NS.need (by simp; omega) ?_)
    refine Sat.go (Eq.refl _) (NS.ite (fun h6 => ?_) (fun h6 => ?_))
    · have h6 : decide (w.seen.getD k default > n) = true := h6
      rw [if_pos h6] at hsn
      refine Sat.go (Eq.refl _) (NS.chk (by kernel_rfl) ?_)
      refine Sat.go (Eq.refl _) (NS.need (by simp; omega) ?_)
      refine Sat.go (Eq.refl _) (NS.need (decide_eq_true (by simp only [maxRow]; omega)) ?_)
      refine Sat.go (Eq.refl _) (NS.next ⟨k + 1, by omega⟩ (by simp; omega) ?_)
      refine weak_hd [(3, 96)] rfl ⟨rfl, rfl, rfl, rfl, ren_int rfl ek, trivial⟩ ⟨⟨_, rfl, ren_win _ _⟩, ⟨_, rfl, _, _, rfl, rfl, _, _, rfl, rfl, _, _, rfl, rfl, rfl⟩, ⟨_, rfl, _, _, rfl, rfl, _, _, rfl, rfl, _, _, rfl, rfl, rfl⟩, ?_, trivial⟩ trivial (by kernel_rfl)
      simp only [hsn]
      have e0 : fa ++ n :: ((w.seen.take k).filter (fun x => decide (x > n)) ++ [w.seen.getD k default]) = (fa ++ n :: (w.seen.take k).filter fun x => decide (x > n)) ++ [w.seen.getD k default] := by simp
      rw [e0]
      exact ren_row rfl (by rw [List.length_append (bs := [_])]; rfl) (fun i hi j hj => row_snoc (cells := nC) (x := w.seen.getD k default) rfl i (by rw [List.length_append (bs := [_])] at hi; exact hi) j hj)
    · have h6 : decide (w.seen.getD k default > n) = false := h6
      rw [if_neg (by rw [h6]; simp), List.append_nil] at hsn
      refine Sat.go (Eq.refl _) (NS.next ⟨k + 1, by omega⟩ (by simp; omega) ?_)
      refine weak_hd [] rfl ⟨rfl, rfl, rfl, rfl, ren_int rfl ek, trivial⟩ ⟨⟨_, rfl, ren_win _ _⟩, ⟨_, rfl, _, _, rfl, rfl, _, _, rfl, rfl, _, _, rfl, rfl, rfl⟩, ⟨_, rfl, _, _, rfl, rfl, _, _, rfl, rfl, _, _, rfl, rfl, rfl⟩, ?_, trivial⟩ trivial (by kernel_rfl)
      simp only [hsn]
      exact ren_row rfl rfl fun _ _ _ _ => rfl
  obtain rfl : k = w.seen.length := by have h5 : ¬ k < w.seen.length := by simpa using h5
                                       omega
  refine Sat.go (Eq.refl _) (NS.leave rfl (Eq.refl _) ?_)
  have hw : accW w n = ⟨w.size, max w.top n, fa ++ n :: (w.seen.take w.seen.length).filter fun x => decide (x > n)⟩ := by unfold accW; rw [hA, List.take_length]
  exact Sat.go (Eq.refl _) (NS.ret rfl rfl (win_le rfl (by rw [hw]; exact own_le_win rfl fun _ _ _ _ => rfl)))
theorem joinM_1 {a b : Win} (h : (chkW a != 0 || chkW b != 0) = true) : joinM a b = (⟨0, 0, []⟩, 1) := by unfold joinM; rw [if_pos h]
theorem joinM_2 {a b : Win} (h : (chkW a != 0 || chkW b != 0) = false) (h2 : (a.size != b.size) = true) : joinM a b = (⟨0, 0, []⟩, 10) := by unfold joinM; rw [if_neg (by rw [h]; simp), if_pos h2]
theorem joinM_3 {a b : Win} (h : (chkW a != 0 || chkW b != 0) = false) (h2 : (a.size != b.size) = false) : joinM a b = (joinW a b, 0) := by unfold joinM; rw [if_neg (by rw [h]; simp), if_neg (by rw [h2]; simp)]
theorem join_ok (a b : Win) : FnOK Try.prog 21 [.agg a.cells, .agg b.cells] (.tup [.agg (joinM a b).1.cells, .int .i64 (joinM a b).2], none) := by
  refine fn_ok CN rfl (by kernel_rfl) Try.func21 rfl ?_
  refine Sat.go (Eq.refl _) (NS.call (check_ok a) rfl ?_)
  refine Sat.go (Eq.refl _) (NS.ite (fun h1 => ?_) (fun h1 => ?_))
  · exact Sat.go (Eq.refl _) (NS.ret rfl rfl (win_le (joinM_1 (by rw [h1]; rfl)) zero_le_win))
  refine Sat.go (Eq.refl _) (NS.call (check_ok b) rfl ?_)
  refine Sat.go (Eq.refl _) (NS.ite (fun h2 => ?_) (fun h2 => ?_))
  · exact Sat.go (Eq.refl _) (NS.ret rfl rfl (win_le (joinM_1 (by rw [h1, h2]; rfl)) zero_le_win))
  have h12 : (chkW a != 0 || chkW b != 0) = false := by rw [h1, h2]; rfl
  have ha := (good_iff a).1 (by simpa using h1)
  have hb := (good_iff b).1 (by simpa using h2)
  have la := good_len ha
  have lb := good_len hb
  refine Sat.go (Eq.refl _) (NS.ite (fun h3 => ?_) (fun h3 => ?_))
  · exact Sat.go (Eq.refl _) (NS.ret rfl rfl (win_le (joinM_2 h12 h3) zero_le_win))
  have hs : a.size = b.size := by have h3 : (a.size != b.size) = false := h3
                                  simpa using h3
  have hw := join_win ha hb hs
  refine Sat.go (Eq.refl _) (NS.chk (by kernel_rfl) ?_)
  refine Sat.go (Eq.refl _) (NS.call (cloneN_ok a.seen (by omega)) rfl ?_)
  refine Sat.go (Eq.refl _) (NS.need (decide_eq_true (by simp only [maxRow]; omega)) ?_)
  by_cases hne : a.seen ++ b.seen = []
  · obtain ⟨e1, e2⟩ := List.append_eq_nil_iff.1 hne
    rw [hne] at hw
    refine Sat.go (Eq.refl _) (NS.call ((window0_ok a.size).le (LeL.cons (LeA.refl _) (LeL.cons (LeA.sl (by rw [e1, e2]; rfl) fun i hi j hj => by rw [e1, e2] at hi; simp at hi) LeL.nil))) rfl ?_)
    exact Sat.go (Eq.refl _) (NS.ret rfl rfl (win_le (joinM_3 h12 h3) (by rw [← hw]; exact nil_le_win _ _)))
  have c5 := window_ok a.size (a.seen ++ b.seen) ⟨ha.s1, ha.s2⟩ (fun x hx => by
    rcases List.mem_append.1 hx with hx | hx
    · have := ha.mem x hx; have := ha.t2; omega
    · have := hb.mem x hx; have := hb.t2; omega) hne (by simp; omega)
  rw [hw] at c5
  refine Sat.go (Eq.refl _) (NS.call (c5.le (LeL.cons (LeA.refl _) (LeL.cons (LeA.sl (by simp) fun i hi j hj => rowL_append nC a.seen b.seen i j) LeL.nil))) rfl ?_)
  exact Sat.go (Eq.refl _) (NS.ret rfl rfl (win_le (joinM_3 h12 h3) (own_le_win rfl fun _ _ _ _ => rfl)))
/-- The first k numbers from lo on with a property. -/
def fromK (p : Int → Bool) (lo : Int) (k : Nat) : List Int := ((List.range k).map fun (k : Nat) => lo + (k : Int)).filter p
theorem fromK_snoc (p : Int → Bool) (lo : Int) (k : Nat) : fromK p lo (k + 1) = fromK p lo k ++ (if p (lo + (k : Int)) then [lo + (k : Int)] else []) := by
  unfold fromK; rw [List.range_succ, List.map_append, List.filter_append]; congr 1; simp [List.filter_cons]
theorem fromK_len (p : Int → Bool) (lo : Int) (k : Nat) : (fromK p lo k).length ≤ k := by
  unfold fromK; exact Nat.le_trans (List.length_filter_le _ _) (by simp)
theorem rJoin_ok (a b : Win) : FnOK Try.prog 22 [.agg a.cells, .agg b.cells] (.tup [.agg (joinM a b).1.cells, .int .i64 (joinM a b).2], none) := by
  refine fn_ok CN rfl (by kernel_rfl) Try.func22 rfl ?_
  refine Sat.go (Eq.refl _) (NS.call (rCheck_ok a) rfl ?_)
  refine Sat.go (Eq.refl _) (NS.ite (fun h1 => ?_) (fun h1 => ?_))
  · exact Sat.go (Eq.refl _) (NS.ret rfl rfl (win_le (joinM_1 (by rw [h1]; rfl)) zero_le_win))
  refine Sat.go (Eq.refl _) (NS.call (rCheck_ok b) rfl ?_)
  refine Sat.go (Eq.refl _) (NS.ite (fun h2 => ?_) (fun h2 => ?_))
  · exact Sat.go (Eq.refl _) (NS.ret rfl rfl (win_le (joinM_1 (by rw [h1, h2]; rfl)) zero_le_win))
  have h12 : (chkW a != 0 || chkW b != 0) = false := by rw [h1, h2]; rfl
  have ha := (good_iff a).1 (by simpa using h1)
  have hb := (good_iff b).1 (by simpa using h2)
  refine Sat.go (Eq.refl _) (NS.ite (fun h3 => ?_) (fun h3 => ?_))
  · exact Sat.go (Eq.refl _) (NS.ret rfl rfl (win_le (joinM_2 h12 h3) zero_le_win))
  have hs : a.size = b.size := by have h3 : (a.size != b.size) = false := h3
                                  simpa using h3
  have a1 := ha.t1
  have a2 := ha.t2
  have b1 := hb.t1
  have b2 := hb.t2
  have s1 := ha.s1
  have s2 := ha.s2
  have emx : (if b.top > a.top then b.top else a.top) = max a.top b.top := by split <;> omega
  have elo : (if IntKind.i64.wrap (IntKind.i64.wrap (max a.top b.top - a.size) + 1) > 0 then IntKind.i64.wrap (IntKind.i64.wrap (max a.top b.top - a.size) + 1) else 0) = max 0 (max a.top b.top - a.size + 1) := by
    rw [wrap_i64 (n := max a.top b.top - a.size) (by omega) (by omega), wrap_i64 (by omega) (by omega)]
    split <;> omega
  rw [joinM_3 h12 h3]
  have hJ : joinW a b = ⟨a.size, max a.top b.top, fromK (fun n => refW a n || refW b n) (max 0 (max a.top b.top - a.size + 1)) (max a.top b.top - max 0 (max a.top b.top - a.size + 1) + 1).toNat⟩ := rfl
  refine Sat.go (Eq.refl _) ?_
  rw [emx]
  generalize hT : max a.top b.top = T at *
  generalize hLo : max 0 (T - a.size + 1) = lo at *
  refine NS.loop (σ := { k : Nat // k ≤ (T - lo + 1).toNat }) (fun k => [(2, .ptr 2 0), (3, .ptr 3 0), (4, .ptr 4 0), (6, .ptr 6 0), (7, .int .i64 (lo + k.1))]) (fun k => [(2, .box a.cells), (3, .box b.cells), (4, .box [.int .i64 0, .int .i64 0, .nils]), (6, .box [.int .i64 a.size, .int .i64 T, .own 5]), (5, .row 3 1 (fromK (fun n => refW a n || refW b n) lo k.1).length (rowL nC (fromK (fun n => refW a n || refW b n) lo k.1)))]) (fun k => (T - lo + 1).toNat - k.1) ⟨0, Nat.zero_le _⟩ ?_ ?_
  · refine (weak_promoteB 6 2 5 3 1 (rowL nC []) rfl rfl rfl).trans ?_
    exact weak_hd [] rfl ⟨rfl, rfl, rfl, rfl, ren_int rfl (by rw [elo]; simp), trivial⟩ ⟨⟨_, rfl, ren_win _ _⟩, ⟨_, rfl, ren_win _ _⟩, ⟨_, rfl, _, _, rfl, rfl, _, _, rfl, rfl, _, _, rfl, rfl, rfl⟩, ⟨_, rfl, _, _, rfl, rfl, _, _, rfl, rfl, _, _, rfl, rfl, rfl⟩, ren_row rfl rfl fun _ _ _ _ => rfl, trivial⟩ trivial (by kernel_rfl)
  rintro ⟨k, hk⟩
  have hlen := fromK_len (fun n => refW a n || refW b n) lo k
  have hsn := fromK_snoc (fun n => refW a n || refW b n) lo k
  refine Sat.go (Eq.refl _) (NS.ite (fun h5 => ?_) (fun h5 => ?_))
  · have h5 : lo + (k : Int) ≤ T := of_decide_eq_true h5
    have ek : IntKind.i64.wrap (lo + (k : Int) + 1) = lo + ((k + 1 : Nat) : Int) := by rw [wrap_i64 (by omega) (by omega)]; omega
    have go1 : (refW a (lo + (k : Int)) || refW b (lo + (k : Int))) = true → fromK (fun n => refW a n || refW b n) lo (k + 1) = fromK (fun n => refW a n || refW b n) lo k ++ [lo + (k : Int)] := fun e => by rw [hsn, if_pos e]
    refine Sat.go (Eq.refl _) (NS.call (rRefuses_ok (lo + (k : Int)) ha) rfl ?_)
    refine Sat.go (Eq.refl _) (NS.ite (fun h6 => ?_) (fun h6 => ?_))
    · have hsn := go1 (by rw [h6]; rfl)
      refine Sat.go (Eq.refl _) (NS.need (decide_eq_true (by simp only [maxRow]; omega)) ?_)
      refine Sat.go (Eq.refl _) (NS.next ⟨k + 1, by omega⟩ (by simp only; omega) ?_)
      refine weak_hd [(5, 56)] rfl ⟨rfl, rfl, rfl, rfl, ren_int rfl ek, trivial⟩ ⟨⟨_, rfl, ren_win _ _⟩, ⟨_, rfl, ren_win _ _⟩, ⟨_, rfl, _, _, rfl, rfl, _, _, rfl, rfl, _, _, rfl, rfl, rfl⟩, ⟨_, rfl, _, _, rfl, rfl, _, _, rfl, rfl, _, _, rfl, rfl, rfl⟩, ?_, trivial⟩ trivial (by kernel_rfl)
      simp only [hsn]
      exact ren_row rfl (by simp) (fun i hi j hj => row_snoc (cells := nC) (x := lo + (k : Int)) rfl i (by simpa using hi) j hj)
    · refine Sat.go (Eq.refl _) (NS.call (rRefuses_ok (lo + (k : Int)) hb) rfl ?_)
      refine Sat.go (Eq.refl _) (NS.ite (fun h7 => ?_) (fun h7 => ?_))
      · have hsn := go1 (by rw [h6, h7]; rfl)
        refine Sat.go (Eq.refl _) (NS.need (decide_eq_true (by simp only [maxRow]; omega)) ?_)
        refine Sat.go (Eq.refl _) (NS.next ⟨k + 1, by omega⟩ (by simp only; omega) ?_)
        refine weak_hd [(5, 56)] rfl ⟨rfl, rfl, rfl, rfl, ren_int rfl ek, trivial⟩ ⟨⟨_, rfl, ren_win _ _⟩, ⟨_, rfl, ren_win _ _⟩, ⟨_, rfl, _, _, rfl, rfl, _, _, rfl, rfl, _, _, rfl, rfl, rfl⟩, ⟨_, rfl, _, _, rfl, rfl, _, _, rfl, rfl, _, _, rfl, rfl, rfl⟩, ?_, trivial⟩ trivial (by kernel_rfl)
        simp only [hsn]
        exact ren_row rfl (by simp) (fun i hi j hj => row_snoc (cells := nC) (x := lo + (k : Int)) rfl i (by simpa using hi) j hj)
      · rw [if_neg (by rw [h6, h7]; simp), List.append_nil] at hsn
        refine Sat.go (Eq.refl _) (NS.next ⟨k + 1, by omega⟩ (by simp only; omega) ?_)
        refine weak_hd [] rfl ⟨rfl, rfl, rfl, rfl, ren_int rfl ek, trivial⟩ ⟨⟨_, rfl, ren_win _ _⟩, ⟨_, rfl, ren_win _ _⟩, ⟨_, rfl, _, _, rfl, rfl, _, _, rfl, rfl, _, _, rfl, rfl, rfl⟩, ⟨_, rfl, _, _, rfl, rfl, _, _, rfl, rfl, _, _, rfl, rfl, rfl⟩, ?_, trivial⟩ trivial (by kernel_rfl)
        simp only [hsn]
        exact ren_row rfl rfl fun _ _ _ _ => rfl
  · obtain rfl : k = (T - lo + 1).toNat := by have h5 : ¬ lo + (k : Int) ≤ T := of_decide_eq_false h5
                                              omega
    refine Sat.go (Eq.refl _) (NS.leave rfl (Eq.refl _) ?_)
    exact Sat.go (Eq.refl _) (NS.ret rfl rfl (win_le rfl (by rw [hJ]; exact own_le_win rfl fun _ _ _ _ => rfl)))
theorem sameW_ok (v w : Win) (hl : v.seen.length ≤ 1000000) : FnOK Try.prog 16 [.agg v.cells, .agg w.cells] (.bool (v.size == w.size && (v.top == w.top && sameBy (· == ·) v.seen w.seen)), none) := by
  refine fn_ok CN rfl (by kernel_rfl) Try.func16 rfl ?_
  have hq : ∀ a b : Int, (a == b) = true ↔ a = b := fun _ _ => beq_iff_eq
  refine Sat.go (Eq.refl _) (NS.ite (fun h1 => ?_) (fun h1 => ?_))
  · have h1 : (v.size != w.size) = true := h1
    exact Sat.go (Eq.refl _) (NS.ret rfl rfl (LeA.of (congrArg A.bool (by rw [show (v.size == w.size) = false by simpa using h1]; rfl))))
  have h1 : (v.size == w.size) = true := by have h1 : (v.size != w.size) = false := h1
                                            simpa using h1
  rw [h1, Bool.true_and]
  refine Sat.go (Eq.refl _) (NS.ite (fun h2 => ?_) (fun h2 => ?_))
  · have h2 : (v.top != w.top) = true := h2
    exact Sat.go (Eq.refl _) (NS.ret rfl rfl (LeA.of (congrArg A.bool (by rw [show (v.top == w.top) = false by simpa using h2]; rfl))))
  have h2 : (v.top == w.top) = true := by have h2 : (v.top != w.top) = false := h2
                                          simpa using h2
  rw [h2, Bool.true_and]
  refine Sat.go (Eq.refl _) (NS.ite (fun h3 => ?_) (fun h3 => ?_))
  · exact Sat.go (Eq.refl _) (NS.ret rfl rfl (LeA.of (congrArg A.bool ((sameBy_len hq (by intro e; rw [e] at h3; simp at h3)).symm))))
  have hlm : v.seen.length = w.seen.length := by simp only [bne_eq_false_iff_eq] at h3; omega
  refine Sat.go (Eq.refl _) ?_
  refine NS.loop (σ := { k : Nat // k ≤ v.seen.length ∧ ∀ i, i < k → (v.seen.getD i default == w.seen.getD i default) = true }) (fun k => [(2, .ptr 2 0), (3, .ptr 3 0), (5, .int .i64 k.1)]) (fun _ => [(2, .box v.cells), (3, .box w.cells)]) (fun k => v.seen.length - k.1) ⟨0, Nat.zero_le _, fun i hi => by omega⟩ ?_ ?_
  · exact weak_hd [] rfl ⟨rfl, rfl, rfl, trivial⟩ ⟨⟨_, rfl, ren_win _ _⟩, ⟨_, rfl, ren_win _ _⟩, trivial⟩ trivial (by kernel_rfl)
  rintro ⟨k, hk, hn⟩
  refine Sat.go (Eq.refl _) (NS.ite (fun h => ?_) (fun h => ?_))
  · have h : k < v.seen.length := by simpa using h
    refine Sat.go (Eq.refl _) (NS.chk (by kernel_rfl) ?_)
    refine Sat.go (Eq.refl _) (NS.need (by simp; omega) ?_)
    refine Sat.go (Eq.refl _) (NS.need (by simp; omega) ?_)
    refine Sat.go (Eq.refl _) (NS.ite (fun h4 => ?_) (fun h4 => ?_))
    · have h4 : (v.seen.getD k default != w.seen.getD k default) = true := h4
      exact Sat.go (Eq.refl _) (NS.leaveOut rfl (Eq.refl _) (NS.ret rfl rfl (LeA.of (congrArg A.bool ((sameBy_f (k := k) hq (by simpa using h4)).symm)))))
    · have h4 : (v.seen.getD k default != w.seen.getD k default) = false := h4
      refine Sat.go (Eq.refl _) (NS.next ⟨k + 1, by omega, fun i hi => ?_⟩ (by simp; omega) ?_)
      · by_cases hik : i = k
        · rw [hik]; simpa using h4
        · exact hn i (by omega)
      · exact weak_hd [] rfl ⟨rfl, rfl, ren_int rfl (i64_k (k := k) (n := v.seen.length) (by omega) (by omega)), trivial⟩ ⟨⟨_, rfl, ren_win _ _⟩, ⟨_, rfl, ren_win _ _⟩, trivial⟩ trivial (by kernel_rfl)
  · have h : ¬ k < v.seen.length := by simpa using h
    refine Sat.go (Eq.refl _) (NS.leave rfl (Eq.refl _) ?_)
    exact Sat.go (Eq.refl _) (NS.ret rfl rfl (LeA.of (congrArg A.bool ((sameBy_t hq hlm fun i hi => hn i (by omega)).symm))))
theorem sameW_self (w : Win) (hl : w.seen.length ≤ 1000000) : FnOK Try.prog 16 [.agg w.cells, .agg w.cells] (.bool true, none) := by
  have := sameW_ok w w hl
  rw [(sameBy_iff (fun _ _ => beq_iff_eq)).2 rfl, show (w.size == w.size) = true by simp, show (w.top == w.top) = true by simp] at this
  exact this
end Go.Proofs.Ytphegncldncaiaa
