/- The walks of ReplayAccept, ReplayJoin and ReplayDisorder. -/
import Derived.Test.YtphegncldncaiaaPE
set_option linter.unusedSimpArgs false
set_option linter.unusedSectionVars false
set_option linter.unusedVariables false
namespace Go.Proofs.Ytphegncldncaiaa
open Go.Sy Go.Mb
set_option maxRecDepth 100000
set_option linter.unusedVariables false
set_option maxHeartbeats 1000000

theorem great_ok (w : Win) : FnOK Try.prog 10 [.agg w.cells] (.bool (decide ((w.seen.length : Int) > 70)), none) := by
  refine fn_ok CN rfl (by kernel_rfl) Try.func10 rfl ?_
  exact Sat.go (Eq.refl _) (NS.ret rfl rfl (LeA.refl _))
theorem awake_ok : FnOK Try.prog 11 [] (.bool true, none) := by
  have c0 := new_ok 3
  rw [show newM 3 = (⟨3, -1, []⟩, 0) by kernel_rfl] at c0
  have c1 := accept_ok ⟨3, -1, []⟩ 5
  rw [show accM ⟨3, -1, []⟩ 5 = (⟨3, 5, [5]⟩, 0) by kernel_rfl] at c1
  have c2 := accept_ok ⟨3, 5, [5]⟩ 4
  rw [show accM ⟨3, 5, [5]⟩ 4 = (⟨3, 5, [4, 5]⟩, 0) by kernel_rfl] at c2
  have c3 := accept_ok ⟨3, 5, [4, 5]⟩ 9
  rw [show accM ⟨3, 5, [4, 5]⟩ 9 = (⟨3, 9, [9]⟩, 0) by kernel_rfl] at c3
  have s2 := seen_ok ⟨3, 5, [4, 5]⟩ 2
  rw [show seenM ⟨3, 5, [4, 5]⟩ 2 = true by kernel_rfl] at s2
  have s4 := seen_ok ⟨3, 5, [4, 5]⟩ 4
  rw [show seenM ⟨3, 5, [4, 5]⟩ 4 = true by kernel_rfl] at s4
  have s3 := seen_ok ⟨3, 5, [4, 5]⟩ 3
  rw [show seenM ⟨3, 5, [4, 5]⟩ 3 = false by kernel_rfl] at s3
  have s6 := seen_ok ⟨3, 9, [9]⟩ 6
  rw [show seenM ⟨3, 9, [9]⟩ 6 = true by kernel_rfl] at s6
  have s7 := seen_ok ⟨3, 9, [9]⟩ 7
  rw [show seenM ⟨3, 9, [9]⟩ 7 = false by kernel_rfl] at s7
  refine fn_ok CN rfl (by kernel_rfl) Try.func11 rfl ?_
  refine Sat.go (Eq.refl _) (NS.call (c0) rfl ?_)
  refine Sat.go (Eq.refl _) (NS.call (c1) rfl ?_)
  refine Sat.go (Eq.refl _) (NS.call (c2) rfl ?_)
  refine Sat.go (Eq.refl _) (NS.no (rfl) ?_)
  refine Sat.go (Eq.refl _) (NS.no (rfl) ?_)
  refine Sat.go (Eq.refl _) (NS.no (rfl) ?_)
  refine Sat.go (Eq.refl _) (NS.call (s2) rfl ?_)
  refine Sat.go (Eq.refl _) (NS.no (rfl) ?_)
  refine Sat.go (Eq.refl _) (NS.call (s4) rfl ?_)
  refine Sat.go (Eq.refl _) (NS.no (rfl) ?_)
  refine Sat.go (Eq.refl _) (NS.call (s3) rfl ?_)
  refine Sat.go (Eq.refl _) (NS.no (rfl) ?_)
  refine Sat.go (Eq.refl _) (NS.call (c3) rfl ?_)
  refine Sat.go (Eq.refl _) (NS.yes (rfl) ?_)
  refine Sat.go (Eq.refl _) (NS.call (s6) rfl ?_)
  refine Sat.go (Eq.refl _) (NS.yes (rfl) ?_)
  refine Sat.go (Eq.refl _) (NS.call (s7) rfl ?_)
  exact Sat.go (Eq.refl _) (NS.ret rfl rfl (LeA.of (congrArg A.bool (rfl))))
theorem acc_len {w : Win} (n : Int) (h : w.seen.length ≤ 70) : (accM w n).1.seen.length ≤ 1000000 := by
  unfold accM
  split
  · simp
  · split
    · simp
    · split
      · simp
      · simp only [accW, List.length_append, List.length_cons]
        have h1 : (w.seen.filter fun x => decide (x < n) && decide (x > max w.top n - w.size)).length ≤ w.seen.length := List.length_filter_le _ _
        have h2 : (w.seen.filter fun x => decide (x > n)).length ≤ w.seen.length := List.length_filter_le _ _
        omega
theorem new_len (n : Int) : (newM n).1.seen.length ≤ 1000000 := by unfold newM; split <;> simp
theorem replayAccept_ok (w : Win) (n : Int) : FnOK Try.prog 3 [.agg w.cells, .int .i64 n] (.bool true, none) := by
  refine fn_ok CN rfl (by kernel_rfl) Try.func3 rfl ?_
  refine Sat.go (Eq.refl _) (NS.call (great_ok w) rfl ?_)
  refine Sat.go (Eq.refl _) (NS.ite (fun h0 => ?_) (fun h0 => ?_))
  · refine Sat.go (Eq.refl _) (NS.call (awake_ok) rfl ?_)
    exact Sat.go (Eq.refl _) (NS.ret rfl rfl (LeA.of (congrArg A.bool (rfl))))
  have h0 : w.seen.length ≤ 70 := by have h0 : ¬ (w.seen.length : Int) > 70 := of_decide_eq_false h0
                                     omega
  refine Sat.go (Eq.refl _) (NS.call (new_ok n) rfl ?_)
  refine Sat.go (Eq.refl _) (NS.call (rNew_ok n) rfl ?_)
  refine Sat.go (Eq.refl _) (NS.call (accept_ok w n) rfl ?_)
  refine Sat.go (Eq.refl _) (NS.call (rAccept_ok w n) rfl ?_)
  refine Sat.go (Eq.refl _) (NS.chk (by kernel_rfl) ?_)
  refine Sat.go (Eq.refl _) (NS.call (sameW_self _ (new_len n)) rfl ?_)
  refine Sat.go (Eq.refl _) (NS.yes (rfl) ?_)
  refine Sat.go (Eq.refl _) (NS.yes (beq_self_eq_true _) ?_)
  refine Sat.go (Eq.refl _) (NS.call (sameW_self _ (acc_len n h0)) rfl ?_)
  refine Sat.go (Eq.refl _) (NS.yes (rfl) ?_)
  refine Sat.go (Eq.refl _) (NS.yes (beq_self_eq_true _) ?_)
  refine Sat.go (Eq.refl _) (NS.call (check_ok w) rfl ?_)
  refine Sat.go (Eq.refl _) (NS.call (rCheck_ok w) rfl ?_)
  refine Sat.go (Eq.refl _) (NS.yes (beq_self_eq_true _) ?_)
  refine Sat.go (Eq.refl _) (NS.call (seen_ok w n) rfl ?_)
  refine Sat.go (Eq.refl _) (NS.call (rSeen_ok w n) rfl ?_)
  refine Sat.go (Eq.refl _) (NS.yes (beq_self_eq_true _) ?_)
  refine Sat.go (Eq.refl _) (NS.call (awake_ok) rfl ?_)
  exact Sat.go (Eq.refl _) (NS.ret rfl rfl (LeA.of (congrArg A.bool (rfl))))
theorem join_len {a b : Win} : (joinM a b).1.seen.length ≤ 1000000 := by
  by_cases h : (chkW a != 0 || chkW b != 0) = true
  · rw [joinM_1 h]; simp
  · have h : (chkW a != 0 || chkW b != 0) = false := by simpa using h
    by_cases h2 : (a.size != b.size) = true
    · rw [joinM_2 h h2]; simp
    · rw [joinM_3 h (by simpa using h2)]
      simp only [Bool.or_eq_false_iff, bne_eq_false_iff_eq] at h
      have := good_len (joinW_good ((good_iff a).1 h.1) ((good_iff b).1 h.2) (by simpa using h2))
      simp only
      omega
theorem replayJoin_ok (a b : Win) : FnOK Try.prog 4 [.agg a.cells, .agg b.cells] (.bool true, none) := by
  refine fn_ok CN rfl (by kernel_rfl) Try.func4 rfl ?_
  refine Sat.go (Eq.refl _) (NS.call (great_ok a) rfl ?_)
  refine Sat.go (Eq.refl _) (NS.ite (fun h0 => ?_) (fun h0 => ?_))
  · refine Sat.go (Eq.refl _) (NS.call (awake_ok) rfl ?_)
    exact Sat.go (Eq.refl _) (NS.ret rfl rfl (LeA.of (congrArg A.bool (rfl))))
  refine Sat.go (Eq.refl _) (NS.call (great_ok b) rfl ?_)
  refine Sat.go (Eq.refl _) (NS.ite (fun h1 => ?_) (fun h1 => ?_))
  · refine Sat.go (Eq.refl _) (NS.call (awake_ok) rfl ?_)
    exact Sat.go (Eq.refl _) (NS.ret rfl rfl (LeA.of (congrArg A.bool (rfl))))
  refine Sat.go (Eq.refl _) (NS.call (join_ok a b) rfl ?_)
  refine Sat.go (Eq.refl _) (NS.call (rJoin_ok a b) rfl ?_)
  refine Sat.go (Eq.refl _) (NS.call (sameW_self _ join_len) rfl ?_)
  refine Sat.go (Eq.refl _) (NS.yes (rfl) ?_)
  refine Sat.go (Eq.refl _) (NS.yes (beq_self_eq_true _) ?_)
  refine Sat.go (Eq.refl _) (NS.call (awake_ok) rfl ?_)
  exact Sat.go (Eq.refl _) (NS.ret rfl rfl (LeA.of (congrArg A.bool (rfl))))
theorem index_ok (l : List Int) (n : Int) (hl : l.length ≤ 1000000) : FnOK Try.prog 35 [slN l, .int .i64 n] (.int .i64 (idx (fun x => n == x) l), none) := by
  refine fn_ok CN rfl (by kernel_rfl) Try.func35 rfl ?_
  refine Sat.go (Eq.refl _) ?_
  refine NS.loop (σ := { k : Nat // k ≤ l.length ∧ ∀ i, i < k → (n == l.getD i default) = false }) (fun k => [(0, slN l), (1, .int .i64 n), (7, .int .i64 l.length), (8, .int .i64 k.1)]) (fun _ => []) (fun k => l.length - k.1) ⟨0, Nat.zero_le _, fun i hi => by omega⟩ ?_ ?_
  · exact weak_hd [] rfl ⟨rfl, rfl, rfl, rfl, trivial⟩ trivial trivial (by kernel_rfl)
  rintro ⟨k, hk, hn⟩
  refine Sat.go (Eq.refl _) (NS.ite (fun h => ?_) (fun h => ?_))
  · have h : k < l.length := by simpa using h
    refine Sat.go (Eq.refl _) (NS.need (by simp; omega) ?_)
    refine Sat.go (Eq.refl _) (NS.ite (fun h2 => ?_) (fun h2 => ?_))
    · exact Sat.go (Eq.refl _) (NS.leaveOut rfl (Eq.refl _) (NS.ret rfl rfl (LeA.of (congrArg (A.int .i64) ((idx_found (p := fun x => n == x) h h2 hn).symm)))))
    · refine Sat.go (Eq.refl _) (NS.next ⟨k + 1, by omega, fun i hi => ?_⟩ (by simp; omega) ?_)
      · by_cases hik : i = k
        · rw [hik]; exact h2
        · exact hn i (by omega)
      · exact weak_hd [] rfl ⟨rfl, rfl, rfl, ren_int rfl (i64_k (k := k) (n := l.length) (by omega) (by omega)), trivial⟩ trivial trivial (by kernel_rfl)
  · have h : ¬ k < l.length := by simpa using h
    refine Sat.go (Eq.refl _) (NS.leave rfl (Eq.refl _) ?_)
    exact Sat.go (Eq.refl _) (NS.ret rfl rfl (LeA.of (congrArg (A.int .i64) ((idx_none (p := fun x => n == x) fun i hi => hn i (by omega)).symm))))
theorem idx_contains (l : List Int) (n : Int) : decide (idx (fun x => n == x) l ≥ 0) = l.contains n := by
  rw [Bool.eq_iff_iff, decide_eq_true_eq, List.contains_iff_mem]
  have := idx_neg (fun x => n == x) l
  constructor
  · intro h
    have h2 : ¬ l.any (fun x => n == x) = false := fun e => by have := this.2 e; omega
    rw [Bool.not_eq_false, List.any_eq_true] at h2
    obtain ⟨x, hx, e⟩ := h2
    rw [show n = x by simpa using e]; exact hx
  · intro h
    have h2 : ¬ l.any (fun x => n == x) = false := by
      rw [Bool.not_eq_false, List.any_eq_true]; exact ⟨n, h, by simp⟩
    have h3 := (idx_lt (fun x => n == x) l).1
    rcases Int.lt_or_le (idx (fun x => n == x) l) 0 with h4 | h4
    · exact absurd (this.1 h4) h2
    · exact h4
theorem contains_ok (l : List Int) (n : Int) (hl : l.length ≤ 1000000) : FnOK Try.prog 25 [slN l, .int .i64 n] (.bool (l.contains n), none) := by
  refine fn_ok CN rfl (by kernel_rfl) Try.func25 rfl ?_
  refine Sat.go (Eq.refl _) (NS.call (index_ok l n hl) rfl ?_)
  exact Sat.go (Eq.refl _) (NS.ret rfl rfl (LeA.of (congrArg A.bool (idx_contains l n))))
/-- What is known while numbers in disorder are offered. -/
structure Dis (s : Int) (l : List Int) (k : Nat) (top : Int) (w : Win) : Prop where
  le : k ≤ l.length
  g : GoodW w
  sz : w.size = s
  tp : w.top = top
  mem : ∀ x ∈ w.seen, x ∈ l.take k
  t : top = -1 ∨ top ∈ l.take k
theorem dis_step {s top : Int} {l : List Int} {k : Nat} {w : Win} (h : Dis s l k top w) (hk : k < l.length) (h0 : 0 ≤ l.getD k default) (h1 : l.getD k default ≤ 1152921504606846976) (h2 : l.getD k default > top - s) (h3 : (l.take k).contains (l.getD k default) = false) : refW w (l.getD k default) = false ∧ Dis s l (k + 1) (max top (l.getD k default)) (accW w (l.getD k default)) := by
  have h3 : l.getD k default ∉ l.take k := by rw [← List.contains_iff_mem, h3]; simp
  have hr : refW w (l.getD k default) = false := refW_f.2 ⟨fun e => h3 (h.mem _ e), by rw [h.tp, h.sz]; exact h2⟩
  obtain ⟨_, hm⟩ := accW_seen h.g hr
  refine ⟨hr, hk, accW_good h.g hr h0 h1, h.sz, by simp only [accW, h.tp], ?_, ?_⟩
  · intro x hx
    rw [take_snoc hk, List.mem_append, List.mem_singleton]
    rcases ((hm x).1 hx).1 with e | e
    · exact .inl (h.mem x e)
    · exact .inr e
  · rw [take_snoc hk, List.mem_append, List.mem_singleton]
    by_cases hc : top ≤ l.getD k default
    · right; right; omega
    · rw [show max top (l.getD k default) = top by omega]
      rcases h.t with e | e
      · exact .inl e
      · exact .inr (.inl e)
theorem new_f {s : Int} (h : ((newM s).2 != 0) = false) : newM s = (⟨s, -1, []⟩, 0) ∧ 1 ≤ s ∧ s ≤ 64 := by
  unfold newM at h ⊢
  by_cases hb : (decide (s < 1) || decide (s > 64)) = true
  · rw [if_pos hb] at h; cases h
  · rw [if_neg hb]
    simp at hb
    exact ⟨rfl, by omega, by omega⟩
theorem new_good {s : Int} (h1 : 1 ≤ s) (h2 : s ≤ 64) : GoodW ⟨s, -1, []⟩ := ⟨h1, h2, Int.le_refl _, by simp, List.Pairwise.nil, fun n hn => (by cases hn), .inl rfl⟩
theorem replayDisorder_ok (s : Int) (l : List Int) : FnOK Try.prog 7 [.int .i64 s, slN l] (.bool true, none) := by
  refine fn_ok CN rfl (by kernel_rfl) Try.func7 rfl ?_
  refine Sat.go (Eq.refl _) (NS.call (new_ok s) rfl ?_)
  refine Sat.go (Eq.refl _) (NS.ite (fun h0 => ?_) (fun h0 => ?_))
  · refine Sat.go (Eq.refl _) (NS.call (awake_ok) rfl ?_)
    exact Sat.go (Eq.refl _) (NS.ret rfl rfl (LeA.of (congrArg A.bool (rfl))))
  obtain ⟨hn, s1, s2⟩ := new_f h0
  rw [hn]
  refine Sat.go (Eq.refl _) (NS.ite (fun h1 => ?_) (fun h1 => ?_))
  · refine Sat.go (Eq.refl _) (NS.call (awake_ok) rfl ?_)
    exact Sat.go (Eq.refl _) (NS.ret rfl rfl (LeA.of (congrArg A.bool (rfl))))
  have hl : l.length ≤ 60 := by have h1 : ¬ (l.length : Int) > 60 := of_decide_eq_false h1
                                omega
  refine Sat.go (Eq.refl _) ?_
  refine NS.loop (σ := { p : Nat × Int × Win // Dis s l p.1 p.2.1 p.2.2 }) (fun p => [(0, .int .i64 s), (1, slN l), (5, .ptr 5 0), (7, .int .i64 p.1.2.1), (25, slN l), (26, .int .i64 l.length), (27, .int .i64 p.1.1)]) (fun p => [(5, .box p.1.2.2.cells)]) (fun p => l.length - p.1.1) ⟨(0, -1, ⟨s, -1, []⟩), ⟨Nat.zero_le _, new_good s1 s2, rfl, rfl, fun x hx => (by cases hx), .inl rfl⟩⟩ ?_ ?_
  · exact weak_hd [] rfl ⟨rfl, rfl, rfl, rfl, rfl, rfl, rfl, trivial⟩ ⟨⟨_, rfl, ren_win _ _⟩, trivial⟩ trivial (by kernel_rfl)
  rintro ⟨⟨k, top, w⟩, hd⟩
  simp only at hd
  have hk := hd.le
  refine Sat.go (Eq.refl _) (NS.ite (fun h => ?_) (fun h => ?_))
  · have h : k < l.length := by simpa using h
    refine Sat.go (Eq.refl _) (NS.need (by simp; omega) ?_)
    refine Sat.go (Eq.refl _) (NS.ite (fun n1 => ?_) (fun n1 => ?_))
    · refine Sat.go (Eq.refl _) (NS.call (awake_ok) rfl ?_)
      exact Sat.go (Eq.refl _) (NS.leaveOut rfl (Eq.refl _) (NS.ret rfl rfl (LeA.of (congrArg A.bool (rfl)))))
    have n1 : ¬ l.getD k default < 0 := of_decide_eq_false n1
    refine Sat.go (Eq.refl _) (NS.ite (fun n2 => ?_) (fun n2 => ?_))
    · refine Sat.go (Eq.refl _) (NS.call (awake_ok) rfl ?_)
      exact Sat.go (Eq.refl _) (NS.leaveOut rfl (Eq.refl _) (NS.ret rfl rfl (LeA.of (congrArg A.bool (rfl)))))
    have n2 : ¬ l.getD k default > 1152921504606846976 := of_decide_eq_false n2
    have t1 := hd.g.t1
    have t2 := hd.g.t2
    have et : IntKind.i64.wrap (top - s) = top - s := by rw [← hd.tp]; exact wrap_i64 (by omega) (by omega)
    refine Sat.go (Eq.refl _) (NS.ite (fun n3 => ?_) (fun n3 => ?_))
    · refine Sat.go (Eq.refl _) (NS.call (awake_ok) rfl ?_)
      exact Sat.go (Eq.refl _) (NS.leaveOut rfl (Eq.refl _) (NS.ret rfl rfl (LeA.of (congrArg A.bool (rfl)))))
    rw [et] at n3
    have n3 : ¬ l.getD k default ≤ top - s := of_decide_eq_false n3
    refine Sat.go (Eq.refl _) (NS.need (by simp; omega) ?_)
    refine Sat.go (Eq.refl _) (NS.call ((contains_ok (l.take k) (l.getD k default) (by simp; omega)).le (LeL.cons (LeA.sl (by simp; omega) fun i hi j hj => ?_) (LeL.cons (LeA.refl _) LeL.nil))) rfl ?_)
    · have hi : i < k := by have hi : i < ((k : Int) - ((0 : Nat) : Int)).toNat := hi
                            omega
      show rowL nC l (0 + i) j = rowL nC (l.take k) i j
      unfold rowL
      rw [Nat.zero_add]
      congr 2
      simp [List.getD, hi]
    refine Sat.go (Eq.refl _) (NS.ite (fun n4 => ?_) (fun n4 => ?_))
    · refine Sat.go (Eq.refl _) (NS.call (awake_ok) rfl ?_)
      exact Sat.go (Eq.refl _) (NS.leaveOut rfl (Eq.refl _) (NS.ret rfl rfl (LeA.of (congrArg A.bool (rfl)))))
    obtain ⟨hr, hd'⟩ := dis_step hd h (by omega) (by omega) (by omega) n4
    have c := accept_ok w (l.getD k default)
    rw [accM_4 (by rw [(good_iff w).2 hd.g]; rfl) (by rw [Bool.or_eq_false_iff]; exact ⟨decide_eq_false n1, decide_eq_false n2⟩) hr] at c
    refine Sat.go (Eq.refl _) (NS.call (c) rfl ?_)
    refine Sat.go (Eq.refl _) (NS.no (rfl) ?_)
    refine Sat.go (Eq.refl _) (NS.next ⟨(k + 1, max top (l.getD k default), accW w (l.getD k default)), hd'⟩ (by simp only; omega) ?_)
    refine weak_hd [] rfl ⟨rfl, rfl, rfl, ren_int rfl ?_, rfl, rfl, ren_int rfl (i64_k (k := k) (n := l.length) (by omega) (by omega)), trivial⟩ ⟨⟨_, rfl, ren_win _ _⟩, trivial⟩ trivial (by kernel_rfl)
    show (if l.getD k default > top then l.getD k default else top) = max top (l.getD k default)
    split <;> omega
  · refine Sat.go (Eq.refl _) (NS.leave rfl (Eq.refl _) ?_)
    refine Sat.go (Eq.refl _) (NS.call (awake_ok) rfl ?_)
    exact Sat.go (Eq.refl _) (NS.ret rfl rfl (LeA.of (congrArg A.bool (rfl))))
end Go.Proofs.Ytphegncldncaiaa
