/- The contracts of Accept, Seen and Join. -/
import Derived.Test.YtphegncldncaiaaPB
import Derived.Test.YtphegncldncaiaaLP
set_option linter.unusedSimpArgs false
set_option linter.unusedSectionVars false
set_option linter.unusedVariables false
namespace Go.Proofs.Ytphegncldncaiaa
open Go.Sy Go.Mb
set_option maxRecDepth 100000
set_option linter.unusedVariables false
set_option maxHeartbeats 1000000

theorem isNaN_ok (n : Int) : FnOK Try.prog 72 [.int .i64 n] (.bool false, none) := by
  refine fn_ok CN rfl (by kernel_rfl) Try.func72 rfl ?_
  exact Sat.go (Eq.refl _) (NS.ret rfl rfl (LeA.of (congrArg A.bool (bne_self_eq_false n))))
theorem sNaN_ok (n : Int) : FnOK Try.prog 62 [.int .i64 n] (.bool false, none) := by
  refine fn_ok CN rfl (by kernel_rfl) Try.func62 rfl ?_
  exact Sat.go (Eq.refl _) (NS.ret rfl rfl (LeA.of (congrArg A.bool (bne_self_eq_false n))))
theorem less_ok (a b : Int) : FnOK Try.prog 61 [.int .i64 a, .int .i64 b] (.bool (decide (a < b)), none) := by
  refine fn_ok CN rfl (by kernel_rfl) Try.func61 rfl ?_
  refine Sat.go (Eq.refl _) (NS.call (isNaN_ok a) rfl ?_)
  refine Sat.go (Eq.refl _) (NS.no (rfl) ?_)
  exact Sat.go (Eq.refl _) (NS.ret rfl rfl (LeA.of (congrArg A.bool (rfl))))
theorem half {i j n : Nat} (h : i < j) (hj : j ≤ n) (hn : n ≤ 4000000000000000000) : IntKind.i64.wrap ((IntKind.u64.wrap (IntKind.i64.wrap ((i : Int) + j))).fdiv (2 ^ (min (1 : Int).toNat IntKind.u64.bits))) = (((i + j) / 2 : Nat) : Int) := by
  have e1 : IntKind.i64.wrap ((i : Int) + j) = ((i + j : Nat) : Int) := by rw [wrap_i64 (by omega) (by omega)]; omega
  have e2 : IntKind.u64.wrap (((i + j : Nat) : Int)) = ((i + j : Nat) : Int) := by rw [wrap_u64 (by omega) (by omega)]
  have e3 : (2 : Int) ^ (min (1 : Int).toNat IntKind.u64.bits) = 2 := by decide
  have e4 : (((i + j : Nat) : Int)).fdiv 2 = (((i + j) / 2 : Nat) : Int) := by
    rw [Int.fdiv_eq_ediv_of_nonneg _ (by omega)]; omega
  rw [e1, e2, e3, e4, wrap_i64 (by omega) (by omega)]
theorem asc_get {l : List Int} (h : AscN l) {i j : Nat} (hij : i < j) (hj : j < l.length) : l.getD i default < l.getD j default := by
  rw [getD_lt (by omega), getD_lt hj]
  exact List.pairwise_iff_getElem.1 h i j (by omega) hj hij
theorem search_ok (l : List Int) (n : Int) (ha : AscN l) (hl : l.length ≤ 1000000) : ∃ p : Int, FnOK Try.prog 48 [slN l, .int .i64 n] (.tup [.int .i64 p, .bool (l.contains n)], none) := by
  refine ⟨(l.findIdx (fun x => decide (n ≤ x)) : Nat), ?_⟩
  have hfi : ∀ i, i ≤ l.length → (∀ q, q < i → l.getD q default < n) → (∀ q, i ≤ q → q < l.length → n ≤ l.getD q default) → l.findIdx (fun x => decide (n ≤ x)) = i := by
    intro i hi h1 h2
    rcases Nat.lt_or_ge i l.length with h | h
    · rw [List.findIdx_eq h]
      refine ⟨by have := h2 i (Nat.le_refl _) h; rw [getD_lt h] at this; simpa using this, fun j hj => ?_⟩
      have := h1 j hj
      rw [getD_lt (by omega)] at this
      simpa using this
    · have : l.findIdx (fun x => decide (n ≤ x)) = l.length := by
        rw [List.findIdx_eq_length]
        intro x hx
        obtain ⟨j, hj, rfl⟩ := List.getElem_of_mem hx
        have := h1 j (by omega)
        rw [getD_lt hj] at this
        simpa using this
      omega
  refine fn_ok CN rfl (by kernel_rfl) Try.func48 rfl ?_
  refine Sat.go (Eq.refl _) ?_
  refine NS.loop (σ := { p : Nat × Nat // p.1 ≤ p.2 ∧ p.2 ≤ l.length ∧ (∀ q, q < p.1 → l.getD q default < n) ∧ (∀ q, p.2 ≤ q → q < l.length → n ≤ l.getD q default) }) (fun p => [(0, slN l), (1, .int .i64 n), (6, .int .i64 l.length), (7, .int .i64 p.1.1), (8, .int .i64 p.1.2)]) (fun _ => []) (fun p => p.1.2 - p.1.1) ⟨(0, l.length), Nat.zero_le _, Nat.le_refl _, fun q hq => by simp only at hq; omega, fun q h1 h2 => by simp only at h1; omega⟩ ?_ ?_
  · exact weak_hd [] rfl ⟨rfl, rfl, rfl, rfl, rfl, trivial⟩ trivial trivial (by kernel_rfl)
  rintro ⟨⟨i, j⟩, hij, hj, h1, h2⟩
  simp only at hij hj h1 h2
  refine Sat.go (Eq.refl _) (NS.ite (fun h => ?_) (fun h => ?_))
  · have h : i < j := by simpa using h
    have eh := half (n := l.length) h hj (by omega)
    refine Sat.go (Eq.refl _) (NS.need (rfl) ?_)
    refine Sat.go (Eq.refl _) (NS.need (by rw [eh]; simp; omega) ?_)
    rw [eh]
    refine Sat.go (Eq.refl _) (NS.call (less_ok (l.getD ((i + j) / 2) default) n) rfl ?_)
    refine Sat.go (Eq.refl _) (NS.ite (fun h3 => ?_) (fun h3 => ?_))
    · have h3 : l.getD ((i + j) / 2) default < n := of_decide_eq_true h3
      refine Sat.go (Eq.refl _) (NS.next ⟨((i + j) / 2 + 1, j), by simp only; omega, hj, fun q hq => ?_, h2⟩ (by simp only; omega) ?_)
      · simp only at hq
        by_cases e : q = (i + j) / 2
        · rw [e]; exact h3
        · have := asc_get ha (i := q) (j := (i + j) / 2) (by omega) (by omega)
          omega
      · exact weak_hd [] rfl ⟨rfl, rfl, rfl, ren_int rfl (by rw [wrap_i64 (by omega) (by omega)]; rfl), rfl, trivial⟩ trivial trivial (by kernel_rfl)
    · have h3 : ¬ l.getD ((i + j) / 2) default < n := of_decide_eq_false h3
      refine Sat.go (Eq.refl _) (NS.next ⟨(i, (i + j) / 2), by simp only; omega, by simp only; omega, h1, fun q hq hq2 => ?_⟩ (by simp only; omega) ?_)
      · simp only at hq
        by_cases e : q = (i + j) / 2
        · rw [e]; omega
        · have := asc_get ha (i := (i + j) / 2) (j := q) (by omega) (by omega)
          omega
      · exact weak_hd [] rfl ⟨rfl, rfl, rfl, rfl, rfl, trivial⟩ trivial trivial (by kernel_rfl)
  · have h : i = j := by have : ¬ i < j := by simpa using h
                         omega
    subst h
    rw [hfi i hj h1 h2]
    refine Sat.go (Eq.refl _) (NS.leave rfl (Eq.refl _) ?_)
    refine Sat.go (Eq.refl _) (NS.ite (fun h4 => ?_) (fun h4 => ?_))
    · have h4 : i < l.length := by simpa using h4
      refine Sat.go (Eq.refl _) (NS.need (by simp; omega) ?_)
      refine Sat.go (Eq.refl _) (NS.ite (fun h5 => ?_) (fun h5 => ?_))
      · have h5 : l.getD i default = n := by simpa using h5
        exact Sat.go (Eq.refl _) (NS.ret rfl rfl (LeA.tup2 (LeA.refl _) (LeA.of (congrArg A.bool (by rw [eq_comm, List.contains_iff_mem, ← h5, getD_lt h4]; exact List.getElem_mem _)))))
      · have h5 : l.getD i default ≠ n := by simpa using h5
        refine Sat.go (Eq.refl _) (NS.need (by simp; omega) ?_)
        refine Sat.go (Eq.refl _) (NS.call (sNaN_ok (l.getD i default)) rfl ?_)
        refine Sat.go (Eq.refl _) (NS.no (rfl) ?_)
        refine Sat.go (Eq.refl _) (NS.ret rfl rfl (LeA.tup2 (LeA.refl _) (LeA.of (congrArg A.bool ?_))))
        rw [eq_comm, ← Bool.not_eq_true, List.contains_iff_mem]
        intro hm
        obtain ⟨q, hq, e⟩ := List.getElem_of_mem hm
        rw [← getD_lt hq] at e
        rcases Nat.lt_trichotomy q i with c | c | c
        · have := h1 q c; omega
        · subst c; exact h5 e
        · have := asc_get ha c hq
          have := h2 i (Nat.le_refl _) h4
          omega
    · have h4 : ¬ i < l.length := by simpa using h4
      refine Sat.go (Eq.refl _) (NS.ret rfl rfl (LeA.tup2 (LeA.refl _) (LeA.of (congrArg A.bool ?_))))
      rw [eq_comm, ← Bool.not_eq_true, List.contains_iff_mem]
      intro hm
      obtain ⟨q, hq, e⟩ := List.getElem_of_mem hm
      rw [← getD_lt hq] at e
      have := h1 q (by omega)
      omega
theorem good_ts {w : Win} (h : GoodW w) : IntKind.i64.wrap (w.top - w.size) = w.top - w.size := by
  have := h.s1
  have := h.s2
  have := h.t1
  have := h.t2
  exact wrap_i64 (by omega) (by omega)
theorem refuses_ok {w : Win} (n : Int) (hg : GoodW w) : FnOK Try.prog 30 [.agg w.cells, .int .i64 n] (.bool (refW w n), none) := by
  obtain ⟨p, c1⟩ := search_ok w.seen n hg.asc (by have := good_len hg; omega)
  have ets := good_ts hg
  refine fn_ok CN rfl (by kernel_rfl) Try.func30 rfl ?_
  refine Sat.go (Eq.refl _) (NS.call (c1) rfl ?_)
  refine Sat.go (Eq.refl _) (NS.ite (fun h => ?_) (fun h => ?_))
  · exact Sat.go (Eq.refl _) (NS.ret rfl rfl (LeA.of (congrArg A.bool (by simp only [refW, h, Bool.true_or]))))
  · exact Sat.go (Eq.refl _) (NS.ret rfl rfl (LeA.of (congrArg A.bool (by simp only [refW, h, Bool.false_or, ets]))))
theorem rRefuses_ok {w : Win} (n : Int) (hg : GoodW w) : FnOK Try.prog 33 [.agg w.cells, .int .i64 n] (.bool (refW w n), none) := by
  have ets := good_ts hg
  have hl := good_len hg
  refine fn_ok CN rfl (by kernel_rfl) Try.func33 rfl ?_
  refine Sat.go (Eq.refl _) (NS.ite (fun h => ?_) (fun h => ?_))
  · rw [ets] at h
    exact Sat.go (Eq.refl _) (NS.ret rfl rfl (LeA.of (congrArg A.bool (by simp only [refW, h, Bool.or_true]))))
  rw [ets] at h
  have hr : refW w n = w.seen.contains n := by simp only [refW, h, Bool.or_false]
  rw [hr]
  refine Sat.go (Eq.refl _) ?_
  refine NS.loop (σ := { k : Nat // k ≤ w.seen.length ∧ ∀ i, i < k → w.seen.getD i default ≠ n }) (fun k => [(1, .int .i64 n), (2, .ptr 2 0), (5, .int .i64 k.1)]) (fun _ => [(2, .box w.cells)]) (fun k => w.seen.length - k.1) ⟨0, Nat.zero_le _, fun i hi => by omega⟩ ?_ ?_
  · exact weak_hd [] rfl ⟨rfl, rfl, rfl, trivial⟩ ⟨⟨_, rfl, ren_win _ _⟩, trivial⟩ trivial (by kernel_rfl)
  rintro ⟨k, hk, hn⟩
  refine Sat.go (Eq.refl _) (NS.ite (fun h2 => ?_) (fun h2 => ?_))
  · have h2 : k < w.seen.length := by simpa using h2
    refine Sat.go (Eq.refl _) (NS.need (by simp; omega) ?_)
    refine Sat.go (Eq.refl _) (NS.ite (fun h3 => ?_) (fun h3 => ?_))
    · have h3 : w.seen.getD k default = n := by simpa using h3
      exact Sat.go (Eq.refl _) (NS.leaveOut rfl (Eq.refl _) (NS.ret rfl rfl (LeA.of (congrArg A.bool (by rw [eq_comm, List.contains_iff_mem, ← h3, getD_lt h2]; exact List.getElem_mem _)))))
    · have h3 : w.seen.getD k default ≠ n := by simpa using h3
      refine Sat.go (Eq.refl _) (NS.next ⟨k + 1, by omega, fun i hi => ?_⟩ (by simp; omega) ?_)
      · by_cases e : i = k
        · rw [e]; exact h3
        · exact hn i (by omega)
      · exact weak_hd [] rfl ⟨rfl, rfl, ren_int rfl (i64_k (k := k) (n := 100) (by omega) (by omega)), trivial⟩ ⟨⟨_, rfl, ren_win _ _⟩, trivial⟩ trivial (by kernel_rfl)
  · have h2 : ¬ k < w.seen.length := by simpa using h2
    refine Sat.go (Eq.refl _) (NS.leave rfl (Eq.refl _) ?_)
    refine Sat.go (Eq.refl _) (NS.ret rfl rfl (LeA.of (congrArg A.bool (?_))))
    rw [eq_comm, ← Bool.not_eq_true, List.contains_iff_mem]
    intro hm
    obtain ⟨q, hq, e⟩ := List.getElem_of_mem hm
    rw [← getD_lt hq] at e
    exact hn q (by omega) e
def seenM (w : Win) (n : Int) : Bool := chkW w == 0 && (decide (n ≥ 0) && (decide (n ≤ 1152921504606846976) && refW w n))
theorem seen_ok (w : Win) (n : Int) : FnOK Try.prog 19 [.agg w.cells, .int .i64 n] (.bool (seenM w n), none) := by
  refine fn_ok CN rfl (by kernel_rfl) Try.func19 rfl ?_
  refine Sat.go (Eq.refl _) (NS.call (check_ok w) rfl ?_)
  refine Sat.go (Eq.refl _) (NS.ite (fun h1 => ?_) (fun h1 => ?_))
  · have hg := (good_iff w).1 (by simpa using h1)
    refine Sat.go (Eq.refl _) (NS.ite (fun h2 => ?_) (fun h2 => ?_))
    · refine Sat.go (Eq.refl _) (NS.ite (fun h3 => ?_) (fun h3 => ?_))
      · refine Sat.go (Eq.refl _) (NS.call (refuses_ok n hg) rfl ?_)
        exact Sat.go (Eq.refl _) (NS.ret rfl rfl (LeA.of (congrArg A.bool (by simp only [seenM, h1, h2, h3, Bool.true_and]))))
      · exact Sat.go (Eq.refl _) (NS.ret rfl rfl (LeA.of (congrArg A.bool (by simp only [seenM, h1, h2, h3, Bool.false_and, Bool.and_false]))))
    · exact Sat.go (Eq.refl _) (NS.ret rfl rfl (LeA.of (congrArg A.bool (by simp only [seenM, h1, h2, Bool.false_and, Bool.and_false]))))
  · exact Sat.go (Eq.refl _) (NS.ret rfl rfl (LeA.of (congrArg A.bool (by simp only [seenM, h1, Bool.false_and]))))
theorem rSeen_ok (w : Win) (n : Int) : FnOK Try.prog 20 [.agg w.cells, .int .i64 n] (.bool (seenM w n), none) := by
  refine fn_ok CN rfl (by kernel_rfl) Try.func20 rfl ?_
  refine Sat.go (Eq.refl _) (NS.call (rCheck_ok w) rfl ?_)
  refine Sat.go (Eq.refl _) (NS.ite (fun h1 => ?_) (fun h1 => ?_))
  · have hg := (good_iff w).1 (by simpa using h1)
    refine Sat.go (Eq.refl _) (NS.ite (fun h2 => ?_) (fun h2 => ?_))
    · refine Sat.go (Eq.refl _) (NS.ite (fun h3 => ?_) (fun h3 => ?_))
      · refine Sat.go (Eq.refl _) (NS.call (rRefuses_ok n hg) rfl ?_)
        exact Sat.go (Eq.refl _) (NS.ret rfl rfl (LeA.of (congrArg A.bool (by simp only [seenM, h1, h2, h3, Bool.true_and]))))
      · exact Sat.go (Eq.refl _) (NS.ret rfl rfl (LeA.of (congrArg A.bool (by simp only [seenM, h1, h2, h3, Bool.false_and, Bool.and_false]))))
    · exact Sat.go (Eq.refl _) (NS.ret rfl rfl (LeA.of (congrArg A.bool (by simp only [seenM, h1, h2, Bool.false_and, Bool.and_false]))))
  · exact Sat.go (Eq.refl _) (NS.ret rfl rfl (LeA.of (congrArg A.bool (by simp only [seenM, h1, Bool.false_and]))))
theorem cloneN_ok (l : List Int) (hl : l.length ≤ 1000000) : FnOK Try.prog 32 [slN l] (.own 0, some (.row 3 1 l.length (rowL nC l))) := by
  refine fn_ok CN rfl (by kernel_rfl) Try.func32 rfl ?_
  refine Sat.go (Eq.refl _) (NS.ite (fun h0 => ?_) (fun h0 => ?_))
  · refine Sat.go (Eq.refl _) (NS.both ?_ ?_)
    · exact Sat.go (Eq.refl _) (NS.retNil (by simpa using h0) rfl rfl)
    · refine Sat.go (Eq.refl _) (NS.need (decide_eq_true (by simp only [maxRow]; omega)) ?_)
      refine Sat.go (Eq.refl _) (NS.retRow 7 rfl rfl (LeA.refl _) ⟨rfl, rfl, by simp, fun i hi j hj => by simp⟩ fun _ _ _ _ => flatN _ _ _)
  · refine Sat.go (Eq.refl _) (NS.need (decide_eq_true (by simp only [maxRow]; omega)) ?_)
    refine Sat.go (Eq.refl _) (NS.retRow 7 rfl rfl (LeA.refl _) ⟨rfl, rfl, by simp, fun i hi j hj => by simp⟩ fun _ _ _ _ => flatN _ _ _)

/-- The function that says what is kept. -/
def keepF (s t : Int) : A := .fn 52 [.ip 3 (getA [.int .i64 s, .int .i64 t, .nils]), .ip 1 (getA [.int .i64 s])]
theorem keep_ok (s t n : Int) (h : IntKind.i64.wrap (t - s) = t - s) : FnOK Try.prog 52 [.int .i64 n, .ip 3 (getA [.int .i64 s, .int .i64 t, .nils]), .ip 1 (getA [.int .i64 s])] (.bool (decide (n > t - s)), none) := by
  refine fn_ok CN rfl (by kernel_rfl) Try.func52 rfl ?_
  exact Sat.go (Eq.refl _) (NS.ret rfl rfl (LeA.of (congrArg A.bool (by rw [h]))))
theorem filter_take {α : Type} [Inhabited α] {p : α → Bool} {l : List α} {k : Nat} (h : k < l.length) : (l.take (k + 1)).filter p = (l.take k).filter p ++ (if p (l.getD k default) then [l.getD k default] else []) := by
  rw [take_snoc h, List.filter_append]; congr 1; simp [List.filter_cons]
theorem kept_ok (l : List Int) (s t : Int) (hl : l.length ≤ 1000000) (h : IntKind.i64.wrap (t - s) = t - s) : FnOK Try.prog 50 [slN l, keepF s t] (.own 0, some (.row 3 1 (l.filter fun n => decide (n > t - s)).length (rowL nC (l.filter fun n => decide (n > t - s))))) := by
  refine fn_ok CN rfl (by kernel_rfl) Try.func50 rfl ?_
  refine Sat.go (Eq.refl _) ?_
  refine NS.loop (σ := { k : Nat // k ≤ l.length }) (fun k => [(1, keepF s t), (5, .own 5), (8, slN l), (9, .int .i64 l.length), (10, .int .i64 k.1)]) (fun k => [(5, .row 3 1 ((l.take k.1).filter fun n => decide (n > t - s)).length (rowL nC ((l.take k.1).filter fun n => decide (n > t - s))))]) (fun k => l.length - k.1) ⟨0, Nat.zero_le _⟩ ?_ ?_
  · refine (weak_promote 5 5 3 1 (rowL nC []) rfl rfl).trans ?_
    exact weak_hd [] rfl ⟨rfl, rfl, rfl, rfl, rfl, trivial⟩ ⟨ren_row rfl rfl fun _ _ _ _ => rfl, trivial⟩ trivial (by kernel_rfl)
  rintro ⟨k, hk⟩
  have hlen : ((l.take k).filter fun n => decide (n > t - s)).length ≤ 1000000 := Nat.le_trans (List.length_filter_le _ _) (by simp; omega)
  refine Sat.go (Eq.refl _) (NS.ite (fun h2 => ?_) (fun h2 => ?_))
  · have h2 : k < l.length := by simpa using h2
    have hsn := filter_take (p := fun n => decide (n > t - s)) h2
    refine Sat.go (Eq.refl _) (NS.need (by simp; omega) ?_)
    refine Sat.go (Eq.refl _) (NS.call (keep_ok s t (l.getD k default) h) rfl ?_)
    refine Sat.go (Eq.refl _) (NS.ite (fun h3 => ?_) (fun h3 => ?_))
    · rw [if_pos h3] at hsn
      refine Sat.go (Eq.refl _) (NS.need (decide_eq_true (by simp only [maxRow]; omega)) ?_)
      refine Sat.go (Eq.refl _) (NS.next ⟨k + 1, by omega⟩ (by simp; omega) ?_)
      refine weak_hd [(5, 20)] rfl ⟨rfl, rfl, rfl, rfl, ren_int rfl (i64_k (k := k) (n := l.length) (by omega) (by omega)), trivial⟩ ⟨?_, trivial⟩ trivial (by kernel_rfl)
      simp only [hsn]
      exact ren_row rfl (by simp) (fun i hi j hj => row_snoc (cells := nC) (x := l.getD k default) rfl i (by simpa using hi) j hj)
    · rw [if_neg (by rw [h3]; simp), List.append_nil] at hsn
      refine Sat.go (Eq.refl _) (NS.next ⟨k + 1, by omega⟩ (by simp; omega) ?_)
      refine weak_hd [] rfl ⟨rfl, rfl, rfl, rfl, ren_int rfl (i64_k (k := k) (n := l.length) (by omega) (by omega)), trivial⟩ ⟨?_, trivial⟩ trivial (by kernel_rfl)
      simp only [hsn]
      exact ren_row rfl rfl fun _ _ _ _ => rfl
  · obtain rfl : k = l.length := by have h2 : ¬ k < l.length := by simpa using h2
                                    omega
    refine Sat.go (Eq.refl _) (NS.leave rfl (Eq.refl _) ?_)
    refine Sat.go (Eq.refl _) (NS.retRow 5 rfl rfl (LeA.refl _) ⟨rfl, rfl, ?_, fun i hi j hj => ?_⟩ fun _ _ _ _ => flatN _ _ _)
    · rw [take_all (Nat.le_refl _)]
    · rw [take_all (Nat.le_refl _)]
end Go.Proofs.Ytphegncldncaiaa
