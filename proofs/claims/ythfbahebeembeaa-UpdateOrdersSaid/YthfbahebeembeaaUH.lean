/- Contains; the reference's known, next, insert. -/
import Derived.Test.YthfbahebeembeaaUHA
set_option linter.unusedSimpArgs false
set_option linter.unusedSectionVars false
set_option linter.unusedVariables false
namespace Go.Mb
open Go.Sy
set_option linter.unusedVariables false
def maxS : List Chg → Int → Int
  | [], m => m
  | x :: l, m => maxS l (if x.stamp > m then x.stamp else m)
def ltb (y x : Chg) : Bool := decide (y.org < x.org) || (y.org == x.org && decide (y.cnt < x.cnt))
def insM : List Chg → Chg → List Chg
  | [], x => [x]
  | y :: l, x => if ltb y x then y :: insM l x else x :: y :: l
theorem insM_len (l : List Chg) (x : Chg) : (insM l x).length = l.length + 1 := by
  induction l with
  | nil => rfl
  | cons y l ih =>
    unfold insM
    split
    · simp [ih]
    · simp
theorem ins_at {l r : List Chg} {x : Chg} {k : Nat} (hk : k ≤ l.length) (h : r = l.take k ++ x :: l.drop k) : r.length = l.length + 1 ∧ r.take (k + 1) = l.take k ++ [x] ∧ ∀ m, k ≤ m → m < l.length → r.getD (m + 1) default = l.getD m default := by
  subst h
  have hlt : (l.take k).length = k := by rw [List.length_take]; omega
  refine ⟨by simp; omega, ?_, fun m h1 h2 => ?_⟩
  · rw [List.take_append, hlt, List.take_of_length_le (by omega), show k + 1 - k = 1 by omega]; rfl
  · unfold List.getD
    rw [List.getElem?_append_right (by omega), hlt, show m + 1 - k = (m - k) + 1 by omega, List.getElem?_cons_succ, List.getElem?_drop, show k + (m - k) = m by omega]
def nextM (l : List Chg) (o kind : Int) (c : Ctc) : Chg := ⟨o, IntKind.i64.wrap ((cntO l o : Int) + 1), IntKind.i64.wrap (maxS l 0 + 1), kind, c⟩
end Go.Mb
namespace Go.Proofs.Ythfbahebeembeaa
open Go.Sy Go.Mb
set_option maxRecDepth 100000
set_option linter.unusedVariables false
set_option maxHeartbeats 4000000
theorem idxX_ok (l : List Chg) (x : Chg) (hl : l.length ≤ 1000000) : FnOK Try.prog 80 [slChg l, .agg x.cells] (.int .i64 (idx (fun y => Chg.eqv x y) l), none) := by
  refine fn_ok CN rfl (by kernel_rfl) Try.func80 rfl ?_
  refine Sat.go (Eq.refl _) ?_
  refine NS.loop (σ := { k : Nat // k ≤ l.length ∧ ∀ i, i < k → (fun y => Chg.eqv x y) (l.getD i default) = false }) (fun k => [(0, slChg l), (3, .ptr 3 0), (7, .int .i64 l.length), (8, .int .i64 k.1)]) (fun _ => [(3, .box x.cells)]) (fun k => l.length - k.1) ⟨0, Nat.zero_le _, fun i hi => by omega⟩ ?_ ?_
  · exact weak_hd [] rfl ⟨rfl, rfl, rfl, rfl, trivial⟩ ⟨⟨_, rfl, renChg _ _⟩, trivial⟩ trivial (by kernel_rfl)
  rintro ⟨k, hk, hn⟩
  refine Sat.go (Eq.refl _) (NS.ite (fun h => ?_) (fun h => ?_))
  · have h : k < l.length := by simpa using h
    repeat' (first | (refine Sat.go (Eq.refl _) (NS.chk (by kernel_rfl) ?_)) | (refine Sat.go (Eq.refl _) (NS.need (by simp; omega) ?_)))
    refine Sat.go (Eq.refl _) (NS.ite (fun h2 => ?_) (fun h2 => ?_))
    · exact Sat.go (Eq.refl _) (NS.leaveOut rfl (Eq.refl _) (NS.ret rfl rfl (LeA.of (congrArg (A.int .i64) ((idx_found (by omega) h2 hn).symm)))))
    · refine Sat.go (Eq.refl _) (NS.next ⟨k + 1, by omega, fun i hi => ?_⟩ (by simp; omega) ?_)
      · by_cases hik : i = k
        · subst hik; exact h2
        · exact hn i (by omega)
      · exact weak_hd [] rfl ⟨rfl, rfl, rfl, ren_int rfl (i64_k (by omega) (by omega)), trivial⟩ ⟨⟨_, rfl, renChg _ _⟩, trivial⟩ trivial (by kernel_rfl)
  · have h : ¬ k < l.length := by simpa using h
    refine Sat.go (Eq.refl _) (NS.leave rfl (Eq.refl _) ?_)
    exact Sat.go (Eq.refl _) (NS.ret rfl rfl (LeA.of (congrArg (A.int .i64) ((idx_none fun i hi => hn i (by omega)).symm))))
theorem idxY_ok (l : List Ctc) (x : Ctc) (hl : l.length ≤ 1000000) : FnOK Try.prog 66 [slCtc l, .agg x.cells] (.int .i64 (idx (fun y => Ctc.eqv x y) l), none) := by
  refine fn_ok CN rfl (by kernel_rfl) Try.func66 rfl ?_
  refine Sat.go (Eq.refl _) ?_
  refine NS.loop (σ := { k : Nat // k ≤ l.length ∧ ∀ i, i < k → (fun y => Ctc.eqv x y) (l.getD i default) = false }) (fun k => [(0, slCtc l), (3, .ptr 3 0), (7, .int .i64 l.length), (8, .int .i64 k.1)]) (fun _ => [(3, .box x.cells)]) (fun k => l.length - k.1) ⟨0, Nat.zero_le _, fun i hi => by omega⟩ ?_ ?_
  · exact weak_hd [] rfl ⟨rfl, rfl, rfl, rfl, trivial⟩ ⟨⟨_, rfl, renCtc _ _⟩, trivial⟩ trivial (by kernel_rfl)
  rintro ⟨k, hk, hn⟩
  refine Sat.go (Eq.refl _) (NS.ite (fun h => ?_) (fun h => ?_))
  · have h : k < l.length := by simpa using h
    repeat' (first | (refine Sat.go (Eq.refl _) (NS.chk (by kernel_rfl) ?_)) | (refine Sat.go (Eq.refl _) (NS.need (by simp; omega) ?_)))
    refine Sat.go (Eq.refl _) (NS.ite (fun h2 => ?_) (fun h2 => ?_))
    · exact Sat.go (Eq.refl _) (NS.leaveOut rfl (Eq.refl _) (NS.ret rfl rfl (LeA.of (congrArg (A.int .i64) ((idx_found (by omega) h2 hn).symm)))))
    · refine Sat.go (Eq.refl _) (NS.next ⟨k + 1, by omega, fun i hi => ?_⟩ (by simp; omega) ?_)
      · by_cases hik : i = k
        · subst hik; exact h2
        · exact hn i (by omega)
      · exact weak_hd [] rfl ⟨rfl, rfl, rfl, ren_int rfl (i64_k (by omega) (by omega)), trivial⟩ ⟨⟨_, rfl, renCtc _ _⟩, trivial⟩ trivial (by kernel_rfl)
  · have h : ¬ k < l.length := by simpa using h
    refine Sat.go (Eq.refl _) (NS.leave rfl (Eq.refl _) ?_)
    exact Sat.go (Eq.refl _) (NS.ret rfl rfl (LeA.of (congrArg (A.int .i64) ((idx_none fun i hi => hn i (by omega)).symm))))
theorem hasX_ok (l : List Chg) (x : Chg) (hl : l.length ≤ 1000000) : FnOK Try.prog 48 [slChg l, .agg x.cells] (.bool (l.any fun y => Chg.eqv x y), none) := by
  refine fn_ok CN rfl (by kernel_rfl) Try.func48 rfl ?_
  refine Sat.go (Eq.refl _) (NS.call (idxX_ok l x hl) rfl ?_)
  exact Sat.go (Eq.refl _) (NS.ret rfl rfl (LeA.of (congrArg A.bool (idx_any _ _))))
theorem hasY_ok (l : List Ctc) (x : Ctc) (hl : l.length ≤ 1000000) : FnOK Try.prog 28 [slCtc l, .agg x.cells] (.bool (l.any fun y => Ctc.eqv x y), none) := by
  refine fn_ok CN rfl (by kernel_rfl) Try.func28 rfl ?_
  refine Sat.go (Eq.refl _) (NS.call (idxY_ok l x hl) rfl ?_)
  exact Sat.go (Eq.refl _) (NS.ret rfl rfl (LeA.of (congrArg A.bool (idx_any _ _))))
theorem known_ok (h : His) (o : Int) (hl : h.l.length ≤ 1000000) : FnOK Try.prog 60 [.agg h.cells, .int .i64 o] (.int .i64 (cntO h.l o), none) := by
  refine fn_ok CN rfl (by kernel_rfl) Try.func60 rfl ?_
  refine Sat.go (Eq.refl _) ?_
  refine NS.loop (σ := { k : Nat // k ≤ h.l.length }) (fun k => [(1, .int .i64 o), (2, .ptr 2 0), (5, .int .i64 (cntO (h.l.take k.1) o)), (6, .int .i64 k.1)]) (fun k => [(2, .box h.cells)]) (fun k => h.l.length - k.1) ⟨0, Nat.zero_le _⟩ ?_ ?_
  · exact weak_hd [] rfl ⟨rfl, rfl, rfl, rfl, trivial⟩ ⟨⟨_, rfl, renHis _ _⟩, trivial⟩ trivial (by kernel_rfl)
  rintro ⟨k, hk⟩
  refine Sat.go (Eq.refl _) (NS.ite (fun a => ?_) (fun a => ?_))
  · have a : k < h.l.length := by simpa using a
    have hs := cntO_snoc (h.l.take k) (h.l.getD k default) o
    rw [← take_snoc a] at hs
    have hle := cntO_le (h.l.take k) o
    have hlt : (h.l.take k).length = k := by rw [List.length_take]; omega
    repeat' (first | (refine Sat.go (Eq.refl _) (NS.chk (by kernel_rfl) ?_)) | (refine Sat.go (Eq.refl _) (NS.need (by simp; omega) ?_)))
    refine Sat.go (Eq.refl _) (NS.ite (fun c => ?_) (fun c => ?_))
    · have c : ((h.l.getD k default).org == o) = true := c
      rw [if_pos c] at hs
      refine Sat.go (Eq.refl _) (NS.next ⟨k + 1, a⟩ (by simp; omega) ?_)
      exact weak_hd [] rfl ⟨rfl, rfl, ren_int rfl (by show IntKind.i64.wrap ((cntO (h.l.take k) o : Int) + 1) = (cntO (h.l.take (k + 1)) o : Int); rw [hs, wrap_i64 (by omega) (by omega)]; omega), ren_int rfl (i64_k (by omega) (by omega)), trivial⟩ ⟨⟨_, rfl, renHis _ _⟩, trivial⟩ trivial (by kernel_rfl)
    · have c : ((h.l.getD k default).org == o) = false := c
      rw [if_neg (by rw [c]; simp)] at hs
      refine Sat.go (Eq.refl _) (NS.next ⟨k + 1, a⟩ (by simp; omega) ?_)
      exact weak_hd [] rfl ⟨rfl, rfl, ren_int rfl (by show (cntO (h.l.take k) o : Int) = (cntO (h.l.take (k + 1)) o : Int); rw [hs]; rfl), ren_int rfl (i64_k (by omega) (by omega)), trivial⟩ ⟨⟨_, rfl, renHis _ _⟩, trivial⟩ trivial (by kernel_rfl)
  · have a : h.l.length ≤ k := by simpa using a
    refine Sat.go (Eq.refl _) (NS.leave rfl (Eq.refl _) ?_)
    exact Sat.go (Eq.refl _) (NS.ret rfl rfl (LeA.of (congrArg (A.int .i64) (by show (cntO (h.l.take k) o : Int) = _; rw [take_all a]))))
theorem insert_row (l : List Chg) (x : Chg) (hl : l.length ≤ 1000000) : FnOK Try.prog 54 [slChg l, .agg x.cells] (.own 0, some (.row 52 11 (l.length + 1) (rowL Chg.cells (insM l x)))) := by
  refine fn_ok CN rfl (by kernel_rfl) Try.func54 rfl ?_
  refine Sat.go (Eq.refl _) ?_
  refine NS.loop (σ := { k : Nat // k ≤ l.length ∧ insM l x = l.take k ++ insM (l.drop k) x }) (fun k => [(0, slChg l), (3, .ptr 3 0), (5, .own 5), (6, .int .i64 k.1)]) (fun k => [(3, .box x.cells), (5, .row 52 11 k.1 (rowL Chg.cells (l.take k.1)))]) (fun k => l.length - k.1) ⟨0, Nat.zero_le _, by simp⟩ ?_ ?_
  · refine (weak_promote 5 5 52 11 (rowL Chg.cells []) rfl rfl).trans ?_
    exact weak_hd [] rfl ⟨rfl, rfl, rfl, rfl, trivial⟩ ⟨⟨_, rfl, renChg _ _⟩, ren_row rfl rfl fun i hi j hj => rfl, trivial⟩ trivial (by kernel_rfl)
  rintro ⟨k, hk, hs⟩
  have hlt : (l.take k).length = k := by rw [List.length_take]; omega
  refine Sat.go (Eq.refl _) (NS.chk (by kernel_rfl) ?_)
  refine Sat.go (Eq.refl _) (NS.ite (fun a => ?_) (fun a => ?_))
  · have a : k < l.length := by simpa using a
    have hd := drop_cons a
    rw [hd, insM] at hs
    refine Sat.go (Eq.refl _) (NS.need (by simp; omega) ?_)
    refine Sat.go (Eq.refl _) (NS.ite (fun b1 => ?_) (fun b1 => ?_))
    · have b1 : decide ((l.getD k default).org < x.org) = true := b1
      rw [if_pos (by unfold ltb; rw [b1]; rfl)] at hs
      refine Sat.go (Eq.refl _) (NS.need (by simp; omega) ?_)
      refine Sat.go (Eq.refl _) (NS.need (decide_eq_true (by simp only [maxRow]; omega)) ?_)
      refine Sat.go (Eq.refl _) (NS.next ⟨k + 1, a, by rw [hs, take_snoc a, List.append_assoc]; rfl⟩ (by show l.length - (k + 1) < l.length - k; omega) ?_)
      refine weak_hd [(5, 47)] rfl ⟨rfl, rfl, rfl, ren_int rfl (i64_k (k := k) (n := l.length) a (by omega)), trivial⟩ ⟨⟨_, rfl, renChg _ _⟩, ren_row rfl rfl ?_, trivial⟩ trivial (by kernel_rfl)
      intro i hi j hj
      have h1 := row_snoc (cells := Chg.cells) (l := l.take k) (x := l.getD k default) (c := 11) rfl i (by rw [hlt]; exact hi) j hj
      rw [← take_snoc a, hlt] at h1
      exact h1
    have b1 : decide ((l.getD k default).org < x.org) = false := b1
    refine Sat.go (Eq.refl _) (NS.need (by simp; omega) ?_)
    refine Sat.go (Eq.refl _) (NS.ite (fun b2 => ?_) (fun b2 => ?_))
    · have b2 : ((l.getD k default).org == x.org) = true := b2
      refine Sat.go (Eq.refl _) (NS.need (by simp; omega) ?_)
      refine Sat.go (Eq.refl _) (NS.ite (fun b3 => ?_) (fun b3 => ?_))
      · have b3 : decide ((l.getD k default).cnt < x.cnt) = true := b3
        rw [if_pos (by unfold ltb; rw [b1, b2, b3]; rfl)] at hs
        refine Sat.go (Eq.refl _) (NS.need (by simp; omega) ?_)
        refine Sat.go (Eq.refl _) (NS.need (decide_eq_true (by simp only [maxRow]; omega)) ?_)
        refine Sat.go (Eq.refl _) (NS.next ⟨k + 1, a, by rw [hs, take_snoc a, List.append_assoc]; rfl⟩ (by show l.length - (k + 1) < l.length - k; omega) ?_)
        refine weak_hd [(5, 47)] rfl ⟨rfl, rfl, rfl, ren_int rfl (i64_k (k := k) (n := l.length) a (by omega)), trivial⟩ ⟨⟨_, rfl, renChg _ _⟩, ren_row rfl rfl ?_, trivial⟩ trivial (by kernel_rfl)
        intro i hi j hj
        have h1 := row_snoc (cells := Chg.cells) (l := l.take k) (x := l.getD k default) (c := 11) rfl i (by rw [hlt]; exact hi) j hj
        rw [← take_snoc a, hlt] at h1
        exact h1
      · have b3 : decide ((l.getD k default).cnt < x.cnt) = false := b3
        rw [if_neg (by unfold ltb; rw [b1, b2, b3]; simp), ← hd] at hs
        obtain ⟨r1, r2, r3⟩ := ins_at hk hs
        refine Sat.go (Eq.refl _) (NS.leave rfl (Eq.refl _) ?_)
        refine Sat.go (Eq.refl _) (NS.need (decide_eq_true (by simp only [maxRow]; omega)) ?_)
        refine Sat.go (Eq.refl _) ?_
        refine NS.loop (σ := { m : Nat // k ≤ m ∧ m ≤ l.length }) (fun m => [(0, slChg l), (5, .own 53), (6, .int .i64 m.1)]) (fun m => [(53, .row 52 11 (m.1 + 1) (rowL Chg.cells ((insM l x).take (m.1 + 1))))]) (fun m => l.length - m.1) ⟨k, Nat.le_refl _, hk⟩ ?_ ?_
        · refine weak_hd [] rfl ⟨rfl, rfl, rfl, trivial⟩ ⟨ren_row rfl rfl ?_, trivial⟩ trivial (by kernel_rfl)
          intro i hi j hj
          have h1 := row_snoc (cells := Chg.cells) (l := l.take k) (x := x) (c := 11) rfl i (by rw [hlt]; exact hi) j hj
          rw [← r2, hlt] at h1
          exact h1
        rintro ⟨m, hkm, hml⟩
        have r4 : ((insM l x).take (m + 1)).length = m + 1 := by rw [List.length_take]; omega
        refine Sat.go (Eq.refl _) (NS.ite (fun c => ?_) (fun c => ?_))
        · have c : m < l.length := by simpa using c
          have r5 := take_snoc (l := insM l x) (k := m + 1) (by omega)
          rw [r3 m hkm c] at r5
          refine Sat.go (Eq.refl _) (NS.need (by simp; omega) ?_)
          refine Sat.go (Eq.refl _) (NS.need (decide_eq_true (by simp only [maxRow]; omega)) ?_)
          refine Sat.go (Eq.refl _) (NS.next ⟨m + 1, by omega, c⟩ (by show l.length - (m + 1) < l.length - m; omega) ?_)
          refine weak_hd [(53, 64)] rfl ⟨rfl, rfl, ren_int rfl (i64_k (k := m) (n := l.length) c (by omega)), trivial⟩ ⟨ren_row rfl rfl ?_, trivial⟩ trivial (by kernel_rfl)
          intro i hi j hj
          have h1 := row_snoc (cells := Chg.cells) (l := (insM l x).take (m + 1)) (x := l.getD m default) (c := 11) rfl i (by rw [r4]; exact hi) j hj
          rw [← r5, r4] at h1
          exact h1
        · have c : l.length ≤ m := by simpa using c
          have e : m = l.length := by omega
          subst e
          refine Sat.go (Eq.refl _) (NS.leave rfl (Eq.refl _) ?_)
          refine Sat.go (Eq.refl _) (NS.retRow 53 rfl rfl (LeA.refl _) ⟨rfl, rfl, rfl, fun i hi j hj => by rw [take_all (by rw [r1]; exact Nat.le_refl _)]⟩ fun _ _ _ _ => flatChg _ _ _)
    · have b2 : ((l.getD k default).org == x.org) = false := b2
      rw [if_neg (by unfold ltb; rw [b1, b2]; simp), ← hd] at hs
      obtain ⟨r1, r2, r3⟩ := ins_at hk hs
      refine Sat.go (Eq.refl _) (NS.leave rfl (Eq.refl _) ?_)
      refine Sat.go (Eq.refl _) (NS.need (decide_eq_true (by simp only [maxRow]; omega)) ?_)
      refine Sat.go (Eq.refl _) ?_
      refine NS.loop (σ := { m : Nat // k ≤ m ∧ m ≤ l.length }) (fun m => [(0, slChg l), (5, .own 53), (6, .int .i64 m.1)]) (fun m => [(53, .row 52 11 (m.1 + 1) (rowL Chg.cells ((insM l x).take (m.1 + 1))))]) (fun m => l.length - m.1) ⟨k, Nat.le_refl _, hk⟩ ?_ ?_
      · refine weak_hd [] rfl ⟨rfl, rfl, rfl, trivial⟩ ⟨ren_row rfl rfl ?_, trivial⟩ trivial (by kernel_rfl)
        intro i hi j hj
        have h1 := row_snoc (cells := Chg.cells) (l := l.take k) (x := x) (c := 11) rfl i (by rw [hlt]; exact hi) j hj
        rw [← r2, hlt] at h1
        exact h1
      rintro ⟨m, hkm, hml⟩
      have r4 : ((insM l x).take (m + 1)).length = m + 1 := by rw [List.length_take]; omega
      refine Sat.go (Eq.refl _) (NS.ite (fun c => ?_) (fun c => ?_))
      · have c : m < l.length := by simpa using c
        have r5 := take_snoc (l := insM l x) (k := m + 1) (by omega)
        rw [r3 m hkm c] at r5
        refine Sat.go (Eq.refl _) (NS.need (by simp; omega) ?_)
        refine Sat.go (Eq.refl _) (NS.need (decide_eq_true (by simp only [maxRow]; omega)) ?_)
        refine Sat.go (Eq.refl _) (NS.next ⟨m + 1, by omega, c⟩ (by show l.length - (m + 1) < l.length - m; omega) ?_)
        refine weak_hd [(53, 64)] rfl ⟨rfl, rfl, ren_int rfl (i64_k (k := m) (n := l.length) c (by omega)), trivial⟩ ⟨ren_row rfl rfl ?_, trivial⟩ trivial (by kernel_rfl)
        intro i hi j hj
        have h1 := row_snoc (cells := Chg.cells) (l := (insM l x).take (m + 1)) (x := l.getD m default) (c := 11) rfl i (by rw [r4]; exact hi) j hj
        rw [← r5, r4] at h1
        exact h1
      · have c : l.length ≤ m := by simpa using c
        have e : m = l.length := by omega
        subst e
        refine Sat.go (Eq.refl _) (NS.leave rfl (Eq.refl _) ?_)
        refine Sat.go (Eq.refl _) (NS.retRow 53 rfl rfl (LeA.refl _) ⟨rfl, rfl, rfl, fun i hi j hj => by rw [take_all (by rw [r1]; exact Nat.le_refl _)]⟩ fun _ _ _ _ => flatChg _ _ _)
  · have a : l.length ≤ k := by simpa using a
    have hd : l.drop k = [] := List.drop_eq_nil_of_le a
    rw [hd, insM, ← hd] at hs
    obtain ⟨r1, r2, r3⟩ := ins_at hk hs
    refine Sat.go (Eq.refl _) (NS.leave rfl (Eq.refl _) ?_)
    refine Sat.go (Eq.refl _) (NS.need (decide_eq_true (by simp only [maxRow]; omega)) ?_)
    refine Sat.go (Eq.refl _) ?_
    refine NS.loop (σ := { m : Nat // k ≤ m ∧ m ≤ l.length }) (fun m => [(0, slChg l), (5, .own 53), (6, .int .i64 m.1)]) (fun m => [(53, .row 52 11 (m.1 + 1) (rowL Chg.cells ((insM l x).take (m.1 + 1))))]) (fun m => l.length - m.1) ⟨k, Nat.le_refl _, hk⟩ ?_ ?_
    · refine weak_hd [] rfl ⟨rfl, rfl, rfl, trivial⟩ ⟨ren_row rfl rfl ?_, trivial⟩ trivial (by kernel_rfl)
      intro i hi j hj
      have h1 := row_snoc (cells := Chg.cells) (l := l.take k) (x := x) (c := 11) rfl i (by rw [hlt]; exact hi) j hj
      rw [← r2, hlt] at h1
      exact h1
    rintro ⟨m, hkm, hml⟩
    have r4 : ((insM l x).take (m + 1)).length = m + 1 := by rw [List.length_take]; omega
    refine Sat.go (Eq.refl _) (NS.ite (fun c => ?_) (fun c => ?_))
    · have c : m < l.length := by simpa using c
      have r5 := take_snoc (l := insM l x) (k := m + 1) (by omega)
      rw [r3 m hkm c] at r5
      refine Sat.go (Eq.refl _) (NS.need (by simp; omega) ?_)
      refine Sat.go (Eq.refl _) (NS.need (decide_eq_true (by simp only [maxRow]; omega)) ?_)
      refine Sat.go (Eq.refl _) (NS.next ⟨m + 1, by omega, c⟩ (by show l.length - (m + 1) < l.length - m; omega) ?_)
      refine weak_hd [(53, 64)] rfl ⟨rfl, rfl, ren_int rfl (i64_k (k := m) (n := l.length) c (by omega)), trivial⟩ ⟨ren_row rfl rfl ?_, trivial⟩ trivial (by kernel_rfl)
      intro i hi j hj
      have h1 := row_snoc (cells := Chg.cells) (l := (insM l x).take (m + 1)) (x := l.getD m default) (c := 11) rfl i (by rw [r4]; exact hi) j hj
      rw [← r5, r4] at h1
      exact h1
    · have c : l.length ≤ m := by simpa using c
      have e : m = l.length := by omega
      subst e
      refine Sat.go (Eq.refl _) (NS.leave rfl (Eq.refl _) ?_)
      refine Sat.go (Eq.refl _) (NS.retRow 53 rfl rfl (LeA.refl _) ⟨rfl, rfl, rfl, fun i hi j hj => by rw [take_all (by rw [r1]; exact Nat.le_refl _)]⟩ fun _ _ _ _ => flatChg _ _ _)
theorem insert_ok (l : List Chg) (x : Chg) (hl : l.length ≤ 1000000) : FnOK Try.prog 54 [slChg l, .agg x.cells] (slChg (insM l x), none) := by
  have := (insert_row l x hl).frz
  rw [← insM_len l x] at this
  exact this
end Go.Proofs.Ythfbahebeembeaa
