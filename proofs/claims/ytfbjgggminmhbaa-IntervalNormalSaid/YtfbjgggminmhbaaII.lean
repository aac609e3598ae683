/- The walks of the reference's operations on sets. -/
import Derived.Test.YtfbjgggminmhbaaIF
import Derived.Test.YtfbjgggminmhbaaIP
import Derived.Test.YtfbjgggminmhbaaSyFrz
set_option linter.unusedSimpArgs false
set_option linter.unusedSectionVars false
set_option linter.unusedVariables false
namespace Go.Proofs.Ytfbjgggminmhbaa
open Go.Sy Go.Mb
set_option maxRecDepth 100000
set_option linter.unusedVariables false
set_option maxHeartbeats 1000000

theorem insA_step {l : List Spn} {x : Spn} {k : Nat} (h : k < l.length) (hx : (l.getD k default).hi < x.lo) : insA (l.drop k) x = l.getD k default :: insA (l.drop (k + 1)) x := by
  rw [drop_cons h, insA, if_pos hx]
theorem insA_stop {l : List Spn} {x : Spn} {k : Nat} (h : k < l.length) (hx : ¬ (l.getD k default).hi < x.lo) : insA (l.drop k) x = insB (l.drop k) x := by
  rw [drop_cons h, insA, if_neg hx]
theorem insA_end {l : List Spn} {x : Spn} {k : Nat} (h : l.length ≤ k) : insA (l.drop k) x = insB (l.drop k) x := by
  rw [drop_end h, insA, insB]
theorem insB_step {l : List Spn} {x : Spn} {k : Nat} (h : k < l.length) (hx : (l.getD k default).lo ≤ x.hi) : insB (l.drop k) x = insB (l.drop (k + 1)) ⟨min x.lo (l.getD k default).lo, max x.hi (l.getD k default).hi⟩ := by
  rw [drop_cons h, insB, if_pos hx]
theorem insB_stop {l : List Spn} {x : Spn} {k : Nat} (h : k < l.length) (hx : ¬ (l.getD k default).lo ≤ x.hi) : insB (l.drop k) x = x :: l.drop k := by
  rw [drop_cons h, insB, if_neg hx]
theorem insB_end {l : List Spn} {x : Spn} {k : Nat} (h : l.length ≤ k) : insB (l.drop k) x = x :: l.drop k := by
  rw [drop_end h, insB]
theorem min_a (a b : Int) : (if b < a then b else a) = min a b := by split <;> omega
theorem row_ins (l : List Spn) (y : Spn) {k m : Nat} (hk : k ≤ l.length) (i j : Nat) : (if i < k + 1 then (if i < k then rowL Spn.cells (l.take k) i j else getA y.cells ((i - k) * 2 + j)) else rowL Spn.cells l (m + (i - (k + 1))) j) = rowL Spn.cells (l.take k ++ y :: l.drop m) i j := by
  unfold rowL
  have hl : (l.take k).length = k := by simp; omega
  by_cases h1 : i < k
  · rw [if_pos (by omega), if_pos h1, getD_append_left (by omega)]
  · rw [getD_append_right (by omega), hl]
    by_cases h2 : i < k + 1
    · rw [if_pos h2, if_neg h1]
      have : i - k = 0 := by omega
      rw [this]; simp
    · rw [if_neg h2]
      obtain ⟨e, he⟩ : ∃ e, i - k = e + 1 := ⟨i - k - 1, by omega⟩
      rw [he, show i - (k + 1) = e by omega]
      simp [List.getD]
theorem rInsert_ok (l : List Spn) (x : Spn) (hl : l.length ≤ 1000000) : FnOK Try.prog 41 [slS l, .agg x.cells] (.own 0, some (.row 24 2 (insA l x).length (rowL Spn.cells (insA l x)))) := by
  refine fn_ok CN rfl (by kernel_rfl) Try.func41 rfl ?_
  generalize hr : insA l x = r
  refine Sat.go (Eq.refl _) ?_
  refine NS.loop (σ := { k : Nat // k ≤ l.length ∧ r = l.take k ++ insA (l.drop k) x }) (fun k => [(0, slS l), (3, .ptr 3 0), (5, .own 7), (6, .int .i64 k.1)]) (fun k => [(3, .box x.cells), (7, .row 24 2 k.1 (rowL Spn.cells (l.take k.1)))]) (fun k => l.length - k.1) ⟨0, Nat.zero_le _, by simp [hr]⟩ ?_ ?_
  · exact weak_hd [] rfl ⟨rfl, rfl, rfl, rfl, trivial⟩ ⟨⟨_, rfl, ren_spn _ _⟩, ren_row rfl rfl (fun i hi => absurd hi (Nat.not_lt_zero _)), trivial⟩ trivial (by kernel_rfl)
  rintro ⟨k, hk, hn⟩
  by_cases hgo : k < l.length ∧ (l.getD k default).hi < x.lo
  · obtain ⟨h, h2⟩ := hgo
    refine Sat.go (Eq.refl _) (NS.chk (by kernel_rfl) ?_)
    refine Sat.go (Eq.refl _) (NS.yes (by simpa using h) ?_)
    refine Sat.go (Eq.refl _) (NS.need (by simp; omega) ?_)
    refine Sat.go (Eq.refl _) (NS.yes (decide_eq_true h2) ?_)
    rw [insA_step h h2] at hn
    refine Sat.go (Eq.refl _) (NS.need (by simp; omega) ?_)
    refine Sat.go (Eq.refl _) (NS.need (decide_eq_true (by simp only [maxRow]; omega)) ?_)
    refine Sat.go (Eq.refl _) (NS.next ⟨k + 1, by omega, by rw [take_snoc h]; simpa using hn⟩ (by simp; omega) ?_)
    refine weak_hd [(7, 28)] rfl ⟨rfl, rfl, rfl, ren_int rfl (i64_k (k := k) (n := l.length) (by omega) (by omega)), trivial⟩ ⟨⟨_, rfl, ren_spn _ _⟩, ren_row rfl rfl fun i hi j hj => ?_, trivial⟩ trivial (by kernel_rfl)
    have hlen : (l.take k).length = k := by simp; omega
    have := row_snoc (cells := Spn.cells) (l := l.take k) (x := l.getD k default) (c := 2) rfl i (by rw [hlen]; exact hi) j hj
    rw [← take_snoc h, hlen] at this
    exact this
  have hn1 : r = l.take k ++ insB (l.drop k) x := by
    by_cases h : k < l.length
    · rw [insA_stop h (fun h2 => hgo ⟨h, h2⟩)] at hn; exact hn
    · rw [insA_end (by omega)] at hn; exact hn
  by_cases h : k < l.length
  · refine Sat.go (Eq.refl _) (NS.chk (by kernel_rfl) ?_)
    refine Sat.go (Eq.refl _) (NS.yes (by simpa using h) (Sat.go (Eq.refl _) (NS.need (by simp; omega) (Sat.go (Eq.refl _) (NS.no (decide_eq_false (fun h2 => hgo ⟨h, h2⟩)) (Sat.go (Eq.refl _) (NS.leave rfl (Eq.refl _) ?_)))))))
    refine Sat.go (Eq.refl _) ?_
    refine NS.loop (σ := { p : Nat × Spn // p.1 ≤ l.length ∧ r = l.take k ++ insB (l.drop p.1) p.2 }) (fun p => [(0, slS l), (3, .ptr 3 0), (5, .own 7), (6, .int .i64 p.1.1)]) (fun p => [(3, .box p.1.2.cells), (7, .row 24 2 k (rowL Spn.cells (l.take k)))]) (fun p => l.length - p.1.1) ⟨(k, x), hk, hn1⟩ ?_ ?_
    · exact weak_hd [] rfl ⟨rfl, rfl, rfl, rfl, trivial⟩ ⟨⟨_, rfl, ren_spn _ _⟩, ren_row rfl rfl (fun i hi j hj => rfl), trivial⟩ trivial (by kernel_rfl)
    rintro ⟨⟨m, y⟩, hm, hn2⟩
    simp only at hm hn2
    by_cases h3 : m < l.length ∧ (l.getD m default).lo ≤ y.hi
    · obtain ⟨h3, h4⟩ := h3
      rw [insB_step h3 h4] at hn2
      refine Sat.go (Eq.refl _) (NS.chk (by kernel_rfl) ?_)
      refine Sat.go (Eq.refl _) (NS.yes (by simpa using h3) ?_)
      refine Sat.go (Eq.refl _) (NS.need (by simp; omega) ?_)
      refine Sat.go (Eq.refl _) (NS.yes (decide_eq_true h4) ?_)
      refine Sat.go (Eq.refl _) (NS.chk (by kernel_rfl) ?_)
      refine Sat.go (Eq.refl _) (NS.need (by simp; omega) ?_)
      refine Sat.go (Eq.refl _) (NS.need (by simp; omega) ?_)
      refine Sat.go (Eq.refl _) (NS.next ⟨(m + 1, ⟨min y.lo (l.getD m default).lo, max y.hi (l.getD m default).hi⟩), by simp only; omega, hn2⟩ (by simp only; omega) ?_)
      exact weak_hd [] rfl ⟨rfl, rfl, rfl, ren_int rfl (i64_k (k := m) (n := l.length) (by omega) (by omega)), trivial⟩ ⟨⟨_, rfl, _, _, rfl, ren_int rfl (min_a _ _), _, _, rfl, ren_int rfl (max_a _ _), rfl⟩, ren_row rfl rfl (fun i hi j hj => rfl), trivial⟩ trivial (by kernel_rfl)
    have hn3 : r = l.take k ++ y :: l.drop m := by
      by_cases h : m < l.length
      · rw [insB_stop h (fun h2 => h3 ⟨h, h2⟩)] at hn2; exact hn2
      · rw [insB_end (by omega)] at hn2; exact hn2
    subst hn3
    refine Sat.go (Eq.refl _) (NS.chk (by kernel_rfl) ?_)
    by_cases h : m < l.length
    · refine Sat.go (Eq.refl _) (NS.yes (by simpa using h) (Sat.go (Eq.refl _) (NS.need (by simp; omega) (Sat.go (Eq.refl _) (NS.no (decide_eq_false (fun h2 => h3 ⟨h, h2⟩)) (Sat.go (Eq.refl _) (NS.leave rfl (Eq.refl _) ?_)))))))
      refine Sat.go (Eq.refl _) (NS.chk (by kernel_rfl) ?_)
      refine Sat.go (Eq.refl _) (NS.need (decide_eq_true (by simp only [maxRow]; omega)) ?_)
      refine Sat.go (Eq.refl _) (NS.need (by simp; omega) ?_)
      refine Sat.go (Eq.refl _) (NS.need (decide_eq_true (by simp only [maxRow]; omega)) ?_)
      exact Sat.go (Eq.refl _) (NS.retRow 71 rfl rfl (LeA.refl _) ⟨rfl, rfl, by simp; omega, fun i hi j hj => row_ins l y (m := m) hk i j⟩ fun _ _ _ _ => flatSp _ _ _)
    · refine Sat.go (Eq.refl _) (NS.no (by simpa using h) (Sat.go (Eq.refl _) (NS.leave rfl (Eq.refl _) ?_)))
      refine Sat.go (Eq.refl _) (NS.chk (by kernel_rfl) ?_)
      refine Sat.go (Eq.refl _) (NS.need (decide_eq_true (by simp only [maxRow]; omega)) ?_)
      refine Sat.go (Eq.refl _) (NS.need (by simp; omega) ?_)
      refine Sat.go (Eq.refl _) (NS.need (decide_eq_true (by simp only [maxRow]; omega)) ?_)
      exact Sat.go (Eq.refl _) (NS.retRow 71 rfl rfl (LeA.refl _) ⟨rfl, rfl, by simp; omega, fun i hi j hj => row_ins l y (m := m) hk i j⟩ fun _ _ _ _ => flatSp _ _ _)
  · refine Sat.go (Eq.refl _) (NS.chk (by kernel_rfl) ?_)
    refine Sat.go (Eq.refl _) (NS.no (by simpa using h) (Sat.go (Eq.refl _) (NS.leave rfl (Eq.refl _) ?_)))
    refine Sat.go (Eq.refl _) ?_
    refine NS.loop (σ := { p : Nat × Spn // p.1 ≤ l.length ∧ r = l.take k ++ insB (l.drop p.1) p.2 }) (fun p => [(0, slS l), (3, .ptr 3 0), (5, .own 7), (6, .int .i64 p.1.1)]) (fun p => [(3, .box p.1.2.cells), (7, .row 24 2 k (rowL Spn.cells (l.take k)))]) (fun p => l.length - p.1.1) ⟨(k, x), hk, hn1⟩ ?_ ?_
    · exact weak_hd [] rfl ⟨rfl, rfl, rfl, rfl, trivial⟩ ⟨⟨_, rfl, ren_spn _ _⟩, ren_row rfl rfl (fun i hi j hj => rfl), trivial⟩ trivial (by kernel_rfl)
    rintro ⟨⟨m, y⟩, hm, hn2⟩
    simp only at hm hn2
    by_cases h3 : m < l.length ∧ (l.getD m default).lo ≤ y.hi
    · obtain ⟨h3, h4⟩ := h3
      rw [insB_step h3 h4] at hn2
      refine Sat.go (Eq.refl _) (NS.chk (by kernel_rfl) ?_)
      refine Sat.go (Eq.refl _) (NS.yes (by simpa using h3) ?_)
      refine Sat.go (Eq.refl _) (NS.need (by simp; omega) ?_)
      refine Sat.go (Eq.refl _) (NS.yes (decide_eq_true h4) ?_)
      refine Sat.go (Eq.refl _) (NS.chk (by kernel_rfl) ?_)
      refine Sat.go (Eq.refl _) (NS.need (by simp; omega) ?_)
      refine Sat.go (Eq.refl _) (NS.need (by simp; omega) ?_)
      refine Sat.go (Eq.refl _) (NS.next ⟨(m + 1, ⟨min y.lo (l.getD m default).lo, max y.hi (l.getD m default).hi⟩), by simp only; omega, hn2⟩ (by simp only; omega) ?_)
      exact weak_hd [] rfl ⟨rfl, rfl, rfl, ren_int rfl (i64_k (k := m) (n := l.length) (by omega) (by omega)), trivial⟩ ⟨⟨_, rfl, _, _, rfl, ren_int rfl (min_a _ _), _, _, rfl, ren_int rfl (max_a _ _), rfl⟩, ren_row rfl rfl (fun i hi j hj => rfl), trivial⟩ trivial (by kernel_rfl)
    have hn3 : r = l.take k ++ y :: l.drop m := by
      by_cases h : m < l.length
      · rw [insB_stop h (fun h2 => h3 ⟨h, h2⟩)] at hn2; exact hn2
      · rw [insB_end (by omega)] at hn2; exact hn2
    subst hn3
    refine Sat.go (Eq.refl _) (NS.chk (by kernel_rfl) ?_)
    by_cases h : m < l.length
    · refine Sat.go (Eq.refl _) (NS.yes (by simpa using h) (Sat.go (Eq.refl _) (NS.need (by simp; omega) (Sat.go (Eq.refl _) (NS.no (decide_eq_false (fun h2 => h3 ⟨h, h2⟩)) (Sat.go (Eq.refl _) (NS.leave rfl (Eq.refl _) ?_)))))))
      refine Sat.go (Eq.refl _) (NS.chk (by kernel_rfl) ?_)
      refine Sat.go (Eq.refl _) (NS.need (decide_eq_true (by simp only [maxRow]; omega)) ?_)
      refine Sat.go (Eq.refl _) (NS.need (by simp; omega) ?_)
      refine Sat.go (Eq.refl _) (NS.need (decide_eq_true (by simp only [maxRow]; omega)) ?_)
      exact Sat.go (Eq.refl _) (NS.retRow 71 rfl rfl (LeA.refl _) ⟨rfl, rfl, by simp; omega, fun i hi j hj => row_ins l y (m := m) hk i j⟩ fun _ _ _ _ => flatSp _ _ _)
    · refine Sat.go (Eq.refl _) (NS.no (by simpa using h) (Sat.go (Eq.refl _) (NS.leave rfl (Eq.refl _) ?_)))
      refine Sat.go (Eq.refl _) (NS.chk (by kernel_rfl) ?_)
      refine Sat.go (Eq.refl _) (NS.need (decide_eq_true (by simp only [maxRow]; omega)) ?_)
      refine Sat.go (Eq.refl _) (NS.need (by simp; omega) ?_)
      refine Sat.go (Eq.refl _) (NS.need (decide_eq_true (by simp only [maxRow]; omega)) ?_)
      exact Sat.go (Eq.refl _) (NS.retRow 71 rfl rfl (LeA.refl _) ⟨rfl, rfl, by simp; omega, fun i hi j hj => row_ins l y (m := m) hk i j⟩ fun _ _ _ _ => flatSp _ _ _)
theorem rInsertF (l : List Spn) (x : Spn) (hl : l.length ≤ 1000000) : FnOK Try.prog 41 [slS l, .agg x.cells] (slS (insA l x), none) := (rInsert_ok l x hl).frz
noncomputable def CG (z : List Nat) : Cx := { E := { P := Try.prog, eqT := EN.eqT, frz := z }, inl := [], ok := EN_ok }
theorem nil_le {el : Nat → Nat → A} : LeA (.sl 2 0 el) (slS []) := LeA.sl rfl fun i hi => absurd hi (Nat.not_lt_zero _)
theorem foldI_snoc {a b : List Spn} {k : Nat} (h : k < b.length) : foldI a (b.take (k + 1)) = insA (foldI a (b.take k)) (b.getD k default) := by
  unfold foldI; rw [take_snoc h, List.foldl_append]; rfl
theorem rNormal_ok (l : List Spn) : FnOK Try.prog 28 [slS l] (.tup [slS (normM l).1, .int .i64 (normM l).2], none) := by
  refine fn_ok (CG [9, 10, 23]) rfl (by kernel_rfl) Try.func28 rfl ?_
  refine Sat.go (Eq.refl _) (NS.ite (fun h0 => ?_) (fun h0 => ?_))
  · refine Sat.go (Eq.refl _) (NS.ret rfl rfl (nrm_le (l := []) ?_ nil_le))
    unfold normM; rw [if_pos (by simp at h0; omega)]
  have hl : l.length ≤ 1000 := by simp at h0; omega
  refine Sat.go (Eq.refl _) ?_
  refine NS.loop (σ := { k : Nat // k ≤ l.length ∧ ∀ i, i < k → vS (l.getD i default) = true }) (fun k => [(0, slS l), (4, slS (foldI [] (l.take k.1))), (5, .int .i64 k.1)]) (fun k => []) (fun k => l.length - k.1) ⟨0, Nat.zero_le _, fun i hi => by omega⟩ ?_ ?_
  · refine (weak_slot 4 (x := slS []) ?_).trans (weak_hd [] rfl ⟨rfl, rfl, rfl, trivial⟩ trivial trivial (by kernel_rfl))
    exact nil_le (el := fun _ _ => .junk)
  rintro ⟨k, hk, hn⟩
  have hall : ∀ x ∈ l.take k, vS x = true := by
    intro x hx
    obtain ⟨i, hi, rfl⟩ := List.getElem_of_mem hx
    rw [List.getElem_take, ← getD_lt]
    exact hn i (by simp at hi; omega)
  have hlen := (foldI_spec (l.take k) [] set_nil hall).2.2
  simp only [List.length_nil, List.length_take] at hlen
  refine Sat.go (Eq.refl _) (NS.ite (fun h => ?_) (fun h => ?_))
  · have h : k < l.length := by simpa using h
    refine Sat.go (Eq.refl _) (NS.need (by simp; omega) ?_)
    refine Sat.go (Eq.refl _) (NS.call (rValid_ok (l.getD k default)) rfl ?_)
    refine Sat.go (Eq.refl _) (NS.ite (fun h2 => ?_) (fun h2 => ?_))
    · refine Sat.go (Eq.refl _) (NS.leaveOut rfl (Eq.refl _) (NS.ret rfl rfl (nrm_le (l := []) ?_ nil_le)))
      have : l.any (fun y => !vS y) = true := any_t h (p := fun y => !vS y) h2
      unfold normM; rw [if_neg (by omega), if_pos this]
    · have hv := not_f h2
      refine Sat.go (Eq.refl _) (NS.need (by simp; omega) ?_)
      refine Sat.go (Eq.refl _) (NS.call (rInsertF (foldI [] (l.take k)) (l.getD k default) (by omega)) rfl ?_)
      refine Sat.go (Eq.refl _) (NS.next ⟨k + 1, by omega, fun i hi => ?_⟩ (by simp; omega) ?_)
      · by_cases hik : i = k
        · subst hik; exact hv
        · exact hn i (by omega)
      · exact (weak_hd [] rfl ⟨rfl, (by show RenA _ (slS (foldI [] (l.take (k + 1)))) _; rw [foldI_snoc h]; rfl), ren_int rfl (i64_k (k := k) (n := l.length) (by omega) (by omega)), trivial⟩ trivial trivial (by kernel_rfl))
  · have h : l.length ≤ k := by simpa using h
    rw [take_all h] at hall
    have hm : normM l = (foldI [] (l.take k), 0) := by
      have hb : l.any (fun y => !vS y) = false := by
        rw [List.any_eq_false]; intro x hx; rw [hall x hx]; simp
      unfold normM; rw [if_neg (by omega), if_neg (by rw [hb]; simp), take_all h, foldI_norm hall]
    refine Sat.go (Eq.refl _) (NS.leave rfl (Eq.refl _) ?_)
    exact Sat.go (Eq.refl _) (NS.ret rfl rfl (nrm_le hm (LeA.refl _)))
def limM (l : List Spn) : List Spn × Int := if l.length > 1000 then ([], 4) else (l, 0)
theorem rLimited_ok (l : List Spn) : FnOK Try.prog 42 [slS l] (.tup [slS (limM l).1, .int .i64 (limM l).2], none) := by
  refine fn_ok (CG [7]) rfl (by kernel_rfl) Try.func42 rfl ?_
  refine Sat.go (Eq.refl _) (NS.ite (fun h0 => ?_) (fun h0 => ?_))
  · refine Sat.go (Eq.refl _) (NS.ret rfl rfl (nrm_le (l := []) ?_ nil_le))
    unfold limM; rw [if_pos (by simp at h0; omega)]
  · refine Sat.go (Eq.refl _) (NS.ret rfl rfl (nrm_le ?_ (LeA.refl _)))
    unfold limM; rw [if_neg (by simp at h0; omega)]
theorem rBad_ok (a b : List Spn) : FnOK Try.prog 40 [slS a, slS b] (.bool (chkS a != 0 || chkS b != 0), none) := by
  refine fn_ok CN rfl (by kernel_rfl) Try.func40 rfl ?_
  refine Sat.go (Eq.refl _) (NS.call (rCheck_ok a) rfl ?_)
  refine Sat.go (Eq.refl _) (NS.ite (fun h => ?_) (fun h => ?_))
  · refine Sat.go (Eq.refl _) (NS.ret rfl rfl (LeA.of (congrArg A.bool ?_)))
    rw [h]; rfl
  · refine Sat.go (Eq.refl _) (NS.call (rCheck_ok b) rfl ?_)
    refine Sat.go (Eq.refl _) (NS.ret rfl rfl (LeA.of (congrArg A.bool ?_)))
    rw [h]; rfl
theorem app_nil_row {a : List Spn} (i : Nat) (j : Nat) : (if i < 0 then A.junk else rowL Spn.cells a (i - 0) j) = rowL Spn.cells a i j := rfl
theorem or_split {x y : Bool} (h : (x || y) = false) : x = false ∧ y = false := by cases x <;> cases y <;> first | exact ⟨rfl, rfl⟩ | cases h
def refM (x : List Spn) (a b : List Spn) : List Spn × Int := if chkS a != 0 || chkS b != 0 then ([], 1) else limM x
theorem rUnion_ok (a b : List Spn) : FnOK Try.prog 18 [slS a, slS b] (.tup [slS (refM (foldI a b) a b).1, .int .i64 (refM (foldI a b) a b).2], none) := by
  refine fn_ok (CG [11]) rfl (by kernel_rfl) Try.func18 rfl ?_
  refine Sat.go (Eq.refl _) (NS.call (rBad_ok a b) rfl ?_)
  refine Sat.go (Eq.refl _) (NS.ite (fun h0 => ?_) (fun h0 => ?_))
  · refine Sat.go (Eq.refl _) (NS.ret rfl rfl (nrm_le (l := []) ?_ nil_le))
    unfold refM; rw [if_pos h0]
  have hm : refM (foldI a b) a b = limM (foldI a b) := by unfold refM; rw [if_neg (by rw [h0]; simp)]
  obtain ⟨ha, hb⟩ := or_split h0
  obtain ⟨la, sa⟩ := (chkS_zero a).1 (chk_z ha)
  obtain ⟨lb, sb⟩ := (chkS_zero b).1 (chk_z hb)
  rw [hm]
  refine Sat.go (Eq.refl _) (NS.need (decide_eq_true (by simp only [maxRow]; omega)) ?_)
  refine Sat.go (Eq.refl _) ?_
  refine NS.loop (σ := { k : Nat // k ≤ b.length }) (fun k => [(0, slS a), (1, slS b), (6, slS (foldI a (b.take k.1))), (7, .int .i64 k.1)]) (fun k => []) (fun k => b.length - k.1) ⟨0, Nat.zero_le _⟩ ?_ ?_
  · refine ((weak_freeze 6 14 rfl rfl).trans (weak_slot 6 (x := slS a) ?_)).trans (weak_hd [] rfl ⟨rfl, rfl, rfl, rfl, trivial⟩ trivial trivial (by kernel_rfl))
    exact LeA.sl (c := 2) (n := 0 + a.length) (n' := a.length) (el := fun q j => if q < 0 then A.junk else rowL Spn.cells a (q - 0) j) (el' := rowL Spn.cells a) (by simp) fun i hi j hj => rfl
  rintro ⟨k, hk⟩
  have hlen := (foldI_spec (b.take k) a sa (fun x hx => set_all sb x (List.mem_of_mem_take hx))).2.2
  simp only [List.length_take] at hlen
  refine Sat.go (Eq.refl _) (NS.ite (fun h => ?_) (fun h => ?_))
  · have h : k < b.length := by simpa using h
    refine Sat.go (Eq.refl _) (NS.need (by simp; omega) ?_)
    refine Sat.go (Eq.refl _) (NS.call (rInsertF (foldI a (b.take k)) (b.getD k default) (by omega)) rfl ?_)
    refine Sat.go (Eq.refl _) (NS.next ⟨k + 1, by omega⟩ (by simp; omega) ?_)
    exact (weak_hd [] rfl ⟨rfl, rfl, (by show RenA _ (slS (foldI a (b.take (k + 1)))) _; rw [foldI_snoc h]; rfl), ren_int rfl (i64_k (k := k) (n := b.length) (by omega) (by omega)), trivial⟩ trivial trivial (by kernel_rfl))
  · have h : b.length ≤ k := by simpa using h
    refine Sat.go (Eq.refl _) (NS.leave rfl (Eq.refl _) ?_)
    rw [take_all h]
    refine Sat.go (Eq.refl _) (NS.call (rLimited_ok (foldI a b)) rfl ?_)
    exact Sat.go (Eq.refl _) (NS.ret rfl rfl (LeA.refl _))
end Go.Proofs.Ytfbjgggminmhbaa
