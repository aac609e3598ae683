/- The contracts of the operations on sets, and of the statements' own parts. -/
import Derived.Test.YtfbjgggminmhbaaIH
import Derived.Test.YtfbjgggminmhbaaIL
import Derived.Test.YtfbjgggminmhbaaSyFrz
set_option linter.unusedSimpArgs false
set_option linter.unusedSectionVars false
set_option linter.unusedVariables false
namespace Go.Proofs.Ytfbjgggminmhbaa
open Go.Sy Go.Mb
set_option maxRecDepth 100000
set_option linter.unusedVariables false
set_option maxHeartbeats 1000000

theorem Union_ok (a b : List Spn) : FnOK Try.prog 11 [slS a, slS b] (.tup [slS (combM fU a b).1, .int .i64 (combM fU a b).2], none) := by
  refine fn_ok CN rfl (by kernel_rfl) Try.func11 rfl ?_
  refine Sat.go (Eq.refl _) (NS.call (combineUnion_ok a b) rfl ?_)
  exact Sat.go (Eq.refl _) (NS.ret rfl rfl (LeA.refl _))
theorem Union_set {a b : List Spn} (ha : chkS a = 0) (hb : chkS b = 0) (hn : a.length + b.length ≤ 1000) : FnOK Try.prog 11 [slS a, slS b] (.tup [slS (combL fU a b), .int .i64 0], none) ∧ chkS (combL fU a b) = 0 ∧ (∀ t, hasL (combL fU a b) t = fU (hasL a t) (hasL b t)) ∧ (combL fU a b).length ≤ a.length + b.length := by
  obtain ⟨_, sa⟩ := (chkS_zero a).1 ha
  obtain ⟨_, sb⟩ := (chkS_zero b).1 hb
  obtain ⟨h1, h2, h3⟩ := comb_spec (f := fU) rfl sa sb
  have hm : combM fU a b = (combL fU a b, 0) := by
    unfold combM; rw [ha, hb, if_neg (by simp), if_neg (by omega)]
  have := Union_ok a b
  rw [hm] at this
  exact ⟨this, (chkS_zero _).2 ⟨by omega, h1⟩, h2, h3⟩
theorem Intersect_ok (a b : List Spn) : FnOK Try.prog 19 [slS a, slS b] (.tup [slS (combM fI a b).1, .int .i64 (combM fI a b).2], none) := by
  refine fn_ok CN rfl (by kernel_rfl) Try.func19 rfl ?_
  refine Sat.go (Eq.refl _) (NS.call (combineIntersect_ok a b) rfl ?_)
  exact Sat.go (Eq.refl _) (NS.ret rfl rfl (LeA.refl _))
theorem Intersect_set {a b : List Spn} (ha : chkS a = 0) (hb : chkS b = 0) (hn : a.length + b.length ≤ 1000) : FnOK Try.prog 19 [slS a, slS b] (.tup [slS (combL fI a b), .int .i64 0], none) ∧ chkS (combL fI a b) = 0 ∧ (∀ t, hasL (combL fI a b) t = fI (hasL a t) (hasL b t)) ∧ (combL fI a b).length ≤ a.length + b.length := by
  obtain ⟨_, sa⟩ := (chkS_zero a).1 ha
  obtain ⟨_, sb⟩ := (chkS_zero b).1 hb
  obtain ⟨h1, h2, h3⟩ := comb_spec (f := fI) rfl sa sb
  have hm : combM fI a b = (combL fI a b, 0) := by
    unfold combM; rw [ha, hb, if_neg (by simp), if_neg (by omega)]
  have := Intersect_ok a b
  rw [hm] at this
  exact ⟨this, (chkS_zero _).2 ⟨by omega, h1⟩, h2, h3⟩
theorem Minus_ok (a b : List Spn) : FnOK Try.prog 21 [slS a, slS b] (.tup [slS (combM fM a b).1, .int .i64 (combM fM a b).2], none) := by
  refine fn_ok CN rfl (by kernel_rfl) Try.func21 rfl ?_
  refine Sat.go (Eq.refl _) (NS.call (combineMinus_ok a b) rfl ?_)
  exact Sat.go (Eq.refl _) (NS.ret rfl rfl (LeA.refl _))
theorem Minus_set {a b : List Spn} (ha : chkS a = 0) (hb : chkS b = 0) (hn : a.length + b.length ≤ 1000) : FnOK Try.prog 21 [slS a, slS b] (.tup [slS (combL fM a b), .int .i64 0], none) ∧ chkS (combL fM a b) = 0 ∧ (∀ t, hasL (combL fM a b) t = fM (hasL a t) (hasL b t)) ∧ (combL fM a b).length ≤ a.length + b.length := by
  obtain ⟨_, sa⟩ := (chkS_zero a).1 ha
  obtain ⟨_, sb⟩ := (chkS_zero b).1 hb
  obtain ⟨h1, h2, h3⟩ := comb_spec (f := fM) rfl sa sb
  have hm : combM fM a b = (combL fM a b, 0) := by
    unfold combM; rw [ha, hb, if_neg (by simp), if_neg (by omega)]
  have := Minus_ok a b
  rw [hm] at this
  exact ⟨this, (chkS_zero _).2 ⟨by omega, h1⟩, h2, h3⟩
def exN : List Spn := [⟨5, 7⟩, ⟨1, 3⟩, ⟨3, 4⟩]
theorem ex_norm : normM exN = ([⟨1, 4⟩, ⟨5, 7⟩], 0) := by
  have h1 : exN.any (fun y => !vS y) = false := by kernel_rfl
  have hp : [⟨1, 3⟩, ⟨3, 4⟩, ⟨5, 7⟩].Perm exN := (List.perm_append_comm (l₁ := [(⟨1, 3⟩ : Spn), ⟨3, 4⟩]) (l₂ := [⟨5, 7⟩]))
  have hj := join_perm (all_of_any h1) hp (by simp)
  unfold normM
  rw [if_neg (by decide), if_neg (by rw [h1]; simp), ← hj]
  rfl
theorem ex_minus : combM fM [⟨1, 4⟩, ⟨5, 7⟩] [⟨2, 6⟩] = ([⟨1, 2⟩, ⟨6, 7⟩], 0) := by
  have h1 : chkS [(⟨1, 4⟩ : Spn), ⟨5, 7⟩] = 0 := by kernel_rfl
  have h2 : chkS [(⟨2, 6⟩ : Spn)] = 0 := by kernel_rfl
  have h3 : combL fM [⟨1, 4⟩, ⟨5, 7⟩] [⟨2, 6⟩] = [⟨1, 2⟩, ⟨6, 7⟩] := by simp [combL, flatS, sw, fM, pairS]
  unfold combM
  rw [h1, h2, h3, if_neg (by simp), if_neg (by simp)]
theorem ex_first : firstM [⟨1, 4⟩, ⟨5, 7⟩] 3 2 = (5, 0) := by kernel_rfl
noncomputable def CF (z : List Nat) : Cx := { E := { P := Try.prog, eqT := EN.eqT, frz := z }, inl := [], ok := EN_ok }
theorem awake_ok : FnOK Try.prog 12 [] (.bool true, none) := by
  have c1 := (normal_ok exN)
  rw [ex_norm] at c1
  have c2 := Minus_ok [⟨1, 4⟩, ⟨5, 7⟩] [⟨2, 6⟩]
  rw [ex_minus] at c2
  have c3 := first_ok [⟨1, 4⟩, ⟨5, 7⟩] 3 2
  rw [ex_first] at c3
  have c4 := same_ok [⟨1, 4⟩, ⟨5, 7⟩] [⟨1, 4⟩, ⟨5, 7⟩] (by simp)
  have c5 := same_ok [⟨1, 2⟩, ⟨6, 7⟩] [⟨1, 2⟩, ⟨6, 7⟩] (by simp)
  refine fn_ok (CF [11, 18, 41, 48]) rfl (by kernel_rfl) Try.func12 rfl ?_
  refine Sat.go (Eq.refl _) (NS.call (c1.le (LeL.cons (LeA.sl rfl fun i hi j hj => ?_) LeL.nil)) rfl ?_)
  · match i, j, hi, hj with
    | 0, 0, _, _ => rfl
    | 0, 1, _, _ => rfl
    | 1, 0, _, _ => rfl
    | 1, 1, _, _ => rfl
    | 2, 0, _, _ => rfl
    | 2, 1, _, _ => rfl
  refine Sat.go (Eq.refl _) (NS.call (c2.le (LeL.cons (LeA.refl _) (LeL.cons (LeA.sl rfl fun i hi j hj => ?_) LeL.nil))) rfl ?_)
  · match i, j, hi, hj with
    | 0, 0, _, _ => rfl
    | 0, 1, _, _ => rfl
  refine Sat.go (Eq.refl _) (NS.call c3 rfl ?_)
  refine Sat.go (Eq.refl _) (NS.yes rfl ?_)
  refine Sat.go (Eq.refl _) (NS.yes rfl ?_)
  refine Sat.go (Eq.refl _) (NS.yes rfl ?_)
  refine Sat.go (Eq.refl _) (NS.call (c4.le (LeL.cons (LeA.refl _) (LeL.cons (LeA.sl rfl fun i hi j hj => ?_) LeL.nil))) rfl ?_)
  · match i, j, hi, hj with
    | 0, 0, _, _ => rfl
    | 0, 1, _, _ => rfl
    | 1, 0, _, _ => rfl
    | 1, 1, _, _ => rfl
  refine Sat.go (Eq.refl _) (NS.yes (by kernel_rfl) ?_)
  refine Sat.go (Eq.refl _) (NS.call (c5.le (LeL.cons (LeA.refl _) (LeL.cons (LeA.sl rfl fun i hi j hj => ?_) LeL.nil))) rfl ?_)
  · match i, j, hi, hj with
    | 0, 0, _, _ => rfl
    | 0, 1, _, _ => rfl
    | 1, 0, _, _ => rfl
    | 1, 1, _, _ => rfl
  refine Sat.go (Eq.refl _) (NS.yes (by kernel_rfl) ?_)
  exact Sat.go (Eq.refl _) (NS.ret rfl rfl (LeA.of (congrArg A.bool (by kernel_rfl))))
theorem lWithin_ok (l : List Spn) (t : Int) (hl : l.length ≤ 1000000) : FnOK Try.prog 26 [slS l, .int .i64 t] (.bool (hasL l t), none) := by
  refine fn_ok CN rfl (by kernel_rfl) Try.func26 rfl ?_
  refine Sat.go (Eq.refl _) ?_
  refine NS.loop (σ := { k : Nat // k ≤ l.length ∧ ∀ i, i < k → has1 t (l.getD i default) = false }) (fun k => [(1, .int .i64 t), (7, slS l), (8, .int .i64 l.length), (9, .int .i64 k.1)]) (fun _ => []) (fun k => l.length - k.1) ⟨0, Nat.zero_le _, fun i hi => by omega⟩ ?_ ?_
  · exact weak_hd [] rfl ⟨rfl, rfl, rfl, rfl, trivial⟩ trivial trivial (by kernel_rfl)
  · rintro ⟨k, hk, hn⟩
    have hstep : has1 t (l.getD k default) = false → ∀ i, i < k + 1 → has1 t (l.getD i default) = false := fun h2 i hi => by
      by_cases hik : i = k
      · subst hik; exact h2
      · exact hn i (by omega)
    refine Sat.go (Eq.refl _) (NS.ite (fun h => ?_) (fun h => ?_))
    · simp at h
      refine Sat.go (Eq.refl _) (NS.need (by simp; omega) ?_)
      refine Sat.go (Eq.refl _) (NS.ite (fun h2 => ?_) (fun h2 => ?_))
      · refine Sat.go (Eq.refl _) (NS.ite (fun h3 => ?_) (fun h3 => ?_))
        · refine Sat.go (Eq.refl _) (NS.leaveOut rfl (Eq.refl _) (NS.ret rfl rfl (LeA.of (congrArg A.bool ?_))))
          exact (any_t h (p := has1 t) (and_tt h2 h3)).symm
        · refine Sat.go (Eq.refl _) (NS.next ⟨k + 1, by omega, hstep (and_tf h2 h3)⟩ (by simp; omega) ?_)
          exact weak_hd [] rfl ⟨rfl, rfl, rfl, ren_int rfl (i64_k (k := k) (n := l.length) (by omega) (by omega)), trivial⟩ trivial trivial (by kernel_rfl)
      · refine Sat.go (Eq.refl _) (NS.next ⟨k + 1, by omega, hstep (and_f h2)⟩ (by simp; omega) ?_)
        exact weak_hd [] rfl ⟨rfl, rfl, rfl, ren_int rfl (i64_k (k := k) (n := l.length) (by omega) (by omega)), trivial⟩ trivial trivial (by kernel_rfl)
    · simp at h
      refine Sat.go (Eq.refl _) (NS.leave rfl (Eq.refl _) ?_)
      refine Sat.go (Eq.refl _) (NS.ret rfl rfl (LeA.of (congrArg A.bool ?_)))
      exact (any_f fun i hi => hn i (by omega)).symm
def lC (l : List Spn) : List A := [slS l]
def bad1 (l : List Spn) : Bool := decide ((l.length : Int) > 40) || chkS l != 0
theorem fine_ok (ls : List (List Spn)) (hl : ls.length ≤ 1000) : FnOK Try.prog 14 [.sl 1 ls.length (rowL lC ls)] (.bool (!ls.any bad1), none) := by
  refine fn_ok CN rfl (by kernel_rfl) Try.func14 rfl ?_
  refine Sat.go (Eq.refl _) ?_
  refine NS.loop (σ := { k : Nat // k ≤ ls.length ∧ ∀ i, i < k → bad1 (ls.getD i default) = false }) (fun k => [(5, .sl 1 ls.length (rowL lC ls)), (6, .int .i64 ls.length), (7, .int .i64 k.1)]) (fun _ => []) (fun k => ls.length - k.1) ⟨0, Nat.zero_le _, fun i hi => by omega⟩ ?_ ?_
  · exact weak_hd [] rfl ⟨rfl, rfl, rfl, trivial⟩ trivial trivial (by kernel_rfl)
  · rintro ⟨k, hk, hn⟩
    have hstep : bad1 (ls.getD k default) = false → ∀ i, i < k + 1 → bad1 (ls.getD i default) = false := fun h2 i hi => by
      by_cases hik : i = k
      · subst hik; exact h2
      · exact hn i (by omega)
    refine Sat.go (Eq.refl _) (NS.ite (fun h => ?_) (fun h => ?_))
    · simp at h
      refine Sat.go (Eq.refl _) (NS.need (by simp; omega) ?_)
      refine Sat.go (Eq.refl _) (NS.ite (fun h2 => ?_) (fun h2 => ?_))
      · refine Sat.go (Eq.refl _) (NS.leaveOut rfl (Eq.refl _) (NS.ret rfl rfl (LeA.of (congrArg A.bool ?_))))
        have h2 : decide (((ls.getD k default).length : Int) > 40) = true := h2
        rw [any_t h (p := bad1) (by unfold bad1; rw [h2]; rfl)]; rfl
      · have h2 : decide (((ls.getD k default).length : Int) > 40) = false := h2
        refine Sat.go (Eq.refl _) (NS.call (check_ok (ls.getD k default)) rfl ?_)
        refine Sat.go (Eq.refl _) (NS.ite (fun h3 => ?_) (fun h3 => ?_))
        · refine Sat.go (Eq.refl _) (NS.leaveOut rfl (Eq.refl _) (NS.ret rfl rfl (LeA.of (congrArg A.bool ?_))))
          rw [any_t h (p := bad1) (by unfold bad1; rw [h2, h3]; rfl)]; rfl
        · refine Sat.go (Eq.refl _) (NS.next ⟨k + 1, by omega, hstep (by unfold bad1; rw [h2, h3]; rfl)⟩ (by simp; omega) ?_)
          exact weak_hd [] rfl ⟨rfl, rfl, ren_int rfl (i64_k (k := k) (n := ls.length) (by omega) (by omega)), trivial⟩ trivial trivial (by kernel_rfl)
    · simp at h
      refine Sat.go (Eq.refl _) (NS.leave rfl (Eq.refl _) ?_)
      refine Sat.go (Eq.refl _) (NS.ret rfl rfl (LeA.of (congrArg A.bool ?_)))
      rw [any_f (p := bad1) fun i hi => hn i (by omega)]; rfl
theorem bad1_f {l : List Spn} (h : bad1 l = false) : chkS l = 0 ∧ l.length ≤ 40 := by
  unfold bad1 at h
  simp at h
  exact ⟨h.2, by omega⟩
theorem fine2_ok (a b : List Spn) {el : Nat → Nat → A} (h0 : el 0 0 = slS a) (h1 : el 1 0 = slS b) : FnOK Try.prog 14 [.sl 1 2 el] (.bool (!(bad1 a || bad1 b)), none) := by
  have := fine_ok [a, b] (by simp)
  have e : [a, b].any bad1 = (bad1 a || bad1 b) := by simp
  rw [e] at this
  exact this.le (LeL.cons (LeA.sl rfl fun i hi j hj => by
    match i, j, hi, hj with
    | 0, 0, _, _ => exact h0
    | 1, 0, _, _ => exact h1) LeL.nil)
theorem fine1_ok (a : List Spn) {el : Nat → Nat → A} (h0 : el 0 0 = slS a) : FnOK Try.prog 14 [.sl 1 1 el] (.bool (!bad1 a), none) := by
  have := fine_ok [a] (by simp)
  have e : [a].any bad1 = bad1 a := by simp
  rw [e] at this
  exact this.le (LeL.cons (LeA.sl rfl fun i hi j hj => by
    match i, j, hi, hj with
    | 0, 0, _, _ => exact h0) LeL.nil)
theorem fine3_ok (a b c : List Spn) {el : Nat → Nat → A} (h0 : el 0 0 = slS a) (h1 : el 1 0 = slS b) (h2 : el 2 0 = slS c) : FnOK Try.prog 14 [.sl 1 3 el] (.bool (!(bad1 a || (bad1 b || bad1 c))), none) := by
  have := fine_ok [a, b, c] (by simp)
  have e : [a, b, c].any bad1 = (bad1 a || (bad1 b || bad1 c)) := by simp
  rw [e] at this
  exact this.le (LeL.cons (LeA.sl rfl fun i hi j hj => by
    match i, j, hi, hj with
    | 0, 0, _, _ => exact h0
    | 1, 0, _, _ => exact h1
    | 2, 0, _, _ => exact h2) LeL.nil)
theorem or_f {x y : Bool} (h : (!(x || y)) = true) : x = false ∧ y = false := by cases x <;> cases y <;> first | exact ⟨rfl, rfl⟩ | cases h
end Go.Proofs.Ytfbjgggminmhbaa
