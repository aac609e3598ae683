/- The contracts of the end points, and how combining goes on, in plain words. -/
import Derived.Test.YtfbjgggminmhbaaIF
set_option linter.unusedSimpArgs false
set_option linter.unusedSectionVars false
set_option linter.unusedVariables false
namespace Go.Mb
open Go.Sy
theorem flat_getD : ∀ (l : List Spn) (p : Nat), p < 2 * l.length → (flatS l).getD p default = if p % 2 = 1 then (l.getD (p / 2) default).hi else (l.getD (p / 2) default).lo
  | [], p, h => by simp at h
  | x :: l, 0, _ => by simp [flatS]
  | x :: l, 1, _ => by simp [flatS]
  | x :: l, p + 2, h => by
    have ih := flat_getD l p (by simp at h; omega)
    have e1 : (p + 2) / 2 = p / 2 + 1 := by omega
    have e2 : (p + 2) % 2 = p % 2 := by omega
    rw [e1, e2]
    simpa [flatS] using ih
/-- The p-th end point, if there is one. -/
def nxP (l : List Spn) (p : Nat) : Int × Bool := if p < 2 * l.length then ((flatS l).getD p default, true) else (0, false)
def odd (p : Nat) : Bool := decide (p % 2 = 1)
theorem odd_s (p : Nat) : odd (p + 1) = !odd p := by
  unfold odd; rw [← decide_not]; apply decide_eq_decide.2; omega
def sideC (l : List Spn) (p : Nat) : List A := [slS l, .int .i64 ((p / 2 : Nat) : Int), .bool (odd p)]
/-- How combining goes on: the positions, and the points found. -/
structure Inv (f : Bool → Bool → Bool) (a b : List Spn) (p q : Nat) (r : List Int) : Prop where
  hp : p ≤ 2 * a.length
  hq : q ≤ 2 * b.length
  go : r ++ sw f ((flatS a).drop p) ((flatS b).drop q) (odd p) (odd q) = sw f (flatS a) (flatS b) false false
  par : odd r.length = f (odd p) (odd q)
  len : r.length ≤ p + q
theorem Inv.start {f : Bool → Bool → Bool} (hf : f false false = false) (a b : List Spn) : Inv f a b 0 0 [] := ⟨by omega, by omega, rfl, hf.symm, by simp⟩
def emit (old new : Bool) (t : Int) (r : List Int) : List Int := if new == old then r else r ++ [t]
theorem emit_len (o n : Bool) (t : Int) (r : List Int) : (emit o n t r).length ≤ r.length + 1 := by unfold emit; split <;> simp
theorem emit_par {o n : Bool} {t : Int} {r : List Int} (h : odd r.length = o) : odd (emit o n t r).length = n := by
  unfold emit
  split
  · rename_i e; rw [h]; exact (eq_of_beq e).symm
  · rename_i e
    rw [List.length_append, List.length_singleton, odd_s, h]
    cases o <;> cases n <;> simp_all
theorem emit_sw {o n : Bool} {t : Int} {r m : List Int} : r ++ (if n == o then m else t :: m) = emit o n t r ++ m := by
  unfold emit; split <;> simp
section
variable {f : Bool → Bool → Bool} {a b : List Spn} {p q : Nat} {r : List Int}
theorem Inv.x (h : Inv f a b p q r) (h1 : p < 2 * a.length) (h2 : ¬ q < 2 * b.length) : Inv f a b (p + 1) q (emit (f (odd p) (odd q)) (f (!odd p) (odd q)) ((flatS a).getD p default) r) := by
  have hg := h.go
  rw [drop_cons (l := flatS a) (by rw [flat_len]; exact h1), drop_end (l := flatS b) (by rw [flat_len]; omega), sw, emit_sw] at hg
  refine ⟨by omega, h.hq, ?_, ?_, Nat.le_trans (emit_len _ _ _ _) (by have := h.len; omega)⟩
  · rw [odd_s, drop_end (l := flatS b) (by rw [flat_len]; omega)]; exact hg
  · rw [odd_s]; exact emit_par h.par
theorem Inv.y (h : Inv f a b p q r) (h1 : ¬ p < 2 * a.length) (h2 : q < 2 * b.length) : Inv f a b p (q + 1) (emit (f (odd p) (odd q)) (f (odd p) (!odd q)) ((flatS b).getD q default) r) := by
  have hg := h.go
  rw [drop_end (l := flatS a) (by rw [flat_len]; omega), drop_cons (l := flatS b) (by rw [flat_len]; exact h2), sw, emit_sw] at hg
  refine ⟨h.hp, by omega, ?_, ?_, Nat.le_trans (emit_len _ _ _ _) (by have := h.len; omega)⟩
  · rw [odd_s, drop_end (l := flatS a) (by rw [flat_len]; omega)]; exact hg
  · rw [odd_s]; exact emit_par h.par
theorem Inv.lt (h : Inv f a b p q r) (h1 : p < 2 * a.length) (h2 : q < 2 * b.length) (hl : (flatS a).getD p default < (flatS b).getD q default) : Inv f a b (p + 1) q (emit (f (odd p) (odd q)) (f (!odd p) (odd q)) ((flatS a).getD p default) r) := by
  have hg := h.go
  rw [drop_cons (l := flatS a) (by rw [flat_len]; exact h1), drop_cons (l := flatS b) (by rw [flat_len]; exact h2), sw, if_pos hl, emit_sw] at hg
  refine ⟨by omega, h.hq, ?_, ?_, Nat.le_trans (emit_len _ _ _ _) (by have := h.len; omega)⟩
  · rw [odd_s, drop_cons (l := flatS b) (by rw [flat_len]; exact h2)]; exact hg
  · rw [odd_s]; exact emit_par h.par
theorem Inv.gt (h : Inv f a b p q r) (h1 : p < 2 * a.length) (h2 : q < 2 * b.length) (hl : (flatS b).getD q default < (flatS a).getD p default) : Inv f a b p (q + 1) (emit (f (odd p) (odd q)) (f (odd p) (!odd q)) ((flatS b).getD q default) r) := by
  have hg := h.go
  rw [drop_cons (l := flatS a) (by rw [flat_len]; exact h1), drop_cons (l := flatS b) (by rw [flat_len]; exact h2), sw, if_neg (by omega), if_pos hl, emit_sw] at hg
  refine ⟨h.hp, by omega, ?_, ?_, Nat.le_trans (emit_len _ _ _ _) (by have := h.len; omega)⟩
  · rw [odd_s, drop_cons (l := flatS a) (by rw [flat_len]; exact h1)]; exact hg
  · rw [odd_s]; exact emit_par h.par
theorem Inv.eq (h : Inv f a b p q r) (h1 : p < 2 * a.length) (h2 : q < 2 * b.length) (hl : (flatS a).getD p default = (flatS b).getD q default) : Inv f a b (p + 1) (q + 1) (emit (f (odd p) (odd q)) (f (!odd p) (!odd q)) ((flatS a).getD p default) r) := by
  have hg := h.go
  rw [drop_cons (l := flatS a) (by rw [flat_len]; exact h1), drop_cons (l := flatS b) (by rw [flat_len]; exact h2), sw, if_neg (by omega), if_neg (by omega), emit_sw] at hg
  refine ⟨by omega, by omega, ?_, ?_, Nat.le_trans (emit_len _ _ _ _) (by have := h.len; omega)⟩
  · rw [odd_s, odd_s]; exact hg
  · rw [odd_s, odd_s]; exact emit_par h.par
theorem Inv.fin (h : Inv f a b p q r) (h1 : ¬ p < 2 * a.length) (h2 : ¬ q < 2 * b.length) : pairS r = combL f a b := by
  have hg := h.go
  rw [drop_end (l := flatS a) (by rw [flat_len]; omega), drop_end (l := flatS b) (by rw [flat_len]; omega), sw, List.append_nil] at hg
  rw [combL, hg]
end
/-- A point behind an even number of points begins an interval, one behind an odd number ends it. -/
theorem pair_even : ∀ (r : List Int) (t : Int), odd r.length = false → pairS (r ++ [t]) = pairS r ++ [⟨t, 0⟩]
  | [], t, _ => rfl
  | [x], t, h => by simp [odd] at h
  | x :: y :: r, t, h => by
    have : odd r.length = false := by
      simp only [List.length_cons, odd_s, Bool.not_not] at h; exact h
    simp only [List.cons_append, pairS, pair_even r t this]
theorem pair_odd : ∀ (r : List Int) (t : Int), odd r.length = true → pairS (r ++ [t]) = (pairS r).set ((pairS r).length - 1) ⟨((pairS r).getD ((pairS r).length - 1) default).lo, t⟩ ∧ 0 < (pairS r).length
  | [], t, h => by simp [odd] at h
  | [x], t, _ => by simp [pairS]
  | x :: y :: r, t, h => by
    have h2 : odd r.length = true := by
      simp only [List.length_cons, odd_s, Bool.not_not] at h; exact h
    obtain ⟨h3, h4⟩ := pair_odd r t h2
    refine ⟨?_, by simp [pairS]⟩
    simp only [List.cons_append, pairS, h3, List.length_cons]
    obtain ⟨m, hm⟩ : ∃ m, (pairS r).length = m + 1 := ⟨(pairS r).length - 1, by omega⟩
    rw [hm]
    simp
def combM (f : Bool → Bool → Bool) (a b : List Spn) : List Spn × Int :=
  if chkS a != 0 || chkS b != 0 then ([], 1) else if (combL f a b).length > 1000 then ([], 4) else (combL f a b, 0)
end Go.Mb
namespace Go.Proofs.Ytfbjgggminmhbaa
open Go.Sy Go.Mb
set_option maxRecDepth 100000
set_option linter.unusedVariables false
set_option maxHeartbeats 1000000

theorem nx_le {n : Int × Bool} {m : Int} {e : Bool} (h : n = (m, e)) : LeA (.tup [.int .i64 m, .bool e]) (.tup [.int .i64 n.1, .bool n.2]) := by
  subst h; exact LeA.refl _
theorem next_ok (l : List Spn) (p : Nat) (hp : p ≤ 2 * l.length) (hl : l.length ≤ 1000000) : FnOK Try.prog 61 [.ip 3 (getA (sideC l p))] (.tup [.int .i64 (nxP l p).1, .bool (nxP l p).2], none) := by
  refine fn_ok CN rfl (by kernel_rfl) Try.func61 rfl ?_
  refine Sat.go (Eq.refl _) (NS.chk (by kernel_rfl) ?_)
  refine Sat.go (Eq.refl _) (NS.ite (fun h => ?_) (fun h => ?_))
  · refine Sat.go (Eq.refl _) (NS.ret rfl rfl (nx_le ?_))
    have h : ((p / 2 : Nat) : Int) = l.length := eq_of_beq h
    unfold nxP; rw [if_neg (by omega)]
  have h : ((p / 2 : Nat) : Int) ≠ l.length := by simpa using h
  refine Sat.go (Eq.refl _) (NS.ite (fun h2 => ?_) (fun h2 => ?_))
  · have h2 : odd p = true := h2
    refine Sat.go (Eq.refl _) (NS.chk (by kernel_rfl) ?_)
    refine Sat.go (Eq.refl _) (NS.need (by simp; omega) ?_)
    refine Sat.go (Eq.refl _) (NS.ret rfl rfl (nx_le ?_))
    unfold nxP; rw [if_pos (by omega), flat_getD l p (by omega), if_pos (by simpa [odd] using h2)]; rfl
  · have h2 : odd p = false := h2
    refine Sat.go (Eq.refl _) (NS.chk (by kernel_rfl) ?_)
    refine Sat.go (Eq.refl _) (NS.need (by simp; omega) ?_)
    refine Sat.go (Eq.refl _) (NS.ret rfl rfl (nx_le ?_))
    unfold nxP; rw [if_pos (by omega), flat_getD l p (by omega), if_neg (by simpa [odd] using h2)]; rfl
theorem points_ok (a b : List Spn) : FnOK Try.prog 54 [slS a, slS b] (.fn 60 [.ip 1 (getA [slS a]), .ip 1 (getA [slS b])], none) := by
  refine fn_ok CN rfl (by kernel_rfl) Try.func54 rfl ?_
  exact Sat.go (Eq.refl _) (NS.ret rfl rfl (LeA.refl _))
def fU (a b : Bool) : Bool := a || b
def fI (a b : Bool) : Bool := a && b
def fM (a b : Bool) : Bool := a && !b
theorem bUnion_ok (x y : Bool) : FnOK Try.prog 36 [.bool x, .bool y] (.bool (fU x y), none) := by
  refine fn_ok CN rfl (by kernel_rfl) Try.func36 rfl ?_
  refine Sat.go (Eq.refl _) (NS.ite (fun h => ?_) (fun h => ?_))
  · exact Sat.go (Eq.refl _) (NS.ret rfl rfl (LeA.of (congrArg A.bool (by subst h; cases y <;> rfl))))
  · exact Sat.go (Eq.refl _) (NS.ret rfl rfl (LeA.of (congrArg A.bool (by subst h; cases y <;> rfl))))
theorem bIntersect_ok (x y : Bool) : FnOK Try.prog 43 [.bool x, .bool y] (.bool (fI x y), none) := by
  refine fn_ok CN rfl (by kernel_rfl) Try.func43 rfl ?_
  refine Sat.go (Eq.refl _) (NS.ite (fun h => ?_) (fun h => ?_))
  · exact Sat.go (Eq.refl _) (NS.ret rfl rfl (LeA.of (congrArg A.bool (by subst h; cases y <;> rfl))))
  · exact Sat.go (Eq.refl _) (NS.ret rfl rfl (LeA.of (congrArg A.bool (by subst h; cases y <;> rfl))))
theorem bMinus_ok (x y : Bool) : FnOK Try.prog 45 [.bool x, .bool y] (.bool (fM x y), none) := by
  refine fn_ok CN rfl (by kernel_rfl) Try.func45 rfl ?_
  refine Sat.go (Eq.refl _) (NS.ite (fun h => ?_) (fun h => ?_))
  · exact Sat.go (Eq.refl _) (NS.ret rfl rfl (LeA.of (congrArg A.bool (by subst h; cases y <;> rfl))))
  · exact Sat.go (Eq.refl _) (NS.ret rfl rfl (LeA.of (congrArg A.bool (by subst h; cases y <;> rfl))))
end Go.Proofs.Ytfbjgggminmhbaa
