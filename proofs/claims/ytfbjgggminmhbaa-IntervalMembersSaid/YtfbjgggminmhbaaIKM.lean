/- The walk of IntervalMembers. -/
import Derived.Test.YtfbjgggminmhbaaIJ
set_option linter.unusedSimpArgs false
set_option linter.unusedSectionVars false
set_option linter.unusedVariables false
namespace Go.Proofs.Ytfbjgggminmhbaa
open Go.Sy Go.Mb
set_option maxRecDepth 100000
set_option linter.unusedVariables false
set_option maxHeartbeats 1000000

theorem rows_app {α : Type} [Inhabited α] {cells : α → List A} {l m : List α} {n : Nat} {ey : Nat → Nat → A} {c : Nat} (hn : l.length = n) (he : ∀ i, i < m.length → ∀ j, j < c → ey i j = rowL cells m i j) (i : Nat) (hi : i < n + m.length) (j : Nat) (hj : j < c) : (if i < n then rowL cells l i j else ey (i - n) j) = rowL cells (l ++ m) i j := by
  subst hn
  rw [← rowL_append]
  split
  · rfl
  · exact he _ (by omega) j hj
theorem intervalMembers_ok (a b : List Spn) (t : Int) : FnOK Try.prog 8 [slS a, slS b, .int .i64 t] (.bool true, none) := by
  refine fn_ok CN rfl (by kernel_rfl) Try.func8 rfl ?_
  refine Sat.go (Eq.refl _) (NS.call (fine2_ok a b rfl rfl) rfl ?_)
  refine Sat.go (Eq.refl _) (NS.ite (fun h0 => ?_) (fun h0 => ?_))
  · refine Sat.go (Eq.refl _) (NS.call awake_ok rfl ?_)
    exact Sat.go (Eq.refl _) (NS.ret rfl rfl (LeA.of rfl))
  obtain ⟨ba, bb⟩ := or_f (not_f h0)
  obtain ⟨ca, la⟩ := bad1_f ba
  obtain ⟨cb, lb⟩ := bad1_f bb
  obtain ⟨u1, u2, u3, _⟩ := Union_set ca cb (by omega)
  obtain ⟨i1, i2, i3, _⟩ := Intersect_set ca cb (by omega)
  obtain ⟨m1, m2, m3, _⟩ := Minus_set ca cb (by omega)
  generalize combL fU a b = u at u1 u2 u3
  generalize combL fI a b = i at i1 i2 i3
  generalize combL fM a b = m at m1 m2 m3
  have ku := check_ok u
  rw [u2] at ku
  have ki := check_ok i
  rw [i2] at ki
  have km := check_ok m
  rw [m2] at km
  refine Sat.go (Eq.refl _) (NS.call u1 rfl ?_)
  refine Sat.go (Eq.refl _) (NS.call i1 rfl ?_)
  refine Sat.go (Eq.refl _) (NS.call m1 rfl ?_)
  refine Sat.go (Eq.refl _) (NS.no rfl ?_)
  refine Sat.go (Eq.refl _) (NS.no rfl ?_)
  refine Sat.go (Eq.refl _) (NS.no rfl ?_)
  refine Sat.go (Eq.refl _) (NS.call ku rfl ?_)
  refine Sat.go (Eq.refl _) (NS.no rfl ?_)
  refine Sat.go (Eq.refl _) (NS.call ki rfl ?_)
  refine Sat.go (Eq.refl _) (NS.no rfl ?_)
  refine Sat.go (Eq.refl _) (NS.call km rfl ?_)
  refine Sat.go (Eq.refl _) (NS.no rfl ?_)
  refine Sat.go (Eq.refl _) (NS.need (decide_eq_true (by simp only [maxRow]; omega)) ?_)
  refine Sat.go (Eq.refl _) (NS.need (decide_eq_true (by simp only [maxRow]; omega)) ?_)
  refine Sat.go (Eq.refl _) ?_
  have hD : ∀ q, q < (a ++ b).length → ∀ j, j < 2 → (if q < 0 + a.length then (if q < 0 then A.junk else rowL Spn.cells a (q - 0) j) else rowL Spn.cells b (q - (0 + a.length)) j) = rowL Spn.cells (a ++ b) q j := by
    intro q hq j hj
    rw [Nat.zero_add, ← rowL_append]
    rfl
  have hlen : (a ++ b).length = a.length + b.length := by simp
  generalize a ++ b = D at hD hlen
  refine NS.loop (σ := { p : Nat × List Int // p.1 ≤ D.length ∧ p.2.length ≤ 1 + 4 * p.1 }) (fun p => [(0, slS a), (1, slS b), (7, slS u), (9, slS i), (11, slS m), (13, .own 70), (75, .own 75), (76, .int .i64 D.length), (77, .int .i64 p.1.1)]) (fun p => [(75, .row 24 2 D.length (rowL Spn.cells D)), (70, .row 3 1 p.1.2.length (rowL nC p.1.2))]) (fun p => D.length - p.1.1) ⟨(0, [t]), Nat.zero_le _, by simp⟩ ?_ ?_
  · refine weak_hd [] rfl ⟨rfl, rfl, rfl, rfl, rfl, rfl, rfl, ren_int rfl (by rw [hlen]; simp), rfl, trivial⟩ ⟨ren_row rfl (by rw [hlen]; omega) fun q hq j hj => hD q hq j hj, ren_row rfl rfl fun q hq j hj => ?_, trivial⟩ trivial (by kernel_rfl)
    exact row_one (cells := nC) (x := t) (c := 1) rfl q hq j hj
  rintro ⟨⟨k, L⟩, hk, hL⟩
  simp only at hk hL
  refine Sat.go (Eq.refl _) (NS.ite (fun h => ?_) (fun h => ?_))
  · have h : k < D.length := by simpa using h
    refine Sat.go (Eq.refl _) (NS.need (by simp; omega) ?_)
    refine Sat.go (Eq.refl _) (NS.need (by simp; omega) ?_)
    refine Sat.go (Eq.refl _) (NS.need (decide_eq_true (by simp only [maxRow]; omega)) ?_)
    refine Sat.go (Eq.refl _) (NS.next ⟨(k + 1, L ++ [IntKind.i64.wrap ((D.getD k default).lo - 1), (D.getD k default).lo, IntKind.i64.wrap ((D.getD k default).hi - 1), (D.getD k default).hi]), by simp only; omega, by simp; omega⟩ (by simp only; omega) ?_)
    refine weak_hd [(70, 93)] rfl ⟨rfl, rfl, rfl, rfl, rfl, rfl, rfl, rfl, ren_int rfl (i64_k (k := k) (n := D.length) (by omega) (by omega)), trivial⟩ ⟨ren_row rfl rfl fun _ _ _ _ => rfl, ren_row rfl (by simp) fun q hq j hj => ?_, trivial⟩ trivial (by kernel_rfl)
    refine rows_app (cells := nC) (l := L) (m := [IntKind.i64.wrap ((D.getD k default).lo - 1), (D.getD k default).lo, IntKind.i64.wrap ((D.getD k default).hi - 1), (D.getD k default).hi]) (c := 1) (ey := fun q j => getA [.int .i64 (IntKind.i64.wrap ((D.getD k default).lo - 1)), .int .i64 (D.getD k default).lo, .int .i64 (IntKind.i64.wrap ((D.getD k default).hi - 1)), .int .i64 (D.getD k default).hi] (q * 1 + j)) rfl (fun q hq j hj => ?_) q (by simpa using hq) j hj
    match q, j, hq, hj with
    | 0, 0, _, _ => rfl
    | 1, 0, _, _ => rfl
    | 2, 0, _, _ => rfl
    | 3, 0, _, _ => rfl
  refine Sat.go (Eq.refl _) (NS.leave rfl (Eq.refl _) ?_)
  refine Sat.go (Eq.refl _) ?_
  have hL2 : L.length ≤ 1000 := by omega
  refine NS.loop (σ := { k : Nat // k ≤ L.length }) (fun k => [(0, slS a), (1, slS b), (7, slS u), (9, slS i), (11, slS m), (95, .own 70), (96, .int .i64 L.length), (97, .int .i64 k.1)]) (fun k => [(70, .row 3 1 L.length (rowL nC L))]) (fun k => L.length - k.1) ⟨0, Nat.zero_le _⟩ ?_ ?_
  · exact weak_hd [] rfl ⟨rfl, rfl, rfl, rfl, rfl, rfl, rfl, rfl, trivial⟩ ⟨ren_row rfl rfl fun _ _ _ _ => rfl, trivial⟩ trivial (by kernel_rfl)
  rintro ⟨k, hk⟩
  refine Sat.go (Eq.refl _) (NS.ite (fun h => ?_) (fun h => ?_))
  · have h : k < L.length := by simpa using h
    have wa := lWithin_ok a (L.getD k default) (by omega)
    have wb := lWithin_ok b (L.getD k default) (by omega)
    have hu := has_ok u (L.getD k default)
    have hi := has_ok i (L.getD k default)
    have hm := has_ok m (L.getD k default)
    rw [show hasM u (L.getD k default) = fU (hasL a (L.getD k default)) (hasL b (L.getD k default)) by unfold hasM; rw [u2, u3]; rfl] at hu
    rw [show hasM i (L.getD k default) = fI (hasL a (L.getD k default)) (hasL b (L.getD k default)) by unfold hasM; rw [i2, i3]; rfl] at hi
    rw [show hasM m (L.getD k default) = fM (hasL a (L.getD k default)) (hasL b (L.getD k default)) by unfold hasM; rw [m2, m3]; rfl] at hm
    refine Sat.go (Eq.refl _) (NS.need (by simp; omega) ?_)
    refine Sat.go (Eq.refl _) (NS.need (by simp; omega) ?_)
    refine Sat.go (Eq.refl _) (NS.call wa rfl ?_)
    refine Sat.go (Eq.refl _) (NS.call wb rfl ?_)
    refine Sat.go (Eq.refl _) (NS.call hu rfl ?_)
    generalize hasL a (L.getD k default) = x at hi hm
    generalize hasL b (L.getD k default) = y at hi hm
    cases x <;> cases y <;> (repeat' (first
      | refine Sat.go (Eq.refl _) ?_
      | refine NS.call hi rfl ?_
      | refine NS.call hm rfl ?_
      | refine NS.yes rfl ?_
      | refine NS.no rfl ?_
      | refine NS.next ⟨k + 1, by omega⟩ (by simp; omega) ?_
      | exact weak_hd [] rfl ⟨rfl, rfl, rfl, rfl, rfl, rfl, rfl, ren_int rfl (i64_k (k := k) (n := L.length) (by omega) (by omega)), trivial⟩ ⟨ren_row rfl rfl fun _ _ _ _ => rfl, trivial⟩ trivial (by kernel_rfl)))
  · refine Sat.go (Eq.refl _) (NS.leave rfl (Eq.refl _) ?_)
    refine Sat.go (Eq.refl _) (NS.call awake_ok rfl ?_)
    exact Sat.go (Eq.refl _) (NS.ret rfl rfl (LeA.of rfl))
end Go.Proofs.Ytfbjgggminmhbaa
