/- The walk of ReplayLattice. -/
import Derived.Test.YtphegncldncaiaaPF
set_option linter.unusedSimpArgs false
set_option linter.unusedSectionVars false
set_option linter.unusedVariables false
namespace Go.Proofs.Ytphegncldncaiaa
open Go.Sy Go.Mb
set_option maxRecDepth 100000
set_option linter.unusedVariables false
set_option maxHeartbeats 4000000

theorem join_of {a b : Win} (ha : GoodW a) (hb : GoodW b) (hs : a.size = b.size) : FnOK Try.prog 21 [.agg a.cells, .agg b.cells] (.tup [.agg (joinW a b).cells, .int .i64 0], none) := by
  have c := join_ok a b
  rw [joinM_3 (by rw [(good_iff a).2 ha, (good_iff b).2 hb]; rfl) (by rw [hs]; simp)] at c
  exact c
theorem seen_of {w : Win} (h : GoodW w) {n : Int} (h0 : 0 ≤ n) (h1 : n ≤ 1152921504606846976) : FnOK Try.prog 19 [.agg w.cells, .int .i64 n] (.bool (refW w n), none) := by
  have c := seen_ok w n
  rw [show seenM w n = refW w n by unfold seenM; rw [(good_iff w).2 h, decide_eq_true (show n ≥ 0 from h0), decide_eq_true h1]; rfl] at c
  exact c
theorem replayLattice_ok (a b0 c0 : Win) : FnOK Try.prog 5 [.agg a.cells, .agg b0.cells, .agg c0.cells] (.bool true, none) := by
  obtain ⟨b, hbd⟩ : ∃ b : Win, b = ⟨a.size, b0.top, b0.seen⟩ := ⟨_, rfl⟩
  obtain ⟨c, hcd⟩ : ∃ c : Win, c = ⟨a.size, c0.top, c0.seen⟩ := ⟨_, rfl⟩
  have kb := check_ok b
  have kc := check_ok c
  have hab : a.size = b.size := by rw [hbd]
  have hbc : b.size = c.size := by rw [hbd, hcd]
  have ebc : b.cells = [.int .i64 a.size, .int .i64 b0.top, slN b0.seen] := by rw [hbd]; rfl
  have ecc : c.cells = [.int .i64 a.size, .int .i64 c0.top, slN c0.seen] := by rw [hcd]; rfl
  have ebt : b.top = b0.top := by rw [hbd]
  refine fn_ok CN rfl (by kernel_rfl) Try.func5 rfl ?_
  refine Sat.go (Eq.refl _) (NS.chk (by kernel_rfl) ?_)
  refine Sat.go (Eq.refl _) (NS.call (check_ok a) rfl ?_)
  refine Sat.go (Eq.refl _) (NS.ite (fun h1 => ?_) (fun h1 => ?_))
  · refine Sat.go (Eq.refl _) (NS.call (awake_ok) rfl ?_)
    exact Sat.go (Eq.refl _) (NS.ret rfl rfl (LeA.of (congrArg A.bool (rfl))))
  have ha := (good_iff a).1 (by simpa using h1)
  rw [ebc] at kb
  refine Sat.go (Eq.refl _) (NS.call (kb) rfl ?_)
  refine Sat.go (Eq.refl _) (NS.ite (fun h2 => ?_) (fun h2 => ?_))
  · refine Sat.go (Eq.refl _) (NS.call (awake_ok) rfl ?_)
    exact Sat.go (Eq.refl _) (NS.ret rfl rfl (LeA.of (congrArg A.bool (rfl))))
  have hb := (good_iff b).1 (by simpa using h2)
  rw [ecc] at kc
  refine Sat.go (Eq.refl _) (NS.call (kc) rfl ?_)
  refine Sat.go (Eq.refl _) (NS.ite (fun h3 => ?_) (fun h3 => ?_))
  · refine Sat.go (Eq.refl _) (NS.call (awake_ok) rfl ?_)
    exact Sat.go (Eq.refl _) (NS.ret rfl rfl (LeA.of (congrArg A.bool (rfl))))
  have hc := (good_iff c).1 (by simpa using h3)
  have hx := joinW_good ha hb hab
  have hz := joinW_good hb hc hbc
  have j1 := join_of ha hb hab
  have j2 := join_of hb ha hab.symm
  rw [← join_comm ha hb hab] at j2
  have j3 := join_of hx hc (show a.size = c.size by omega)
  have j4 := join_of hb hc hbc
  have j5 := join_of ha hz (show a.size = b.size by omega)
  rw [← join_assoc ha hb hc hab hbc] at j5
  have j6 := join_of ha ha rfl
  rw [join_self ha] at j6
  have s1 := sameW_self (joinW a b) (by have := good_len hx; omega)
  have hl := joinW_good hx hc (show a.size = c.size by omega)
  have s2 := sameW_self (joinW (joinW a b) c) (by have := good_len hl; omega)
  have s3 := sameW_self a (by have := good_len ha; omega)
  have kx := check_ok (joinW a b)
  rw [(good_iff _).2 hx] at kx
  rw [ebc] at j1 j2 j4
  rw [ecc] at j3 j4
  have hsz := ha.s2
  have hsz1 := ha.s1
  refine Sat.go (Eq.refl _) (NS.call (j1) rfl ?_)
  refine Sat.go (Eq.refl _) (NS.call (j2) rfl ?_)
  refine Sat.go (Eq.refl _) (NS.call (j3) rfl ?_)
  refine Sat.go (Eq.refl _) (NS.call (j4) rfl ?_)
  refine Sat.go (Eq.refl _) (NS.call (j5) rfl ?_)
  refine Sat.go (Eq.refl _) (NS.call (j6) rfl ?_)
  refine Sat.go (Eq.refl _) (NS.no (rfl) ?_)
  refine Sat.go (Eq.refl _) (NS.no (rfl) ?_)
  refine Sat.go (Eq.refl _) (NS.no (rfl) ?_)
  refine Sat.go (Eq.refl _) (NS.no (rfl) ?_)
  refine Sat.go (Eq.refl _) (NS.no (rfl) ?_)
  refine Sat.go (Eq.refl _) (NS.no (rfl) ?_)
  refine Sat.go (Eq.refl _) (NS.call (s1) rfl ?_)
  refine Sat.go (Eq.refl _) (NS.no (rfl) ?_)
  refine Sat.go (Eq.refl _) (NS.call (s2) rfl ?_)
  refine Sat.go (Eq.refl _) (NS.no (rfl) ?_)
  refine Sat.go (Eq.refl _) (NS.call (s3) rfl ?_)
  refine Sat.go (Eq.refl _) (NS.no (rfl) ?_)
  refine Sat.go (Eq.refl _) (NS.call (kx) rfl ?_)
  refine Sat.go (Eq.refl _) (NS.no (rfl) ?_)
  refine Sat.go (Eq.refl _) ?_
  rw [← ebt]
  refine NS.loop (σ := { k : Nat // k ≤ 2 }) (fun k => [(3, .ptr 3 0), (4, .ptr 4 0), (7, .ptr 7 0), (127, .own 127), (128, .int .i64 2), (129, .int .i64 k.1)]) (fun k => [(3, .box a.cells), (4, .box b.cells), (7, .box (joinW a b).cells), (127, .row 3 1 2 (fun i j => getA [.int .i64 a.top, .int .i64 b.top] (i * 1 + j)))]) (fun k => 2 - k.1) ⟨0, Nat.zero_le _⟩ ?_ ?_
  · refine weak_hd [] rfl ⟨rfl, rfl, rfl, rfl, rfl, rfl, trivial⟩ ⟨⟨_, rfl, ren_win _ _⟩, ⟨_, rfl, ?_⟩, ⟨_, rfl, ren_win _ _⟩, ren_row rfl rfl fun _ _ _ _ => rfl, trivial⟩ trivial (by kernel_rfl)
    rw [ebc, ebt]; exact ⟨_, _, rfl, rfl, _, _, rfl, rfl, _, _, rfl, rfl, rfl⟩
  rintro ⟨k, hk⟩
  match k, hk with
  | 0, hk =>
    refine Sat.go (Eq.refl _) (NS.yes (rfl) ?_)
    refine Sat.go (Eq.refl _) (NS.need (by simp) ?_)
    refine Sat.go (Eq.refl _) (NS.need (by simp) ?_)
    have hT1 : -1 ≤ a.top := ha.t1
    have hT2 : a.top ≤ 1152921504606846976 := ha.t2
    have elo : (if IntKind.i64.wrap (a.top - IntKind.i64.wrap (2 * a.size)) > 0 then IntKind.i64.wrap (a.top - IntKind.i64.wrap (2 * a.size)) else 0) = max 0 (a.top - 2 * a.size) := by
      rw [wrap_i64 (n := 2 * a.size) (by omega) (by omega), wrap_i64 (by omega) (by omega)]
      split <;> omega
    have ehi : (if (1152921504606846976 : Int) < IntKind.i64.wrap (a.top + 2) then (1152921504606846976 : Int) else IntKind.i64.wrap (a.top + 2)) = min (a.top + 2) 1152921504606846976 := by
      rw [wrap_i64 (by omega) (by omega)]
      split <;> omega
    refine Sat.go (Eq.refl _) ?_
    refine NS.loop (σ := { n : Int // 0 ≤ n }) (fun n => [(3, .ptr 3 0), (4, .ptr 4 0), (7, .ptr 7 0), (20, .int .i64 a.top), (21, .int .i64 n.1), (127, .own 127), (128, .int .i64 2), (129, .int .i64 0)]) (fun n => [(3, .box a.cells), (4, .box b.cells), (7, .box (joinW a b).cells), (127, .row 3 1 2 (fun i j => getA [.int .i64 a.top, .int .i64 b.top] (i * 1 + j)))]) (fun n => (a.top + 4 - n.1).toNat) ⟨max 0 (a.top - 2 * a.size), by omega⟩ ?_ ?_
    · exact weak_hd [] rfl ⟨rfl, rfl, rfl, rfl, ren_int rfl elo, rfl, rfl, rfl, trivial⟩ ⟨⟨_, rfl, ren_win _ _⟩, ⟨_, rfl, ren_win _ _⟩, ⟨_, rfl, ren_win _ _⟩, ren_row rfl rfl fun _ _ _ _ => rfl, trivial⟩ trivial (by kernel_rfl)
    rintro ⟨n, hn0⟩
    refine Sat.go (Eq.refl _) (NS.ite (fun g => ?_) (fun g => ?_))
    · rw [ehi] at g
      have g : n ≤ min (a.top + 2) 1152921504606846976 := of_decide_eq_true g
      have hj := join_ref ha hb hab n
      refine Sat.go (Eq.refl _) (NS.chk (by kernel_rfl) ?_)
      refine Sat.go (Eq.refl _) (NS.call (seen_of (n := n) hx hn0 (by omega)) rfl ?_)
      refine Sat.go (Eq.refl _) (NS.call (seen_of (n := n) ha hn0 (by omega)) rfl ?_)
      have en : IntKind.i64.wrap (n + 1) = n + 1 := wrap_i64 (by omega) (by omega)
      refine Sat.go (Eq.refl _) (NS.ite (fun g2 => ?_) (fun g2 => ?_))
      · refine Sat.go (Eq.refl _) (NS.no (by rw [hj, g2]; rfl) ?_)
        refine Sat.go (Eq.refl _) (NS.next ⟨n + 1, by omega⟩ (by simp only; omega) ?_)
        exact weak_hd [] rfl ⟨rfl, rfl, rfl, rfl, ren_int rfl en, rfl, rfl, rfl, trivial⟩ ⟨⟨_, rfl, ren_win _ _⟩, ⟨_, rfl, ren_win _ _⟩, ⟨_, rfl, ren_win _ _⟩, ren_row rfl rfl fun _ _ _ _ => rfl, trivial⟩ trivial (by kernel_rfl)
      · refine Sat.go (Eq.refl _) (NS.call (seen_of (n := n) hb hn0 (by omega)) rfl ?_)
        refine Sat.go (Eq.refl _) (NS.no (by rw [hj, g2]; simp) ?_)
        refine Sat.go (Eq.refl _) (NS.next ⟨n + 1, by omega⟩ (by simp only; omega) ?_)
        exact weak_hd [] rfl ⟨rfl, rfl, rfl, rfl, ren_int rfl en, rfl, rfl, rfl, trivial⟩ ⟨⟨_, rfl, ren_win _ _⟩, ⟨_, rfl, ren_win _ _⟩, ⟨_, rfl, ren_win _ _⟩, ren_row rfl rfl fun _ _ _ _ => rfl, trivial⟩ trivial (by kernel_rfl)
    · refine Sat.go (Eq.refl _) (NS.leave rfl (Eq.refl _) ?_)
      refine Sat.go (Eq.refl _) (NS.next ⟨1, by omega⟩ (by simp) ?_)
      exact weak_hd [] rfl ⟨rfl, rfl, rfl, rfl, rfl, ren_int rfl (by rw [wrap_i64 (by omega) (by omega)]; rfl), trivial⟩ ⟨⟨_, rfl, ren_win _ _⟩, ⟨_, rfl, ren_win _ _⟩, ⟨_, rfl, ren_win _ _⟩, ren_row rfl rfl fun _ _ _ _ => rfl, trivial⟩ trivial (by kernel_rfl)
  | 1, hk =>
    refine Sat.go (Eq.refl _) (NS.yes (rfl) ?_)
    refine Sat.go (Eq.refl _) (NS.need (by simp) ?_)
    refine Sat.go (Eq.refl _) (NS.need (by simp) ?_)
    have hT1 : -1 ≤ b.top := hb.t1
    have hT2 : b.top ≤ 1152921504606846976 := hb.t2
    have elo : (if IntKind.i64.wrap (b.top - IntKind.i64.wrap (2 * a.size)) > 0 then IntKind.i64.wrap (b.top - IntKind.i64.wrap (2 * a.size)) else 0) = max 0 (b.top - 2 * a.size) := by
      rw [wrap_i64 (n := 2 * a.size) (by omega) (by omega), wrap_i64 (by omega) (by omega)]
      split <;> omega
    have ehi : (if (1152921504606846976 : Int) < IntKind.i64.wrap (b.top + 2) then (1152921504606846976 : Int) else IntKind.i64.wrap (b.top + 2)) = min (b.top + 2) 1152921504606846976 := by
      rw [wrap_i64 (by omega) (by omega)]
      split <;> omega
    refine Sat.go (Eq.refl _) ?_
    refine NS.loop (σ := { n : Int // 0 ≤ n }) (fun n => [(3, .ptr 3 0), (4, .ptr 4 0), (7, .ptr 7 0), (20, .int .i64 b.top), (21, .int .i64 n.1), (127, .own 127), (128, .int .i64 2), (129, .int .i64 1)]) (fun n => [(3, .box a.cells), (4, .box b.cells), (7, .box (joinW a b).cells), (127, .row 3 1 2 (fun i j => getA [.int .i64 a.top, .int .i64 b.top] (i * 1 + j)))]) (fun n => (b.top + 4 - n.1).toNat) ⟨max 0 (b.top - 2 * a.size), by omega⟩ ?_ ?_
    · exact weak_hd [] rfl ⟨rfl, rfl, rfl, rfl, ren_int rfl elo, rfl, rfl, rfl, trivial⟩ ⟨⟨_, rfl, ren_win _ _⟩, ⟨_, rfl, ren_win _ _⟩, ⟨_, rfl, ren_win _ _⟩, ren_row rfl rfl fun _ _ _ _ => rfl, trivial⟩ trivial (by kernel_rfl)
    rintro ⟨n, hn0⟩
    refine Sat.go (Eq.refl _) (NS.ite (fun g => ?_) (fun g => ?_))
    · rw [ehi] at g
      have g : n ≤ min (b.top + 2) 1152921504606846976 := of_decide_eq_true g
      have hj := join_ref ha hb hab n
      refine Sat.go (Eq.refl _) (NS.chk (by kernel_rfl) ?_)
      refine Sat.go (Eq.refl _) (NS.call (seen_of (n := n) hx hn0 (by omega)) rfl ?_)
      refine Sat.go (Eq.refl _) (NS.call (seen_of (n := n) ha hn0 (by omega)) rfl ?_)
      have en : IntKind.i64.wrap (n + 1) = n + 1 := wrap_i64 (by omega) (by omega)
      refine Sat.go (Eq.refl _) (NS.ite (fun g2 => ?_) (fun g2 => ?_))
      · refine Sat.go (Eq.refl _) (NS.no (by rw [hj, g2]; rfl) ?_)
        refine Sat.go (Eq.refl _) (NS.next ⟨n + 1, by omega⟩ (by simp only; omega) ?_)
        exact weak_hd [] rfl ⟨rfl, rfl, rfl, rfl, ren_int rfl en, rfl, rfl, rfl, trivial⟩ ⟨⟨_, rfl, ren_win _ _⟩, ⟨_, rfl, ren_win _ _⟩, ⟨_, rfl, ren_win _ _⟩, ren_row rfl rfl fun _ _ _ _ => rfl, trivial⟩ trivial (by kernel_rfl)
      · refine Sat.go (Eq.refl _) (NS.call (seen_of (n := n) hb hn0 (by omega)) rfl ?_)
        refine Sat.go (Eq.refl _) (NS.no (by rw [hj, g2]; simp) ?_)
        refine Sat.go (Eq.refl _) (NS.next ⟨n + 1, by omega⟩ (by simp only; omega) ?_)
        exact weak_hd [] rfl ⟨rfl, rfl, rfl, rfl, ren_int rfl en, rfl, rfl, rfl, trivial⟩ ⟨⟨_, rfl, ren_win _ _⟩, ⟨_, rfl, ren_win _ _⟩, ⟨_, rfl, ren_win _ _⟩, ren_row rfl rfl fun _ _ _ _ => rfl, trivial⟩ trivial (by kernel_rfl)
    · refine Sat.go (Eq.refl _) (NS.leave rfl (Eq.refl _) ?_)
      refine Sat.go (Eq.refl _) (NS.next ⟨2, by omega⟩ (by simp) ?_)
      exact weak_hd [] rfl ⟨rfl, rfl, rfl, rfl, rfl, ren_int rfl (by rw [wrap_i64 (by omega) (by omega)]; rfl), trivial⟩ ⟨⟨_, rfl, ren_win _ _⟩, ⟨_, rfl, ren_win _ _⟩, ⟨_, rfl, ren_win _ _⟩, ren_row rfl rfl fun _ _ _ _ => rfl, trivial⟩ trivial (by kernel_rfl)
  | 2, hk =>
    refine Sat.go (Eq.refl _) (NS.no (rfl) ?_)
    refine Sat.go (Eq.refl _) (NS.leave rfl (Eq.refl _) ?_)
    refine Sat.go (Eq.refl _) (NS.call (awake_ok) rfl ?_)
    exact Sat.go (Eq.refl _) (NS.ret rfl rfl (LeA.of (congrArg A.bool (rfl))))
end Go.Proofs.Ytphegncldncaiaa
