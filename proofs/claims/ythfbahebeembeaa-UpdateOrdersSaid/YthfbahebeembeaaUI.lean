/- The next change. -/
import Derived.Test.YthfbahebeembeaaUH
set_option linter.unusedSimpArgs false
set_option linter.unusedSectionVars false
set_option linter.unusedVariables false
namespace Go.Mb
open Go.Sy
set_option linter.unusedVariables false
theorem maxS_take (l : List Chg) : ∀ (k : Nat) (m : Int), k < l.length → maxS (l.take (k + 1)) m = (let v := maxS (l.take k) m; if (l.getD k default).stamp > v then (l.getD k default).stamp else v) := by
  induction l with
  | nil => intro k m h; simp at h
  | cons x l ih =>
    intro k m h
    cases k with
    | zero => rfl
    | succ k =>
      have := ih k (if x.stamp > m then x.stamp else m) (by simpa using h)
      exact this
def zeroX : Chg := ⟨0, 0, 0, 0, 0, 0, 0, 0, 0, 0, 0⟩
end Go.Mb
namespace Go.Proofs.Ythfbahebeembeaa
open Go.Sy Go.Mb
set_option maxRecDepth 100000
set_option linter.unusedVariables false
set_option maxHeartbeats 4000000
theorem rNext_ok (h : His) (o kind : Int) (c : Ctc) (hl : h.l.length ≤ 1000000) : FnOK Try.prog 52 [.agg h.cells, .int .i64 o, .int .i64 kind, .agg c.cells] (.agg (nextM h.l o kind c).cells, none) := by
  refine fn_ok CN rfl (by kernel_rfl) Try.func52 rfl ?_
  refine Sat.go (Eq.refl _) ?_
  refine NS.loop (σ := { k : Nat // k ≤ h.l.length }) (fun k => [(1, .int .i64 o), (2, .int .i64 kind), (4, .ptr 4 0), (7, .ptr 7 0), (8, .ptr 8 0), (9, .int .i64 (maxS (h.l.take k.1) 0)), (10, .int .i64 k.1)]) (fun k => [(4, .box h.cells), (7, .box c.cells), (8, .box zeroX.cells)]) (fun k => h.l.length - k.1) ⟨0, Nat.zero_le _⟩ ?_ ?_
  · exact weak_hd [] rfl ⟨rfl, rfl, rfl, rfl, rfl, rfl, rfl, trivial⟩ ⟨⟨_, rfl, renHis _ _⟩, ⟨_, rfl, renCtc _ _⟩, ⟨_, rfl, renChg _ _⟩, trivial⟩ trivial (by kernel_rfl)
  rintro ⟨k, hk⟩
  refine Sat.go (Eq.refl _) (NS.ite (fun a => ?_) (fun a => ?_))
  · have a : k < h.l.length := by simpa using a
    have e := maxS_take h.l k 0 a
    simp only at e
    refine Sat.go (Eq.refl _) (NS.need (by simp; omega) ?_)
    refine Sat.go (Eq.refl _) (NS.ite (fun b => ?_) (fun b => ?_))
    · have b : (h.l.getD k default).stamp > maxS (h.l.take k) 0 := of_decide_eq_true b
      rw [if_pos b] at e
      refine Sat.go (Eq.refl _) (NS.need (by simp; omega) ?_)
      refine Sat.go (Eq.refl _) (NS.next ⟨k + 1, a⟩ (by simp; omega) ?_)
      exact weak_hd [] rfl ⟨rfl, rfl, rfl, rfl, rfl, ren_int rfl e.symm, ren_int rfl (i64_k (by omega) (by omega)), trivial⟩ ⟨⟨_, rfl, renHis _ _⟩, ⟨_, rfl, renCtc _ _⟩, ⟨_, rfl, renChg _ _⟩, trivial⟩ trivial (by kernel_rfl)
    · have b : ¬ (h.l.getD k default).stamp > maxS (h.l.take k) 0 := of_decide_eq_false b
      rw [if_neg b] at e
      refine Sat.go (Eq.refl _) (NS.next ⟨k + 1, a⟩ (by simp; omega) ?_)
      exact weak_hd [] rfl ⟨rfl, rfl, rfl, rfl, rfl, ren_int rfl e.symm, ren_int rfl (i64_k (by omega) (by omega)), trivial⟩ ⟨⟨_, rfl, renHis _ _⟩, ⟨_, rfl, renCtc _ _⟩, ⟨_, rfl, renChg _ _⟩, trivial⟩ trivial (by kernel_rfl)
  · have a : h.l.length ≤ k := by simpa using a
    refine Sat.go (Eq.refl _) (NS.leave rfl (Eq.refl _) ?_)
    refine Sat.go (Eq.refl _) (NS.chk (by kernel_rfl) ?_)
    refine Sat.go (Eq.refl _) (NS.call (known_ok h o hl) rfl ?_)
    exact Sat.go (Eq.refl _) (NS.ret rfl rfl (by rw [take_all a]; exact LeA.refl _))
theorem next_ok (h : His) (g : GoodH h.nodes h.l) (o kind : Int) (c : Ctc) (hl : h.l.length ≤ 1000000) : FnOK Try.prog 49 [.agg h.cells, .int .i64 o, .int .i64 kind, .agg c.cells] (.agg (nextM h.l o kind c).cells, none) := by
  refine fn_ok CN rfl (by kernel_rfl) Try.func49 rfl ?_
  refine Sat.go (Eq.refl _) ?_
  refine NS.loop (σ := { k : Nat // k ≤ h.l.length ∧ 0 ≤ maxS (h.l.take k) 0 ∧ maxS (h.l.take k) 0 ≤ 1099511627776 }) (fun k => [(1, .int .i64 o), (8, .ptr 8 0), (9, .ptr 9 0), (17, slChg h.l), (18, .int .i64 h.l.length), (19, .int .i64 k.1)]) (fun k => [(8, .box zeroX.cells), (9, .box (Chg.cells ⟨o, (cntO (h.l.take k.1) o : Int) + 1, maxS (h.l.take k.1) 0 + 1, kind, c⟩))]) (fun k => h.l.length - k.1) ⟨0, Nat.zero_le _, by show (0 : Int) ≤ 0; omega, by show (0 : Int) ≤ 1099511627776; omega⟩ ?_ ?_
  · exact weak_hd [] rfl ⟨rfl, rfl, rfl, rfl, rfl, rfl, trivial⟩ ⟨⟨_, rfl, renChg _ _⟩, ⟨_, rfl, renChg _ _⟩, trivial⟩ trivial (by kernel_rfl)
  rintro ⟨k, hk, m0, m1⟩
  refine Sat.go (Eq.refl _) (NS.ite (fun a => ?_) (fun a => ?_))
  · have a : k < h.l.length := by simpa using a
    have e := maxS_take h.l k 0 a
    simp only at e
    have hv := (validX_iff.1 (g.v k a)).1
    have hc := g.cnt a
    have hle := cntO_le (h.l.take k) o
    have hlt : (h.l.take k).length = k := by rw [List.length_take]; omega
    have hw : IntKind.i64.wrap ((h.l.getD k default).stamp + 1) = (h.l.getD k default).stamp + 1 := wrap_i64 (by omega) (by omega)
    have m2 : 0 ≤ maxS (h.l.take (k + 1)) 0 ∧ maxS (h.l.take (k + 1)) 0 ≤ 1099511627776 := by rw [e]; split <;> omega
    have hs := cntO_snoc (h.l.take k) (h.l.getD k default) o
    rw [← take_snoc a] at hs
    refine Sat.go (Eq.refl _) (NS.need (by simp; omega) ?_)
    refine Sat.go (Eq.refl _) (NS.ite (fun b => ?_) (fun b => ?_))
    · have b : ((h.l.getD k default).org == o) = true := b
      rw [if_pos b] at hs
      have b2 : (h.l.getD k default).org = o := by simpa using b
      rw [b2] at hc
      refine Sat.go (Eq.refl _) (NS.next ⟨k + 1, a, m2⟩ (by show h.l.length - (k + 1) < h.l.length - k; omega) ?_)
      refine weak_hd [] rfl ⟨rfl, rfl, rfl, rfl, rfl, ren_int rfl (i64_k (k := k) (n := h.l.length) a (by omega)), trivial⟩ ⟨⟨_, rfl, renChg _ _⟩, ⟨_, rfl, ?_⟩, trivial⟩ trivial (by kernel_rfl)
      have hw2 : IntKind.i64.wrap ((h.l.getD k default).cnt + 1) = (h.l.getD k default).cnt + 1 := wrap_i64 (by omega) (by omega)
      refine ⟨_, _, rfl, rfl, _, _, rfl, ren_int rfl ?_, _, _, rfl, ren_int rfl ?_, _, _, rfl, rfl, _, _, rfl, rfl, _, _, rfl, rfl, _, _, rfl, rfl, _, _, rfl, rfl, _, _, rfl, rfl, _, _, rfl, rfl, _, _, rfl, rfl, rfl⟩
      · show (if IntKind.i64.wrap ((h.l.getD k default).cnt + 1) > (cntO (h.l.take k) o : Int) + 1 then IntKind.i64.wrap ((h.l.getD k default).cnt + 1) else (cntO (h.l.take k) o : Int) + 1) = (cntO (h.l.take (k + 1)) o : Int) + 1
        rw [hw2]
        split <;> omega
      · show (if IntKind.i64.wrap ((h.l.getD k default).stamp + 1) > maxS (h.l.take k) 0 + 1 then IntKind.i64.wrap ((h.l.getD k default).stamp + 1) else maxS (h.l.take k) 0 + 1) = maxS (h.l.take (k + 1)) 0 + 1
        rw [e, hw]
        split <;> split <;> omega
    · have b : ((h.l.getD k default).org == o) = false := b
      rw [if_neg (by rw [b]; simp)] at hs
      refine Sat.go (Eq.refl _) (NS.next ⟨k + 1, a, m2⟩ (by show h.l.length - (k + 1) < h.l.length - k; omega) ?_)
      refine weak_hd [] rfl ⟨rfl, rfl, rfl, rfl, rfl, ren_int rfl (i64_k (k := k) (n := h.l.length) a (by omega)), trivial⟩ ⟨⟨_, rfl, renChg _ _⟩, ⟨_, rfl, ?_⟩, trivial⟩ trivial (by kernel_rfl)
      refine ⟨_, _, rfl, rfl, _, _, rfl, ren_int rfl ?_, _, _, rfl, ren_int rfl ?_, _, _, rfl, rfl, _, _, rfl, rfl, _, _, rfl, rfl, _, _, rfl, rfl, _, _, rfl, rfl, _, _, rfl, rfl, _, _, rfl, rfl, _, _, rfl, rfl, rfl⟩
      · show (cntO (h.l.take k) o : Int) + 1 = (cntO (h.l.take (k + 1)) o : Int) + 1
        omega
      · show (if IntKind.i64.wrap ((h.l.getD k default).stamp + 1) > maxS (h.l.take k) 0 + 1 then IntKind.i64.wrap ((h.l.getD k default).stamp + 1) else maxS (h.l.take k) 0 + 1) = maxS (h.l.take (k + 1)) 0 + 1
        rw [e, hw]
        split <;> split <;> omega
  · have a : h.l.length ≤ k := by simpa using a
    have hle := cntO_le h.l o
    rw [take_all a] at m0 m1
    refine Sat.go (Eq.refl _) (NS.leave rfl (Eq.refl _) ?_)
    exact Sat.go (Eq.refl _) (NS.ret rfl rfl (by rw [take_all a]; unfold nextM; rw [wrap_i64 (by omega) (by omega), wrap_i64 (by omega) (by omega)]; exact LeA.refl _))
end Go.Proofs.Ythfbahebeembeaa
