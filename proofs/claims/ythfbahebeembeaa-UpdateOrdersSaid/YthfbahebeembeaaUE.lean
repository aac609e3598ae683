/- Check, New, Same. -/
import Derived.Test.YthfbahebeembeaaUD
set_option linter.unusedSimpArgs false
set_option linter.unusedSectionVars false
set_option linter.unusedVariables false
namespace Go.Mb
open Go.Sy
set_option linter.unusedVariables false
/-- The change before the k-th one. -/
def optAt (l : List Chg) : Nat → Option Chg
  | 0 => none
  | k + 1 => some (l.getD k default)
theorem folE_none {x : Chg} : folE none x = 0 ↔ x.cnt = 1 := by
  show (if x.cnt != 1 then (25 : Int) else 0) = 0 ↔ _
  split <;> rename_i h
  · have h : x.cnt ≠ 1 := by simpa using h
    constructor <;> intro h2 <;> first | cases h2; done | exact absurd h2 h
  · have h : x.cnt = 1 := by simpa using h
    exact ⟨fun _ => h, fun _ => rfl⟩
/-- One change can stand right behind another one. -/
def Nxt (p x : Chg) : Prop := (p.org < x.org ∧ x.cnt = 1) ∨ (p.org = x.org ∧ x.cnt = p.cnt + 1 ∧ p.stamp < x.stamp)
theorem folE_some {p x : Chg} : folE (some p) x = 0 ↔ Nxt p x := by
  show (if decide (x.org < p.org) || (p.org == x.org && decide (x.cnt ≤ p.cnt)) then (9 : Int) else if p.org == x.org then (if x.cnt != p.cnt + 1 then 25 else if decide (x.stamp ≤ p.stamp) then 9 else 0) else if x.cnt != 1 then 25 else 0) = 0 ↔ _
  unfold Nxt
  simp only [Bool.or_eq_true, Bool.and_eq_true, decide_eq_true_eq, beq_iff_eq, bne_iff_ne]
  (repeat' split) <;> omega
theorem folE_cnt {p : Option Chg} {x : Chg} (h : folE p x = 0) : x.cnt = 1 ∨ ∃ q, p = some q ∧ Nxt q x := by
  cases p with
  | none => exact .inl (folE_none.1 h)
  | some q => exact .inr ⟨q, rfl, folE_some.1 h⟩
def upTo (p : Option Chg) (k : Nat) : Prop := ∀ q, p = some q → 1 ≤ q.cnt ∧ q.cnt ≤ (k : Int)
theorem upTo_next {p : Option Chg} {x : Chg} {k : Nat} {n : Int} (h : upTo p k) (hv : validX n x = true) (hf : folE p x = 0) : upTo (some x) (k + 1) := by
  intro q hq
  injection hq with hq
  subst hq
  have h1 := (validX_iff.1 hv).1.2.2.1
  rcases folE_cnt hf with h2 | ⟨q', h2, h3⟩
  · exact ⟨h1, by omega⟩
  · have := h q' h2
    unfold Nxt at h3
    exact ⟨h1, by omega⟩
end Go.Mb
namespace Go.Proofs.Ythfbahebeembeaa
open Go.Sy Go.Mb
set_option maxRecDepth 100000
set_option linter.unusedVariables false
set_option maxHeartbeats 4000000
theorem check_ok (h : His) : FnOK Try.prog 24 [.agg h.cells] (.int .i64 (chkHi h), none) := by
  refine fn_ok CN rfl (by kernel_rfl) Try.func24 rfl ?_
  refine Sat.go (Eq.refl _) (NS.ite (fun h1 => ?_) (fun h1 => ?_))
  · exact Sat.go (Eq.refl _) (NS.ret rfl rfl (LeA.of (congrArg (A.int .i64) (by unfold chkHi; rw [show decide (h.nodes < 1) = true from h1]; rfl))))
  refine Sat.go (Eq.refl _) (NS.ite (fun h2 => ?_) (fun h2 => ?_))
  · exact Sat.go (Eq.refl _) (NS.ret rfl rfl (LeA.of (congrArg (A.int .i64) (by unfold chkHi; rw [show decide (h.nodes > 16) = true from h2, Bool.or_true, if_pos rfl]))))
  have e1 : ¬ (decide (h.nodes < 1) || decide (h.nodes > 16)) = true := by rw [show decide (h.nodes < 1) = false from h1, show decide (h.nodes > 16) = false from h2]; simp
  refine Sat.go (Eq.refl _) (NS.ite (fun h3 => ?_) (fun h3 => ?_))
  · exact Sat.go (Eq.refl _) (NS.ret rfl rfl (LeA.of (congrArg (A.int .i64) (by unfold chkHi; rw [if_neg e1, if_pos h3]))))
  have e2 : chkHi h = chkL h.nodes none h.l := by unfold chkHi; rw [if_neg e1, if_neg (by rw [show decide ((h.l.length : Int) > 1000) = false from h3]; simp)]
  have hl : h.l.length ≤ 1000 := by have := of_decide_eq_false h3; omega
  rw [e2]
  refine Sat.go (Eq.refl _) ?_
  refine NS.loop (σ := { q : Nat × Option Chg // q.1 ≤ h.l.length ∧ chkL h.nodes none h.l = chkL h.nodes q.2 (h.l.drop q.1) ∧ upTo q.2 q.1 }) (fun q => [(1, .ptr 1 0), (3, optA q.1.2), (20, slChg h.l), (21, .int .i64 h.l.length), (22, .int .i64 q.1.1)]) (fun q => [(1, .box h.cells)]) (fun q => h.l.length - q.1.1) ⟨(0, none), Nat.zero_le _, rfl, fun q hq => by cases hq⟩ ?_ ?_
  · exact weak_hd [] rfl ⟨rfl, rfl, rfl, rfl, rfl, trivial⟩ ⟨⟨_, rfl, renHis _ _⟩, trivial⟩ trivial (by kernel_rfl)
  rintro ⟨⟨k, p⟩, hk, hs, hu⟩
  have hu : upTo p k := hu
  have hs : chkL h.nodes none h.l = chkL h.nodes p (h.l.drop k) := hs
  have hu2 : ∀ q, p = some q → 1 ≤ q.cnt ∧ q.cnt ≤ 1000000000000 := fun q hq => by have := hu q hq; have hk : k ≤ h.l.length := hk; omega
  rcases p with _ | p
  · · refine Sat.go (Eq.refl _) (NS.ite (fun a => ?_) (fun a => ?_))
      · have a : k < h.l.length := by simpa using a
        rw [drop_cons a, chkL] at hs
        refine Sat.go (Eq.refl _) (NS.need (by simp; omega) ?_)
        refine Sat.go (Eq.refl _) (NS.call (valid_ok h.nodes (h.l.getD k default)) rfl ?_)
        refine Sat.go (Eq.refl _) (NS.ite (fun b => ?_) (fun b => ?_))
        · have b : (!validX h.nodes (h.l.getD k default)) = true := b
          exact Sat.go (Eq.refl _) (NS.leaveOut rfl (Eq.refl _) (NS.ret rfl rfl (LeA.of (congrArg (A.int .i64) (by rw [hs, if_pos b])))))
        have b : (!validX h.nodes (h.l.getD k default)) = false := b
        rw [if_neg (by rw [b]; simp)] at hs
        refine Sat.go (Eq.refl _) (NS.call (follows_ok none (h.l.getD k default) hu2) rfl ?_)
        refine Sat.go (Eq.refl _) (NS.ite (fun c => ?_) (fun c => ?_))
        · have c : (folE none (h.l.getD k default) != 0) = true := c
          exact Sat.go (Eq.refl _) (NS.leaveOut rfl (Eq.refl _) (NS.ret rfl rfl (LeA.of (congrArg (A.int .i64) (by rw [hs, if_pos c])))))
        have c : (folE none (h.l.getD k default) != 0) = false := c
        rw [if_neg (by rw [c]; simp)] at hs
        refine Sat.go (Eq.refl _) (NS.need (by show decide (0 ≤ (k : Int) ∧ (k : Int) < h.l.length) = true; simp; omega) ?_)
        refine Sat.go (Eq.refl _) (NS.next ⟨(k + 1, some (h.l.getD k default)), by show k + 1 ≤ h.l.length; omega, hs, upTo_next hu (by simpa using b) (by simpa using c)⟩ (by show h.l.length - (k + 1) < h.l.length - k; omega) ?_)
        exact weak_hd [] rfl ⟨rfl, rfl, rfl, rfl, ren_int rfl (i64_k (k := k) (n := h.l.length) a (by omega)), trivial⟩ ⟨⟨_, rfl, renHis _ _⟩, trivial⟩ trivial (by kernel_rfl)
      · have a : h.l.length ≤ k := by simpa using a
        rw [List.drop_eq_nil_of_le a] at hs
        refine Sat.go (Eq.refl _) (NS.leave rfl (Eq.refl _) ?_)
        exact Sat.go (Eq.refl _) (NS.ret rfl rfl (LeA.of (congrArg (A.int .i64) (hs.symm))))
  · · refine Sat.go (Eq.refl _) (NS.ite (fun a => ?_) (fun a => ?_))
      · have a : k < h.l.length := by simpa using a
        rw [drop_cons a, chkL] at hs
        refine Sat.go (Eq.refl _) (NS.need (by simp; omega) ?_)
        refine Sat.go (Eq.refl _) (NS.call (valid_ok h.nodes (h.l.getD k default)) rfl ?_)
        refine Sat.go (Eq.refl _) (NS.ite (fun b => ?_) (fun b => ?_))
        · have b : (!validX h.nodes (h.l.getD k default)) = true := b
          exact Sat.go (Eq.refl _) (NS.leaveOut rfl (Eq.refl _) (NS.ret rfl rfl (LeA.of (congrArg (A.int .i64) (by rw [hs, if_pos b])))))
        have b : (!validX h.nodes (h.l.getD k default)) = false := b
        rw [if_neg (by rw [b]; simp)] at hs
        refine Sat.go (Eq.refl _) (NS.call (follows_ok (some p) (h.l.getD k default) hu2) rfl ?_)
        refine Sat.go (Eq.refl _) (NS.ite (fun c => ?_) (fun c => ?_))
        · have c : (folE (some p) (h.l.getD k default) != 0) = true := c
          exact Sat.go (Eq.refl _) (NS.leaveOut rfl (Eq.refl _) (NS.ret rfl rfl (LeA.of (congrArg (A.int .i64) (by rw [hs, if_pos c])))))
        have c : (folE (some p) (h.l.getD k default) != 0) = false := c
        rw [if_neg (by rw [c]; simp)] at hs
        refine Sat.go (Eq.refl _) (NS.need (by show decide (0 ≤ (k : Int) ∧ (k : Int) < h.l.length) = true; simp; omega) ?_)
        refine Sat.go (Eq.refl _) (NS.next ⟨(k + 1, some (h.l.getD k default)), by show k + 1 ≤ h.l.length; omega, hs, upTo_next hu (by simpa using b) (by simpa using c)⟩ (by show h.l.length - (k + 1) < h.l.length - k; omega) ?_)
        exact weak_hd [] rfl ⟨rfl, rfl, rfl, rfl, ren_int rfl (i64_k (k := k) (n := h.l.length) a (by omega)), trivial⟩ ⟨⟨_, rfl, renHis _ _⟩, trivial⟩ trivial (by kernel_rfl)
      · have a : h.l.length ≤ k := by simpa using a
        rw [List.drop_eq_nil_of_le a] at hs
        refine Sat.go (Eq.refl _) (NS.leave rfl (Eq.refl _) ?_)
        exact Sat.go (Eq.refl _) (NS.ret rfl rfl (LeA.of (congrArg (A.int .i64) (hs.symm))))
end Go.Proofs.Ythfbahebeembeaa
