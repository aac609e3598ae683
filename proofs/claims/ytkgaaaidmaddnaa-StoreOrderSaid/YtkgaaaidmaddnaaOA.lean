/- Comparing numbers, ids and items. -/
import Derived.Test.YtkgaaaidmaddnaaYR
set_option linter.unusedSimpArgs false
set_option linter.unusedSectionVars false
set_option linter.unusedVariables false
namespace Go.Proofs.Ytkgaaaidmaddnaa
open Go.Sy Go.Mb
set_option maxRecDepth 100000
set_option linter.unusedVariables false
set_option maxHeartbeats 1000000

def nC (n : Int) : List A := [.int .i64 n]
def slN (l : List Int) : A := .sl 1 l.length (rowL nC l)
def cmpI (a b : Int) : Int := if a < b then -1 else if a > b then 1 else 0
theorem isNaN_ok (n : Int) : FnOK Try.prog 96 [.int .i64 n] (.bool false, none) := by
  refine fn_ok CN rfl (by kernel_rfl) Try.func96 rfl ?_
  exact Sat.go (Eq.refl _) (NS.ret rfl rfl (LeA.of (congrArg A.bool (bne_self_eq_false n))))
theorem compare_ok (a b : Int) : FnOK Try.prog 70 [.int .i64 a, .int .i64 b] (.int .i64 (cmpI a b), none) := by
  refine fn_ok CN rfl (by kernel_rfl) Try.func70 rfl ?_
  refine Sat.go (Eq.refl _) (NS.call (isNaN_ok a) rfl ?_)
  refine Sat.go (Eq.refl _) (NS.call (isNaN_ok b) rfl ?_)
  refine Sat.go (Eq.refl _) (NS.no rfl ?_)
  refine Sat.go (Eq.refl _) (NS.no rfl ?_)
  refine Sat.go (Eq.refl _) (NS.ite (fun h => ?_) (fun h => ?_))
  · refine Sat.go (Eq.refl _) (NS.ret rfl rfl (LeA.of (congrArg (A.int .i64) ?_)))
    unfold cmpI; rw [if_pos (by simpa using h)]
  refine Sat.go (Eq.refl _) (NS.ite (fun h2 => ?_) (fun h2 => ?_))
  · refine Sat.go (Eq.refl _) (NS.ret rfl rfl (LeA.of (congrArg (A.int .i64) ?_)))
    unfold cmpI; rw [if_neg (by simpa using h), if_pos (by simpa using h2)]
  · refine Sat.go (Eq.refl _) (NS.ret rfl rfl (LeA.of (congrArg (A.int .i64) ?_)))
    unfold cmpI; rw [if_neg (by simpa using h), if_neg (by simpa using h2)]
def cmpL : List Int → List Int → Int
  | [], [] => 0
  | [], _ :: _ => -1
  | _ :: _, [] => 1
  | a :: l, b :: m => if cmpI a b != 0 then cmpI a b else cmpL l m
theorem drop_end {α : Type} {l : List α} {k : Nat} (h : l.length ≤ k) : l.drop k = [] := List.drop_eq_nil_of_le h
theorem compareL_ok (l m : List Int) (hl : l.length ≤ 1000000) : FnOK Try.prog 119 [slN l, slN m] (.int .i64 (cmpL l m), none) := by
  refine fn_ok CN rfl (by kernel_rfl) Try.func119 rfl ?_
  refine Sat.go (Eq.refl _) ?_
  refine NS.loop (σ := { k : Nat // k ≤ l.length ∧ k ≤ m.length ∧ cmpL l m = cmpL (l.drop k) (m.drop k) }) (fun k => [(0, slN l), (1, slN m), (9, slN l), (10, .int .i64 l.length), (11, .int .i64 k.1)]) (fun _ => []) (fun k => l.length - k.1) ⟨0, Nat.zero_le _, Nat.zero_le _, rfl⟩ ?_ ?_
  · exact weak_hd [] rfl ⟨rfl, rfl, rfl, rfl, rfl, trivial⟩ trivial trivial (by kernel_rfl)
  · rintro ⟨k, hk, hk2, hs⟩
    refine Sat.go (Eq.refl _) (NS.ite (fun h => ?_) (fun h => ?_))
    · simp at h
      rw [drop_cons (by omega)] at hs
      refine Sat.go (Eq.refl _) (NS.need (by simp; omega) ?_)
      refine Sat.go (Eq.refl _) (NS.ite (fun h2 => ?_) (fun h2 => ?_))
      · simp at h2
        refine Sat.go (Eq.refl _) (NS.leaveOut rfl (Eq.refl _) (NS.ret rfl rfl (LeA.of (congrArg (A.int .i64) ?_))))
        rw [hs, drop_end (l := m) (by omega)]; rfl
      · simp at h2
        rw [drop_cons (l := m) (by omega)] at hs
        refine Sat.go (Eq.refl _) (NS.need (by simp; omega) ?_)
        refine Sat.go (Eq.refl _) (NS.call (compare_ok (l.getD k default) (m.getD k default)) rfl ?_)
        refine Sat.go (Eq.refl _) (NS.ite (fun h3 => ?_) (fun h3 => ?_))
        · refine Sat.go (Eq.refl _) (NS.leaveOut rfl (Eq.refl _) (NS.ret rfl rfl (LeA.of (congrArg (A.int .i64) ?_))))
          rw [hs, cmpL, if_pos h3]
        · refine Sat.go (Eq.refl _) (NS.next ⟨k + 1, by omega, by omega, ?_⟩ (by simp; omega) ?_)
          · rw [hs, cmpL, if_neg (by rw [Bool.not_eq_true]; exact h3)]
          · exact weak_hd [] rfl ⟨rfl, rfl, rfl, rfl, ren_int rfl (i64_k (k := k) (n := l.length) (by omega) (by omega)), trivial⟩ trivial trivial (by kernel_rfl)
    · simp at h
      refine Sat.go (Eq.refl _) (NS.leave rfl (Eq.refl _) ?_)
      rw [drop_end (l := l) (by omega)] at hs
      refine Sat.go (Eq.refl _) (NS.ite (fun h2 => ?_) (fun h2 => ?_))
      · simp at h2
        refine Sat.go (Eq.refl _) (NS.ret rfl rfl (LeA.of (congrArg (A.int .i64) ?_)))
        rw [hs, drop_cons (l := m) (by omega)]; rfl
      · simp at h2
        refine Sat.go (Eq.refl _) (NS.ret rfl rfl (LeA.of (congrArg (A.int .i64) ?_)))
        rw [hs, drop_end (by omega)]; rfl
/-- The first number that is not 0. -/
def orL : List Int → Int
  | [] => 0
  | a :: l => if a != 0 then a else orL l
theorem or_ok (l : List Int) (hl : l.length ≤ 1000000) : FnOK Try.prog 69 [slN l] (.int .i64 (orL l), none) := by
  refine fn_ok CN rfl (by kernel_rfl) Try.func69 rfl ?_
  refine Sat.go (Eq.refl _) ?_
  refine NS.loop (σ := { k : Nat // k ≤ l.length ∧ orL l = orL (l.drop k) }) (fun k => [(3, .int .i64 0), (6, slN l), (7, .int .i64 l.length), (8, .int .i64 k.1)]) (fun _ => []) (fun k => l.length - k.1) ⟨0, Nat.zero_le _, rfl⟩ ?_ ?_
  · exact weak_hd [] rfl ⟨rfl, rfl, rfl, rfl, trivial⟩ trivial trivial (by kernel_rfl)
  · rintro ⟨k, hk, hs⟩
    refine Sat.go (Eq.refl _) (NS.ite (fun h => ?_) (fun h => ?_))
    · simp at h
      rw [drop_cons (by omega)] at hs
      refine Sat.go (Eq.refl _) (NS.need (by simp; omega) ?_)
      refine Sat.go (Eq.refl _) (NS.ite (fun h3 => ?_) (fun h3 => ?_))
      · refine Sat.go (Eq.refl _) (NS.leaveOut rfl (Eq.refl _) (NS.ret rfl rfl (LeA.of (congrArg (A.int .i64) ?_))))
        show l.getD k default = orL l
        have h3' : (l.getD k default != 0) = true := h3
        rw [hs, orL, if_pos h3']
      · refine Sat.go (Eq.refl _) (NS.next ⟨k + 1, by omega, ?_⟩ (by simp; omega) ?_)
        · have h3' : (l.getD k default != 0) = false := h3
          rw [hs, orL, if_neg (by rw [h3']; simp)]
        · exact weak_hd [] rfl ⟨rfl, rfl, rfl, ren_int rfl (i64_k (k := k) (n := l.length) (by omega) (by omega)), trivial⟩ trivial trivial (by kernel_rfl)
    · simp at h
      refine Sat.go (Eq.refl _) (NS.leave rfl (Eq.refl _) ?_)
      refine Sat.go (Eq.refl _) (NS.ret rfl rfl (LeA.of (congrArg (A.int .i64) ?_)))
      rw [hs, drop_end (by omega)]; rfl
end Go.Proofs.Ytkgaaaidmaddnaa
