/- The contract of the normal form. -/
import Derived.Test.YtbpdbibnfmdpoaaICA
import Derived.Test.YtbpdbibnfmdpoaaLY
import Derived.Test.YtbpdbibnfmdpoaaSySortF
import Derived.WalkKit
import Derived.ProofKit
set_option linter.unusedSimpArgs false
set_option linter.unusedSectionVars false
set_option linter.unusedVariables false
namespace Go.Mb
/-- Joining, under way: what is there, and what is left. -/
def goJ (o rest : List Spn) : List Spn := match o.getLast? with
  | none => joinL rest
  | some c => o.dropLast ++ mgL c rest
theorem goJ_nil (x : Spn) (r : List Spn) : goJ [] (x :: r) = goJ [x] r := rfl
theorem snoc_of {α : Type} {o : List α} (h : o ≠ []) : ∃ o' c, o = o' ++ [c] := ⟨o.dropLast, o.getLast h, (List.dropLast_concat_getLast h).symm⟩
theorem goJ_snoc (o : List Spn) (c : Spn) (r : List Spn) : goJ (o ++ [c]) r = o ++ mgL c r := by simp [goJ]
theorem goJ_in {o : List Spn} (x : Spn) (r : List Spn) (ho : o ≠ []) (h : x.lo ≤ (o.getD (o.length - 1) default).hi) : goJ o (x :: r) = goJ (o.set (o.length - 1) ⟨(o.getD (o.length - 1) default).lo, max (o.getD (o.length - 1) default).hi x.hi⟩) r := by
  obtain ⟨o', c, rfl⟩ := snoc_of ho
  have e1 : (o' ++ [c]).length - 1 = o'.length := by simp
  have e2 : (o' ++ [c]).getD o'.length default = c := by simp [List.getD]
  rw [e1, e2] at h ⊢
  rw [List.set_append_right _ _ (Nat.le_refl _), Nat.sub_self, List.set_cons_zero, goJ_snoc, goJ_snoc, mgL, if_pos h]
theorem goJ_out {o : List Spn} (x : Spn) (r : List Spn) (ho : o ≠ []) (h : ¬ x.lo ≤ (o.getD (o.length - 1) default).hi) : goJ o (x :: r) = goJ (o ++ [x]) r := by
  obtain ⟨o', c, rfl⟩ := snoc_of ho
  have e1 : (o' ++ [c]).length - 1 = o'.length := by simp
  have e2 : (o' ++ [c]).getD o'.length default = c := by simp [List.getD]
  rw [e1, e2] at h
  rw [goJ_snoc, goJ_snoc, mgL, if_neg h]; simp
theorem goJ_end (o : List Spn) : goJ o [] = o := by
  by_cases ho : o = []
  · subst ho; rfl
  · obtain ⟨o', c, rfl⟩ := snoc_of ho
    rw [goJ_snoc]; rfl
def normM (l : List Spn) : List Spn × Int := if l.length > 1000 then ([], 4) else if l.any (fun y => !vS y) then ([], 2) else (normL l, 0)
theorem all_of_any {l : List Spn} (h : l.any (fun y => !vS y) = false) : ∀ x ∈ l, vS x = true := by
  intro x hx
  rw [List.any_eq_false] at h
  simpa using h x hx
def cmpS (x y : Spn) : Int := Lib.compareInt x.lo y.lo
theorem cmpS_lt (x y : Spn) : Go.Proofs.ltOf cmpS x y = decide (x.lo < y.lo) := by
  unfold Go.Proofs.ltOf cmpS Lib.compareInt
  by_cases h1 : x.lo < y.lo
  · simp [h1]
  · by_cases h2 : y.lo < x.lo <;> simp [h1, h2]
theorem cmpS_swo : Go.Sort.SWO (Go.Proofs.ltOf cmpS) where
  irrefl x := by rw [cmpS_lt]; simp
  trans x y z h1 h2 := by rw [cmpS_lt] at *; simp at *; omega
  ntrans x y z h1 h2 := by rw [cmpS_lt] at *; simp at *; omega
def encSpn (x : Spn) : List Value := [.int .i64 x.lo, .int .i64 x.hi]
theorem liesS : Go.Sy.Lies encSpn 2 Spn.cells where
  pos := by omega
  len _ := rfl
  one x v hv := by simp [encSpn] at hv; rcases hv with rfl | rfl <;> rfl
  cell x j hj w O u := by
    match j, hj with
    | 0, _ => simp [Spn.cells, encSpn, Go.Sy.getA, Go.Sy.R, eq_comm]
    | 1, _ => simp [Spn.cells, encSpn, Go.Sy.getA, Go.Sy.R, eq_comm]
end Go.Mb
namespace Go.Proofs.Ytbpdbibnfmdpoaa
open Go.Sy Go.Mb Go.Shelf Go.RowKit Go.Lib Go.Sort
set_option maxRecDepth 100000
set_option linter.unusedVariables false
set_option maxHeartbeats 1000000

theorem cmpS_calls : Compares Try.prog 62 encSpn cmpS := by
  intro x y W
  show Calls Try.prog 62 #[.agg #[.int .i64 x.lo, .int .i64 x.hi], .agg #[.int .i64 y.lo, .int .i64 y.hi]] W fun e w' => e = .returned (.int .i64 (Lib.compareInt x.lo y.lo)) ∧ ∃ q os', w' = grow (W.drewN q) os'
  have hcon := fun W' => AnyG.cmp_Compare_int Try.ly5 x.lo y.lo W'
  change ∀ W', Calls Try.prog 63 _ _ _ at hcon
  generalize Lib.compareInt x.lo y.lo = r at hcon ⊢
  go_enter Try.func62, Try.ntmps62
  go_wp2_with (go_at_call 63; refine (hcon _).mono ?_; rintro e w' ⟨rfl, rfl⟩)
  go_ret
  exact ⟨rfl, 0, _, by rw [alloc_eq_grow, alloc_eq_grow, grow_grow]; rfl⟩
theorem sortS_mu (zs : List Spn) (hsz : zs.length < 4611686018427387904) : FnMu Try.prog 86 [.own 0, .fn 62 []] (.row 49 2 zs.length (rowL Spn.cells zs)) (fun ob r => (∃ zs' : List Spn, zs'.Perm zs ∧ zs'.Pairwise (fun a b => ltOf cmpS b a = false) ∧ ob = .row 49 2 zs.length (rowL Spn.cells zs')) ∧ r = .tup []) :=
  sortF_mu Try.ly6 (by kernel_rfl) liesS Try.isAgg49 Try.sizeOf49 cmpS cmpS_swo 62 (enters_of Try.func62 (by kernel_rfl) rfl) cmpS_calls zs _ hsz
end Go.Proofs.Ytbpdbibnfmdpoaa
