/- Comparisons, and the sorting contracts. -/
import Derived.Test.YthfbahebeembeaaUC
import Derived.Test.YthfbahebeembeaaLY
import Derived.Test.YthfbahebeembeaaSySortF
set_option linter.unusedSimpArgs false
set_option linter.unusedSectionVars false
set_option linter.unusedVariables false
namespace Go.Mb
open Go.Sy
set_option linter.unusedVariables false
def cmpI (a b : Int) : Int := if a < b then -1 else if a > b then 1 else 0
def orL : List Int → Int
  | [] => 0
  | a :: l => if a != 0 then a else orL l
def byO (a b : Chg) : Int := orL [cmpI a.org b.org, cmpI a.cnt b.cnt]
def newF (a b : Chg) : Int := orL [cmpI b.stamp a.stamp, cmpI b.org a.org]
def byN (a b : Ctc) : Int := orL [cmpI a.fr b.fr, cmpI a.to b.to, cmpI a.start b.start]
theorem cmpI_neg {a b : Int} : cmpI a b < 0 ↔ a < b := by unfold cmpI; split <;> (try split) <;> omega
theorem cmpI_zero {a b : Int} : cmpI a b = 0 ↔ a = b := by unfold cmpI; split <;> (try split) <;> omega
theorem orL_neg {a : Int} {l : List Int} : orL (a :: l) < 0 ↔ a < 0 ∨ (a = 0 ∧ orL l < 0) := by
  rw [orL]
  split
  · rename_i h
    have h : a ≠ 0 := by simpa using h
    omega
  · rename_i h
    have h : a = 0 := by simpa using h
    omega
theorem orL_zero {a : Int} {l : List Int} : orL (a :: l) = 0 ↔ a = 0 ∧ orL l = 0 := by
  rw [orL]
  split
  · rename_i h
    have h : a ≠ 0 := by simpa using h
    omega
  · rename_i h
    have h : a = 0 := by simpa using h
    omega
theorem orL_nil : orL [] = 0 := rfl
theorem byO_neg {a b : Chg} : byO a b < 0 ↔ ltX a b := by
  unfold byO ltX
  rw [orL_neg, orL_neg, orL_nil, cmpI_neg, cmpI_zero, cmpI_neg]
  omega
theorem byO_zero {a b : Chg} : byO a b = 0 ↔ a.org = b.org ∧ a.cnt = b.cnt := by
  unfold byO
  rw [orL_zero, orL_zero, cmpI_zero, cmpI_zero]
  simp [orL_nil]
def ltS (a b : Chg) : Prop := a.stamp > b.stamp ∨ (a.stamp = b.stamp ∧ a.org > b.org)
theorem newF_neg {a b : Chg} : newF a b < 0 ↔ ltS a b := by
  unfold newF ltS
  rw [orL_neg, orL_neg, orL_nil, cmpI_neg, cmpI_zero, cmpI_neg]
  omega
def ltN (a b : Ctc) : Prop := a.fr < b.fr ∨ (a.fr = b.fr ∧ (a.to < b.to ∨ (a.to = b.to ∧ a.start < b.start)))
theorem byN_neg {a b : Ctc} : byN a b < 0 ↔ ltN a b := by
  unfold byN ltN
  rw [orL_neg, orL_neg, orL_neg, orL_nil, cmpI_neg, cmpI_zero, cmpI_neg, cmpI_zero, cmpI_neg]
  omega
theorem lt_byO {a b : Chg} : Go.Proofs.ltOf byO a b = true ↔ ltX a b := by unfold Go.Proofs.ltOf; rw [decide_eq_true_eq, byO_neg]
theorem lt_newF {a b : Chg} : Go.Proofs.ltOf newF a b = true ↔ ltS a b := by unfold Go.Proofs.ltOf; rw [decide_eq_true_eq, newF_neg]
theorem lt_byN {a b : Ctc} : Go.Proofs.ltOf byN a b = true ↔ ltN a b := by unfold Go.Proofs.ltOf; rw [decide_eq_true_eq, byN_neg]
theorem swo_of {α : Type} (f : α → α → Int) (lt : α → α → Prop) (h : ∀ {a b}, Go.Proofs.ltOf f a b = true ↔ lt a b) (h1 : ∀ a, ¬ lt a a) (h2 : ∀ a b c, lt a b → lt b c → lt a c) (h3 : ∀ a b c, ¬ lt a b → ¬ lt b c → ¬ lt a c) : Go.Sort.SWO (Go.Proofs.ltOf f) where
  irrefl x := by rw [← Bool.not_eq_true, h]; exact h1 x
  trans x y z a b := by rw [h] at *; exact h2 x y z a b
  ntrans x y z a b := by rw [← Bool.not_eq_true, h] at *; exact h3 x y z a b
theorem swo_byO : Go.Sort.SWO (Go.Proofs.ltOf byO) := swo_of byO ltX lt_byO (fun a => by unfold ltX; omega) (fun a b c => by unfold ltX; omega) (fun a b c => by unfold ltX; omega)
theorem swo_newF : Go.Sort.SWO (Go.Proofs.ltOf newF) := swo_of newF ltS lt_newF (fun a => by unfold ltS; omega) (fun a b c => by unfold ltS; omega) (fun a b c => by unfold ltS; omega)
theorem swo_byN : Go.Sort.SWO (Go.Proofs.ltOf byN) := swo_of byN ltN lt_byN (fun a => by unfold ltN; omega) (fun a b c => by unfold ltN; omega) (fun a b c => by unfold ltN; omega)
def encChg (x : Chg) : List Value := [.int .i64 x.org, .int .i64 x.cnt, .int .i64 x.stamp, .int .i64 x.kind, .int .i64 x.c.fr, .int .i64 x.c.to, .int .i64 x.c.start, .int .i64 x.c.stop, .int .i64 x.c.rate, .int .i64 x.c.rng, .int .i64 x.c.loss]
def encCtc (x : Ctc) : List Value := [.int .i64 x.fr, .int .i64 x.to, .int .i64 x.start, .int .i64 x.stop, .int .i64 x.rate, .int .i64 x.rng, .int .i64 x.loss]
theorem liesChg : Go.Sy.Lies encChg 11 Chg.cells where
  pos := by omega
  len _ := rfl
  one x v hv := by simp [encChg] at hv; rcases hv with rfl | rfl | rfl | rfl | rfl | rfl | rfl | rfl | rfl | rfl | rfl <;> rfl
  cell x j hj w O u := by
    match j, hj with
    | 0, _ | 1, _ | 2, _ | 3, _ | 4, _ | 5, _ | 6, _ | 7, _ | 8, _ | 9, _ | 10, _ => simp [Chg.cells, encChg, Go.Sy.getA, Go.Sy.R, eq_comm]
theorem liesCtc : Go.Sy.Lies encCtc 7 Ctc.cells where
  pos := by omega
  len _ := rfl
  one x v hv := by simp [encCtc] at hv; rcases hv with rfl | rfl | rfl | rfl | rfl | rfl | rfl <;> rfl
  cell x j hj w O u := by
    match j, hj with
    | 0, _ | 1, _ | 2, _ | 3, _ | 4, _ | 5, _ | 6, _ => simp [Ctc.cells, encCtc, Go.Sy.getA, Go.Sy.R, eq_comm]
end Go.Mb
namespace Go.Proofs.Ythfbahebeembeaa
open Go.Sy Go.Mb Go.Proofs
set_option maxRecDepth 100000
set_option linter.unusedVariables false
set_option maxHeartbeats 4000000
theorem isNaN_ok (n : Int) : FnOK Try.prog 90 [.int .i64 n] (.bool false, none) := by
  refine fn_ok CN rfl (by kernel_rfl) Try.func90 rfl ?_
  exact Sat.go (Eq.refl _) (NS.ret rfl rfl (LeA.of (congrArg A.bool (bne_self_eq_false n))))
theorem compare_ok (a b : Int) : FnOK Try.prog 64 [.int .i64 a, .int .i64 b] (.int .i64 (cmpI a b), none) := by
  refine fn_ok CN rfl (by kernel_rfl) Try.func64 rfl ?_
  refine Sat.go (Eq.refl _) (NS.call (isNaN_ok a) rfl ?_)
  refine Sat.go (Eq.refl _) (NS.call (isNaN_ok b) rfl ?_)
  refine Sat.go (Eq.refl _) (NS.no (rfl) ?_)
  refine Sat.go (Eq.refl _) (NS.no (rfl) ?_)
  refine Sat.go (Eq.refl _) (NS.ite (fun h => ?_) (fun h => ?_))
  · exact Sat.go (Eq.refl _) (NS.ret rfl rfl (LeA.of (congrArg (A.int .i64) (by unfold cmpI; rw [if_pos (by simpa using h)]))))
  refine Sat.go (Eq.refl _) (NS.ite (fun h2 => ?_) (fun h2 => ?_))
  · exact Sat.go (Eq.refl _) (NS.ret rfl rfl (LeA.of (congrArg (A.int .i64) (by unfold cmpI; rw [if_neg (by simpa using h), if_pos (by simpa using h2)]))))
  · exact Sat.go (Eq.refl _) (NS.ret rfl rfl (LeA.of (congrArg (A.int .i64) (by unfold cmpI; rw [if_neg (by simpa using h), if_neg (by simpa using h2)]))))
theorem or_ok (l : List Int) (hl : l.length ≤ 1000) : FnOK Try.prog 63 [slN l] (.int .i64 (orL l), none) := by
  refine fn_ok CN rfl (by kernel_rfl) Try.func63 rfl ?_
  refine Sat.go (Eq.refl _) ?_
  refine NS.loop (σ := { k : Nat // k ≤ l.length ∧ orL l = orL (l.drop k) }) (fun k => [(3, .int .i64 0), (6, slN l), (7, .int .i64 l.length), (8, .int .i64 k.1)]) (fun _ => []) (fun k => l.length - k.1) ⟨0, Nat.zero_le _, rfl⟩ ?_ ?_
  · exact weak_hd [] rfl ⟨rfl, rfl, rfl, rfl, trivial⟩ trivial trivial (by kernel_rfl)
  rintro ⟨k, hk, hs⟩
  refine Sat.go (Eq.refl _) (NS.ite (fun h => ?_) (fun h => ?_))
  · have h : k < l.length := by simpa using h
    rw [drop_cons h] at hs
    refine Sat.go (Eq.refl _) (NS.need (by simp; omega) ?_)
    refine Sat.go (Eq.refl _) (NS.ite (fun h2 => ?_) (fun h2 => ?_))
    · have h2 : (l.getD k default != 0) = true := h2
      exact Sat.go (Eq.refl _) (NS.leaveOut rfl (Eq.refl _) (NS.ret rfl rfl (LeA.of (congrArg (A.int .i64) (by show l.getD k default = orL l; rw [hs, orL, if_pos h2])))))
    · have h2 : (l.getD k default != 0) = false := h2
      refine Sat.go (Eq.refl _) (NS.next ⟨k + 1, by omega, by rw [hs, orL, if_neg (by rw [h2]; simp)]⟩ (by simp; omega) ?_)
      exact weak_hd [] rfl ⟨rfl, rfl, rfl, ren_int rfl (i64_k (by omega) (by omega)), trivial⟩ trivial trivial (by kernel_rfl)
  · have h : l.length ≤ k := by simpa using h
    rw [List.drop_eq_nil_of_le h, orL_nil] at hs
    refine Sat.go (Eq.refl _) (NS.leave rfl (Eq.refl _) ?_)
    exact Sat.go (Eq.refl _) (NS.ret rfl rfl (LeA.of (congrArg (A.int .i64) (hs.symm))))
theorem lit_2 {el : Nat → Nat → A} {x y : Int} (h0 : el 0 0 = .int .i64 x) (h1 : el 1 0 = .int .i64 y) : ∀ i, i < 2 → ∀ j, j < 1 → el i j = rowL nC [x, y] i j := by
  intro i hi j hj
  obtain rfl : j = 0 := by omega
  match i, hi with
  | 0, _ => exact h0
  | 1, _ => exact h1
theorem lit_3 {el : Nat → Nat → A} {x y z : Int} (h0 : el 0 0 = .int .i64 x) (h1 : el 1 0 = .int .i64 y) (h2 : el 2 0 = .int .i64 z) : ∀ i, i < 3 → ∀ j, j < 1 → el i j = rowL nC [x, y, z] i j := by
  intro i hi j hj
  obtain rfl : j = 0 := by omega
  match i, hi with
  | 0, _ => exact h0
  | 1, _ => exact h1
  | 2, _ => exact h2
theorem byO_ok (a b : Chg) : FnOK Try.prog 72 [.agg a.cells, .agg b.cells] (.int .i64 (byO a b), none) := by
  refine fn_ok CN rfl (by kernel_rfl) Try.func72 rfl ?_
  refine Sat.go (Eq.refl _) (NS.chk (by kernel_rfl) ?_)
  refine Sat.go (Eq.refl _) (NS.call (compare_ok a.org b.org) rfl ?_)
  refine Sat.go (Eq.refl _) (NS.call (compare_ok a.cnt b.cnt) rfl ?_)
  refine Sat.go (Eq.refl _) (NS.call ((or_ok [cmpI a.org b.org, cmpI a.cnt b.cnt] (by simp)).le (LeL.cons (LeA.sl rfl (lit_2 rfl rfl)) LeL.nil)) rfl ?_)
  exact Sat.go (Eq.refl _) (NS.ret rfl rfl (LeA.refl _))
theorem newF_ok (a b : Chg) : FnOK Try.prog 83 [.agg a.cells, .agg b.cells] (.int .i64 (newF a b), none) := by
  refine fn_ok CN rfl (by kernel_rfl) Try.func83 rfl ?_
  refine Sat.go (Eq.refl _) (NS.chk (by kernel_rfl) ?_)
  refine Sat.go (Eq.refl _) (NS.call (compare_ok b.stamp a.stamp) rfl ?_)
  refine Sat.go (Eq.refl _) (NS.call (compare_ok b.org a.org) rfl ?_)
  refine Sat.go (Eq.refl _) (NS.call ((or_ok [cmpI b.stamp a.stamp, cmpI b.org a.org] (by simp)).le (LeL.cons (LeA.sl rfl (lit_2 rfl rfl)) LeL.nil)) rfl ?_)
  exact Sat.go (Eq.refl _) (NS.ret rfl rfl (LeA.refl _))
theorem byN_ok (a b : Ctc) : FnOK Try.prog 62 [.agg a.cells, .agg b.cells] (.int .i64 (byN a b), none) := by
  refine fn_ok CN rfl (by kernel_rfl) Try.func62 rfl ?_
  refine Sat.go (Eq.refl _) (NS.chk (by kernel_rfl) ?_)
  refine Sat.go (Eq.refl _) (NS.call (compare_ok a.fr b.fr) rfl ?_)
  refine Sat.go (Eq.refl _) (NS.call (compare_ok a.to b.to) rfl ?_)
  refine Sat.go (Eq.refl _) (NS.call (compare_ok a.start b.start) rfl ?_)
  refine Sat.go (Eq.refl _) (NS.call ((or_ok [cmpI a.fr b.fr, cmpI a.to b.to, cmpI a.start b.start] (by simp)).le (LeL.cons (LeA.sl rfl (lit_3 rfl rfl rfl)) LeL.nil)) rfl ?_)
  exact Sat.go (Eq.refl _) (NS.ret rfl rfl (LeA.refl _))
theorem sortO_mu (zs : List Chg) (hsz : zs.length < 4611686018427387904) : FnMu Try.prog 71 [.own 0, .fn 72 []] (.row 52 11 zs.length (rowL Chg.cells zs)) (fun ob r => (∃ zs' : List Chg, zs'.Perm zs ∧ zs'.Pairwise (fun a b => ltOf byO b a = false) ∧ ob = .row 52 11 zs.length (rowL Chg.cells zs')) ∧ r = .tup []) :=
  sortF_mu Try.ly6 (by kernel_rfl) liesChg Try.isAgg52 Try.sizeOf52 byO swo_byO 72 (enters_of Try.func72 (by kernel_rfl) rfl) (compares_of liesChg (fun _ => rfl) byO_ok) zs _ hsz
theorem sortS_mu (zs : List Chg) (hsz : zs.length < 4611686018427387904) : FnMu Try.prog 71 [.own 0, .fn 83 []] (.row 52 11 zs.length (rowL Chg.cells zs)) (fun ob r => (∃ zs' : List Chg, zs'.Perm zs ∧ zs'.Pairwise (fun a b => ltOf newF b a = false) ∧ ob = .row 52 11 zs.length (rowL Chg.cells zs')) ∧ r = .tup []) :=
  sortF_mu Try.ly6 (by kernel_rfl) liesChg Try.isAgg52 Try.sizeOf52 newF swo_newF 83 (enters_of Try.func83 (by kernel_rfl) rfl) (compares_of liesChg (fun _ => rfl) newF_ok) zs _ hsz
theorem sortN_mu (zs : List Ctc) (hsz : zs.length < 4611686018427387904) : FnMu Try.prog 61 [.own 0, .fn 62 []] (.row 26 7 zs.length (rowL Ctc.cells zs)) (fun ob r => (∃ zs' : List Ctc, zs'.Perm zs ∧ zs'.Pairwise (fun a b => ltOf byN b a = false) ∧ ob = .row 26 7 zs.length (rowL Ctc.cells zs')) ∧ r = .tup []) :=
  sortF_mu Try.ly7 (by kernel_rfl) liesCtc Try.isAgg26 Try.sizeOf26 byN swo_byN 62 (enters_of Try.func62 (by kernel_rfl) rfl) (compares_of liesCtc (fun _ => rfl) byN_ok) zs _ hsz
end Go.Proofs.Ythfbahebeembeaa
