/- The law UpdatePlans. -/
import Derived.Test.YthfbahebeembeaaUZL
set_option linter.unusedSimpArgs false
set_option linter.unusedSectionVars false
set_option linter.unusedVariables false
namespace Go.Mb
open Go.Sy
set_option linter.unusedVariables false
/-- Two lists of numbers, compared. -/
def cmpL : List Int → List Int → Int
  | [], [] => 0
  | [], _ :: _ => -1
  | _ :: _, [] => 1
  | a :: l, b :: m => if cmpI a b != 0 then cmpI a b else cmpL l m
theorem cmpL_three (a b : Ctc) : cmpL (nm a) (nm b) = byN a b := by
  show (if cmpI a.fr b.fr != 0 then cmpI a.fr b.fr else if cmpI a.to b.to != 0 then cmpI a.to b.to else if cmpI a.start b.start != 0 then cmpI a.start b.start else 0) = (if cmpI a.fr b.fr != 0 then cmpI a.fr b.fr else if cmpI a.to b.to != 0 then cmpI a.to b.to else if cmpI a.start b.start != 0 then cmpI a.start b.start else 0)
  rfl
theorem consM_zero {h : His} (e : (consM h).2 = 0) : chkHi h = 0 ∧ consM h = (conN h.l, 0) := by
  unfold consM at e ⊢
  split at e
  · cases e
  · rename_i h1
    split at e
    · cases e
    · rename_i h2
      exact ⟨by simpa using h1, by rw [if_neg h1, if_neg h2]⟩
theorem consM_bad {h : His} (e : (consM h).2 ≠ 0) : (consM h).1 = [] := by
  unfold consM at e ⊢
  split at e
  · rename_i h1; rw [if_pos h1]
  · rename_i h1
    split at e
    · rename_i h2; rw [if_neg h1, if_pos h2]
    · exact absurd rfl e
end Go.Mb
namespace Go.Proofs.Ythfbahebeembeaa
open Go.Sy Go.Mb
set_option maxRecDepth 100000
set_option linter.unusedVariables false
set_option maxHeartbeats 4000000
theorem compareL_ok (l m : List Int) (hl : l.length ≤ 1000000) (hm : m.length ≤ 1000000) : FnOK Try.prog 36 [slN l, slN m] (.int .i64 (cmpL l m), none) := by
  refine fn_ok CN rfl (by kernel_rfl) Try.func36 rfl ?_
  refine Sat.go (Eq.refl _) ?_
  refine NS.loop (σ := { k : Nat // k ≤ l.length ∧ k ≤ m.length ∧ cmpL l m = cmpL (l.drop k) (m.drop k) }) (fun k => [(0, slN l), (1, slN m), (9, slN l), (10, .int .i64 l.length), (11, .int .i64 k.1)]) (fun _ => []) (fun k => l.length - k.1) ⟨0, Nat.zero_le _, Nat.zero_le _, by simp⟩ ?_ ?_
  · exact weak_hd [] rfl ⟨rfl, rfl, rfl, rfl, rfl, trivial⟩ trivial trivial (by kernel_rfl)
  rintro ⟨k, hk, hk2, hs⟩
  refine Sat.go (Eq.refl _) (NS.ite (fun a => ?_) (fun a => ?_))
  · have a : k < l.length := by simpa using a
    refine Sat.go (Eq.refl _) (NS.need (by simp; omega) ?_)
    refine Sat.go (Eq.refl _) (NS.ite (fun b => ?_) (fun b => ?_))
    · have b : m.length ≤ k := by have b : (k : Int) ≥ m.length := of_decide_eq_true b
                                  omega
      rw [drop_cons a, List.drop_eq_nil_of_le b] at hs
      exact Sat.go (Eq.refl _) (NS.leaveOut rfl (Eq.refl _) (NS.ret rfl rfl (LeA.of (congrArg (A.int .i64) (hs.symm)))))
    · have b : k < m.length := by have b : ¬ (k : Int) ≥ m.length := of_decide_eq_false b
                                  omega
      rw [drop_cons a, drop_cons b] at hs
      refine Sat.go (Eq.refl _) (NS.need (by simp; omega) ?_)
      refine Sat.go (Eq.refl _) (NS.call (compare_ok (l.getD k default) (m.getD k default)) rfl ?_)
      refine Sat.go (Eq.refl _) (NS.ite (fun c => ?_) (fun c => ?_))
      · have c : (cmpI (l.getD k default) (m.getD k default) != 0) = true := c
        exact Sat.go (Eq.refl _) (NS.leaveOut rfl (Eq.refl _) (NS.ret rfl rfl (LeA.of (congrArg (A.int .i64) (by rw [hs, cmpL, if_pos c])))))
      · have c : (cmpI (l.getD k default) (m.getD k default) != 0) = false := c
        refine Sat.go (Eq.refl _) (NS.next ⟨k + 1, a, b, by rw [hs, cmpL, if_neg (by rw [c]; simp)]⟩ (by simp; omega) ?_)
        exact weak_hd [] rfl ⟨rfl, rfl, rfl, rfl, ren_int rfl (i64_k (by omega) (by omega)), trivial⟩ trivial trivial (by kernel_rfl)
  · have a : l.length ≤ k := by simpa using a
    rw [List.drop_eq_nil_of_le a] at hs
    refine Sat.go (Eq.refl _) (NS.leave rfl (Eq.refl _) ?_)
    refine Sat.go (Eq.refl _) (NS.ite (fun b => ?_) (fun b => ?_))
    · have b : k < m.length := by have b : (l.length : Int) < m.length := of_decide_eq_true b
                                  omega
      rw [drop_cons b] at hs
      exact Sat.go (Eq.refl _) (NS.ret rfl rfl (LeA.of (congrArg (A.int .i64) (hs.symm))))
    · have b : m.length ≤ k := by have b : ¬ (l.length : Int) < m.length := of_decide_eq_false b
                                  omega
      rw [List.drop_eq_nil_of_le b] at hs
      exact Sat.go (Eq.refl _) (NS.ret rfl rfl (LeA.of (congrArg (A.int .i64) (hs.symm))))
theorem plans1_ok (c : Ctc) (x : Chg) : FnOK Try.prog 33 [.agg x.cells, .ip 7 (getA c.cells)] (.bool (x.kind == 1 && Ctc.eqv x.c c), none) := by
  refine fn_ok CN rfl (by kernel_rfl) Try.func33 rfl ?_
  refine Sat.go (Eq.refl _) (NS.ite (fun h => ?_) (fun h => ?_))
  · exact Sat.go (Eq.refl _) (NS.ret rfl rfl (LeA.of (congrArg A.bool (by rw [show (x.kind == 1) = true from h, Bool.true_and]; rfl))))
  · exact Sat.go (Eq.refl _) (NS.ret rfl rfl (LeA.of (congrArg A.bool (by rw [show (x.kind == 1) = false from h, Bool.false_and]))))
theorem updatePlans_ok (h : His) : FnOK Try.prog 6 [.agg h.cells] (.bool true, none) := by
  refine fn_ok CN rfl (by kernel_rfl) Try.func6 rfl ?_
  refine Sat.go (Eq.refl _) (NS.call (great_ok h) rfl ?_)
  refine Sat.go (Eq.refl _) (NS.ite (fun h0 => ?_) (fun h0 => ?_))
  · refine Sat.go (Eq.refl _) (NS.call (awake_ok) rfl ?_)
    exact Sat.go (Eq.refl _) (NS.ret rfl rfl (LeA.refl _))
  have hl : h.l.length ≤ 40 := by have h0 : ¬ (h.l.length : Int) > 40 := of_decide_eq_false h0
                                  omega
  by_cases e : (consM h).2 = 0
  case neg =>
    have hb := consM_bad e
    refine Sat.go (Eq.refl _) (NS.call (contacts_ok h (by omega)) rfl ?_)
    refine Sat.go (Eq.refl _) (NS.yes (by show ((consM h).2 != 0) = true; simpa using e) ?_)
    refine Sat.go (Eq.refl _) (NS.yes (by show (((consM h).1.length : Int) == 0) = true; rw [hb]; rfl) ?_)
    refine Sat.go (Eq.refl _) (NS.call (awake_ok) rfl ?_)
    exact Sat.go (Eq.refl _) (NS.ret rfl rfl (LeA.refl _))
  obtain ⟨c1, c2⟩ := consM_zero e
  have ccon := contacts_ok h (by omega)
  rw [c2] at ccon
  have g := chkHi_good c1
  have hcl : (conN h.l).length = (conL h.l).length := (srtN_perm _).length_eq
  have hcl2 := conL_len h.l
  have hsrt := srtN_sorted (conL_apart g)
  rw [List.pairwise_iff_getElem] at hsrt
  refine Sat.go (Eq.refl _) (NS.call (ccon) rfl ?_)
  refine Sat.go (Eq.refl _) (NS.no (rfl) ?_)
  refine Sat.go (Eq.refl _) ?_
  refine NS.loop (σ := { k : Nat // k ≤ (conN h.l).length }) (fun k => [(1, .ptr 1 0), (3, slCtc (conN h.l)), (26, slCtc (conN h.l)), (27, .int .i64 (conN h.l).length), (28, .int .i64 k.1)]) (fun k => [(1, .box h.cells)]) (fun k => (conN h.l).length - k.1) ⟨0, Nat.zero_le _⟩ ?_ ?_
  · exact weak_hd [] rfl ⟨rfl, rfl, rfl, rfl, rfl, trivial⟩ ⟨⟨_, rfl, renHis _ _⟩, trivial⟩ trivial (by kernel_rfl)
  rintro ⟨k, hk⟩
  refine Sat.go (Eq.refl _) (NS.ite (fun a => ?_) (fun a => ?_))
  · have a : k < (conN h.l).length := by simpa using a
    have hkm : (conN h.l).getD k default ∈ conL h.l := by rw [getD_lt a]; exact conN_mem.1 (List.getElem_mem _)
    obtain ⟨x, hx, hxc, hxk⟩ := conL_mem hkm
    have hxk1 : (x.kind == 1) = true := by unfold isCand at hxk; rw [Bool.and_eq_true] at hxk; exact hxk.1
    have hchk : chkC ((conN h.l).getD k default) = 0 := by
      rw [← hxc]
      have h1 : x.kind = 1 := by simpa using hxk1
      rcases (validX_iff.1 (g.val hx)).2.2 with h2 | h2
      · exact h2.2
      · omega
    have hany : h.l.any (fun y => y.kind == 1 && Ctc.eqv y.c ((conN h.l).getD k default)) = true := List.any_eq_true.2 ⟨x, hx, by rw [hxk1, Ctc.eqv_iff.2 hxc]; rfl⟩
    refine Sat.go (Eq.refl _) (NS.need (by simp; omega) ?_)
    refine Sat.go (Eq.refl _) (NS.call (cCheck_ok ((conN h.l).getD k default)) rfl ?_)
    refine Sat.go (Eq.refl _) (NS.no (by show (chkC ((conN h.l).getD k default) != 0) = false; rw [hchk]; rfl) ?_)
    refine Sat.go (Eq.refl _) (NS.call (anyC_ok h.l (by omega) 33 7 (getA ((conN h.l).getD k default).cells) (fun y => y.kind == 1 && Ctc.eqv y.c ((conN h.l).getD k default)) (plans1_ok _)) rfl ?_)
    refine Sat.go (Eq.refl _) (NS.no (by show (!h.l.any (fun y => y.kind == 1 && Ctc.eqv y.c ((conN h.l).getD k default))) = false; rw [hany]; rfl) ?_)
    repeat' (first | (refine Sat.go (Eq.refl _) (NS.chk (by kernel_rfl) ?_)) | (refine Sat.go (Eq.refl _) (NS.need (by (try dsimp only); simp only [decide_eq_true_eq]; omega) ?_)))
    refine Sat.go (Eq.refl _) ?_
    refine NS.loop (σ := { j : Nat // j ≤ k }) (fun j => [(1, .ptr 1 0), (3, slCtc (conN h.l)), (6, .ptr 6 0), (26, slCtc (conN h.l)), (27, .int .i64 (conN h.l).length), (28, .int .i64 k), (46, .sl 7 k (rowL Ctc.cells (conN h.l))), (47, .int .i64 k), (48, .int .i64 j.1)]) (fun j => [(1, .box h.cells), (6, .box ((conN h.l).getD k default).cells)]) (fun j => k - j.1) ⟨0, Nat.zero_le _⟩ ?_ ?_
    · exact weak_hd [] rfl ⟨rfl, rfl, rfl, rfl, rfl, rfl, (by show A.sl 7 (((k : Nat) : Int) - ((0 : Nat) : Int)).toNat (fun i => rowL Ctc.cells (conN h.l) (((0 : Nat) : Int).toNat + i)) = A.sl 7 k (rowL Ctc.cells (conN h.l)); rw [show (((k : Nat) : Int) - ((0 : Nat) : Int)).toNat = k by omega]; congr 1; funext i; simp), ren_int rfl (by show ((((k : Nat) : Int) - ((0 : Nat) : Int)).toNat : Int) = (k : Int); omega), rfl, trivial⟩ ⟨⟨_, rfl, renHis _ _⟩, ⟨_, rfl, renCtc _ _⟩, trivial⟩ trivial (by kernel_rfl)
    rintro ⟨j, hj⟩
    refine Sat.go (Eq.refl _) (NS.ite (fun b => ?_) (fun b => ?_))
    · have b : j < k := by simpa using b
      have hjm : (conN h.l).getD j default ∈ conL h.l := by rw [getD_lt (show j < (conN h.l).length by omega)]; exact conN_mem.1 (List.getElem_mem _)
      have hlt := hsrt j k (by show j < (conN h.l).length; omega) a b
      have hlt : ltN ((conN h.l).getD j default) ((conN h.l).getD k default) := by rw [getD_lt a, getD_lt (show j < (conN h.l).length by omega)]; exact hlt
      have hne : (conN h.l).getD k default ≠ (conN h.l).getD j default := fun e2 => by rw [e2] at hlt; exact ltN_irr _ hlt
      have hap := conL_apart' g hkm hjm hne
      refine Sat.go (Eq.refl _) (NS.need (by simp; omega) ?_)
      refine Sat.go (Eq.refl _) (NS.call (overlap_ok ((conN h.l).getD k default) ((conN h.l).getD j default)) rfl ?_)
      refine Sat.go (Eq.refl _) (NS.no (hap.1) ?_)
      refine Sat.go (Eq.refl _) (NS.call (lsame_ok ((conN h.l).getD k default) ((conN h.l).getD j default)) rfl ?_)
      refine Sat.go (Eq.refl _) (NS.no (hap.2) ?_)
      refine Sat.go (Eq.refl _) (NS.call ((compareL_ok (nm ((conN h.l).getD j default)) (nm ((conN h.l).getD k default)) (by simp [nm]) (by simp [nm])).le (LeL.cons (LeA.sl rfl (lit_3 rfl rfl rfl)) (LeL.cons (LeA.sl rfl (lit_3 rfl rfl rfl)) LeL.nil))) rfl ?_)
      refine Sat.go (Eq.refl _) (NS.no (by show decide (cmpL (nm ((conN h.l).getD j default)) (nm ((conN h.l).getD k default)) ≥ 0) = false; rw [cmpL_three, decide_eq_false_iff_not]; have := byN_neg.2 hlt; omega) ?_)
      refine Sat.go (Eq.refl _) (NS.next ⟨j + 1, by omega⟩ (by show k - (j + 1) < k - j; omega) ?_)
      exact weak_hd [] rfl ⟨rfl, rfl, rfl, rfl, rfl, rfl, rfl, rfl, ren_int rfl (i64_k (k := j) (n := k) b (by omega)), trivial⟩ ⟨⟨_, rfl, renHis _ _⟩, ⟨_, rfl, renCtc _ _⟩, trivial⟩ trivial (by kernel_rfl)
    · refine Sat.go (Eq.refl _) (NS.leave rfl (Eq.refl _) ?_)
      refine Sat.go (Eq.refl _) (NS.next ⟨k + 1, a⟩ (by show (conN h.l).length - (k + 1) < (conN h.l).length - k; omega) ?_)
      exact weak_hd [] rfl ⟨rfl, rfl, rfl, rfl, ren_int rfl (i64_k (k := k) (n := (conN h.l).length) a (by omega)), trivial⟩ ⟨⟨_, rfl, renHis _ _⟩, trivial⟩ trivial (by kernel_rfl)
  · refine Sat.go (Eq.refl _) (NS.leave rfl (Eq.refl _) ?_)
    refine Sat.go (Eq.refl _) (NS.call (awake_ok) rfl ?_)
    exact Sat.go (Eq.refl _) (NS.ret rfl rfl (LeA.refl _))
end Go.Proofs.Ythfbahebeembeaa
