/- The law UpdateLast. -/
import Derived.Test.YthfbahebeembeaaUZA
set_option linter.unusedSimpArgs false
set_option linter.unusedSectionVars false
set_option linter.unusedVariables false
namespace Go.Proofs.Ythfbahebeembeaa
open Go.Sy Go.Mb
set_option maxRecDepth 100000
set_option linter.unusedVariables false
set_option maxHeartbeats 4000000
theorem lsame_ok (a b : Ctc) : FnOK Try.prog 32 [.agg a.cells, .agg b.cells] (.bool (nmE a b), none) := by
  refine fn_ok CN rfl (by kernel_rfl) Try.func32 rfl ?_
  repeat' (first | (refine Sat.go (Eq.refl _) (NS.ite (fun h => ?_) (fun h => ?_))) | (refine Sat.go (Eq.refl _) (NS.chk (by kernel_rfl) ?_)) | (exact Sat.go (Eq.refl _) (NS.ret rfl rfl (LeA.of (congrArg A.bool (by unfold nmE; simp only [*, Bool.true_and, Bool.false_and]))))))
theorem last1_ok (c d : Ctc) : FnOK Try.prog 31 [.agg d.cells, .ip 7 (getA c.cells)] (.bool (nmE c d), none) := by
  refine fn_ok CN rfl (by kernel_rfl) Try.func31 rfl ?_
  refine Sat.go (Eq.refl _) (NS.call (lsame_ok c d) rfl ?_)
  exact Sat.go (Eq.refl _) (NS.ret rfl rfl (LeA.refl _))
theorem updateLast_ok (h : His) (o other : Int) (c : Ctc) : FnOK Try.prog 5 [.agg h.cells, .int .i64 o, .int .i64 other, .agg c.cells] (.bool true, none) := by
  refine fn_ok CN rfl (by kernel_rfl) Try.func5 rfl ?_
  refine Sat.go (Eq.refl _) (NS.call (great_ok h) rfl ?_)
  refine Sat.go (Eq.refl _) (NS.ite (fun h0 => ?_) (fun h0 => ?_))
  · refine Sat.go (Eq.refl _) (NS.call (awake_ok) rfl ?_)
    exact Sat.go (Eq.refl _) (NS.ret rfl rfl (LeA.refl _))
  have hl : h.l.length ≤ 40 := by have h0 : ¬ (h.l.length : Int) > 40 := of_decide_eq_false h0
                                  omega
  by_cases e : (putM h o c).2 = 0
  case neg =>
    refine Sat.go (Eq.refl _) (NS.call (put_ok h o c (by omega)) rfl ?_)
    refine Sat.go (Eq.refl _) (NS.yes (by show ((putM h o c).2 != 0) = true; simpa using e) ?_)
    refine Sat.go (Eq.refl _) (NS.call (awake_ok) rfl ?_)
    exact Sat.go (Eq.refl _) (NS.ret rfl rfl (LeA.refl _))
  obtain ⟨a1, a2, a3⟩ := putM_some e
  have cput := put_ok h o c (by omega)
  rw [a3] at cput
  have g := chkHi_good a1
  have ga := next_good g (by omega) o 1 c a2
  have hn := chkHi_nodes a1
  obtain ⟨n1, n2⟩ := ins_newest g (by omega) o 1 c
  generalize hL : insM h.l (nextM h.l o 1 c) = L at *
  have hLl : L.length ≤ 41 := by rw [← hL, insM_len]; omega
  have ca : chkHi ⟨h.nodes, L⟩ = 0 := GoodH.check (h := ⟨h.nodes, L⟩) ga hn.1 hn.2 (by show L.length ≤ 1000; omega)
  have hin : c ∈ conL L := newest_in ga n1 rfl n2
  have ccon := contacts_ok ⟨h.nodes, L⟩ (by show L.length ≤ 1000000; omega)
  rw [consM_ok ca (by show L.length ≤ 64; omega)] at ccon
  have hcl : (conN L).length = (conL L).length := (srtN_perm _).length_eq
  have hcl2 := conL_len L
  have hany : (conN L).any (fun y => Ctc.eqv c y) = true := List.any_eq_true.2 ⟨c, conN_mem.2 hin, Ctc.eqv_iff.2 rfl⟩
  refine Sat.go (Eq.refl _) (NS.call (cput) rfl ?_)
  refine Sat.go (Eq.refl _) (NS.no (rfl) ?_)
  refine Sat.go (Eq.refl _) (NS.call (ccon) rfl ?_)
  refine Sat.go (Eq.refl _) (NS.no (rfl) ?_)
  refine Sat.go (Eq.refl _) (NS.call (hasY_ok (conN L) c (by omega)) rfl ?_)
  refine Sat.go (Eq.refl _) (NS.no (by show (!(conN L).any (fun y => Ctc.eqv c y)) = false; rw [hany]; rfl) ?_)
  refine Sat.go (Eq.refl _) ?_
  refine NS.loop (σ := { k : Nat // k ≤ (conN L).length }) (fun k => [(2, .int .i64 other), (7, .ptr 7 0), (9, .ptr 9 0), (43, slCtc (conN L)), (44, .int .i64 (conN L).length), (45, .int .i64 k.1)]) (fun k => [(7, .box c.cells), (9, .box (His.cells ⟨h.nodes, L⟩))]) (fun k => (conN L).length - k.1) ⟨0, Nat.zero_le _⟩ ?_ ?_
  · exact weak_hd [] rfl ⟨rfl, rfl, rfl, rfl, rfl, rfl, trivial⟩ ⟨⟨_, rfl, renCtc _ _⟩, ⟨_, rfl, renHis _ _⟩, trivial⟩ trivial (by kernel_rfl)
  rintro ⟨k, hk⟩
  refine Sat.go (Eq.refl _) (NS.ite (fun a => ?_) (fun a => ?_))
  · have a : k < (conN L).length := by simpa using a
    have hd : (conN L).getD k default ∈ conL L := by rw [getD_lt a]; exact conN_mem.1 (List.getElem_mem _)
    refine Sat.go (Eq.refl _) (NS.need (by simp; omega) ?_)
    refine Sat.go (Eq.refl _) (NS.ite (fun b => ?_) (fun b => ?_))
    · have b : (!Ctc.eqv ((conN L).getD k default) c) = true := b
      have hne : c ≠ (conN L).getD k default := by
        intro e2
        rw [Ctc.eqv_iff.2 e2.symm] at b; cases b
      have hap := (conL_apart' ga hin hd hne).1
      refine Sat.go (Eq.refl _) (NS.call (overlap_ok c ((conN L).getD k default)) rfl ?_)
      refine Sat.go (Eq.refl _) (NS.no (hap) ?_)
      refine Sat.go (Eq.refl _) (NS.next ⟨k + 1, a⟩ (by simp; omega) ?_)
      exact weak_hd [] rfl ⟨rfl, rfl, rfl, rfl, rfl, ren_int rfl (i64_k (k := k) (n := (conN L).length) a (by omega)), trivial⟩ ⟨⟨_, rfl, renCtc _ _⟩, ⟨_, rfl, renHis _ _⟩, trivial⟩ trivial (by kernel_rfl)
    · refine Sat.go (Eq.refl _) (NS.next ⟨k + 1, a⟩ (by simp; omega) ?_)
      exact weak_hd [] rfl ⟨rfl, rfl, rfl, rfl, rfl, ren_int rfl (i64_k (k := k) (n := (conN L).length) a (by omega)), trivial⟩ ⟨⟨_, rfl, renCtc _ _⟩, ⟨_, rfl, renHis _ _⟩, trivial⟩ trivial (by kernel_rfl)
  refine Sat.go (Eq.refl _) (NS.leave rfl (Eq.refl _) ?_)
  have hnm : (conL L).any (fun d => nmE d c) = true := List.any_eq_true.2 ⟨c, hin, nmE_iff.2 ⟨rfl, rfl, rfl⟩⟩
  by_cases e2 : (remM ⟨h.nodes, L⟩ other c).2 = 0
  case neg =>
    have e3 : (remM ⟨h.nodes, L⟩ other c).2 = 2 := by
      unfold remM at e2 ⊢
      rw [ca, if_neg (by simp)] at e2 ⊢
      by_cases e4 : (!validX h.nodes (nextM L other 2 (nameC c))) = true
      · rw [if_pos e4]
      · rw [if_neg e4, hnm] at e2
        exact absurd rfl e2
    refine Sat.go (Eq.refl _) (NS.call (remove_ok ⟨h.nodes, L⟩ other c (by show L.length ≤ 999; omega)) rfl ?_)
    refine Sat.go (Eq.refl _) (NS.yes (by show ((remM ⟨h.nodes, L⟩ other c).2 != 0) = true; rw [e3]; rfl) ?_)
    refine Sat.go (Eq.refl _) (NS.yes (by show ((remM ⟨h.nodes, L⟩ other c).2 == 2) = true; rw [e3]; rfl) ?_)
    refine Sat.go (Eq.refl _) (NS.call (awake_ok) rfl ?_)
    exact Sat.go (Eq.refl _) (NS.ret rfl rfl (LeA.refl _))
  obtain ⟨b1, b2, b3⟩ := remM_some e2
  have crem := remove_ok ⟨h.nodes, L⟩ other c (by show L.length ≤ 999; omega)
  rw [b3] at crem
  have gb : GoodH h.nodes (insM L (nextM L other 2 (nameC c))) := next_good ga (by omega) other 2 (nameC c) b2
  have hrem := fun {d : Ctc} => removed_out (d := d) ga (by omega) other c
  have hMl : (insM L (nextM L other 2 (nameC c))).length ≤ 42 := by rw [insM_len]; omega
  change FnOK _ _ _ (hisR (⟨h.nodes, insM L (nextM L other 2 (nameC c))⟩, 0), none) at crem
  generalize insM L (nextM L other 2 (nameC c)) = M at *
  have cb : chkHi ⟨h.nodes, M⟩ = 0 := GoodH.check (h := ⟨h.nodes, M⟩) gb hn.1 hn.2 (by show M.length ≤ 1000; omega)
  have ccon2 := contacts_ok ⟨h.nodes, M⟩ (by show M.length ≤ 1000000; omega)
  rw [consM_ok cb (by show M.length ≤ 64; omega)] at ccon2
  have hml : (conN M).length = (conL M).length := (srtN_perm _).length_eq
  have hml2 := conL_len M
  have hnone : (conN M).any (fun d => nmE c d) = false := by
    rw [List.any_eq_false]
    intro d hd
    rw [hrem (conN_mem.1 hd)]; simp
  refine Sat.go (Eq.refl _) (NS.call (crem) rfl ?_)
  refine Sat.go (Eq.refl _) (NS.no (rfl) ?_)
  refine Sat.go (Eq.refl _) (NS.call (ccon2) rfl ?_)
  refine Sat.go (Eq.refl _) (NS.yes (rfl) ?_)
  refine Sat.go (Eq.refl _) (NS.call (anyK_ok (conN M) (by omega) 31 7 (getA c.cells) (fun d => nmE c d) (last1_ok c)) rfl ?_)
  refine Sat.go (Eq.refl _) (NS.yes (by show (!(conN M).any (fun d => nmE c d)) = true; rw [hnone]; rfl) ?_)
  refine Sat.go (Eq.refl _) (NS.call (awake_ok) rfl ?_)
  exact Sat.go (Eq.refl _) (NS.ret rfl rfl (LeA.refl _))
end Go.Proofs.Ythfbahebeembeaa
