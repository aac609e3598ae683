/- The statement StoreOnce: the walk. -/
import Derived.Test.YtkgaaaidmaddnaaN
set_option linter.unusedSimpArgs false
set_option linter.unusedSectionVars false
set_option linter.unusedVariables false
namespace Go.Proofs.Ytkgaaaidmaddnaa
open Go.Sy Go.Mb
set_option maxRecDepth 100000
set_option linter.unusedVariables false
set_option maxHeartbeats 1000000

def sameId (x y : Itm) : Itm := { y with id := x.id }
theorem once_tail {i : Inp} {y : Itm} {l : List Jrec} {n : Int} {d : Dur} (hg : greatI i = false) (hy : decide ((y.data.size : Int) > 100) = false) (hn : n = 1 ∨ n = 2 ∨ n = 3) (h1 : putM i.d i.self i.quota i.x i.now = (l, n, 0)) (h2 : appsM i.d l = (d, true)) (hr : rangesM i.self i.quota i.now = true)
    (ha : (d.items.any (hasId i.x.id) || d.inbox.any (hasId i.x.id)) = true) (hd1 : d.items.length ≤ 1000000) (hd2 : d.inbox.length ≤ 1000000) : FnOK Try.prog 4 [.agg i.cells, .agg y.cells] (.bool true, none) := by
  have hgd : greatD i.d = false := by unfold greatI at hg; simp only [Bool.or_eq_false_iff] at hg; exact hg.1
  obtain ⟨b1, b2, _, _⟩ := not_great hgd
  have hll := putM_len i.d i.self i.quota i.x i.now
  rw [h1] at hll
  simp only at hll
  have c0 := greatI_ok i
  rw [hg] at c0
  have c1 := put_ok i.d i.self i.quota i.x i.now (by omega) (by omega)
  rw [h1] at c1
  have c2 := apps_ok i.d l (by omega) (by omega)
  rw [h2] at c2
  have c3 := put_ok d i.self i.quota (sameId i.x y) i.now hd1 hd2
  have hp := put_again (d := d) (self := i.self) (quota := i.quota) (now := i.now) (y := sameId i.x y) hr ha
  refine fn_ok CN rfl (by kernel_rfl) Try.func4 rfl ?_
  refine Sat.go (Eq.refl _) (NS.call c0 rfl ?_)
  refine Sat.go (Eq.refl _) (NS.no rfl ?_)
  refine Sat.go (Eq.refl _) (NS.no hy ?_)
  refine Sat.go (Eq.refl _) (NS.call c1 rfl ?_)
  refine Sat.go (Eq.refl _) (NS.call c2 rfl ?_)
  refine Sat.go (Eq.refl _) (NS.no rfl ?_)
  refine Sat.go (Eq.refl _) (NS.no (by rcases hn with rfl | rfl | rfl <;> rfl) ?_)
  refine Sat.go (Eq.refl _) (NS.no (by rcases hn with rfl | rfl | rfl <;> rfl) ?_)
  rcases hp with hp | ⟨hp, he⟩ | ⟨hp, he⟩
  all_goals rw [hp] at c3
  · refine Sat.go (Eq.refl _) (NS.call c3 rfl ?_)
    refine Sat.go (Eq.refl _) (NS.yes rfl ?_)
    refine Sat.go (Eq.refl _) (NS.yes rfl ?_)
    refine Sat.go (Eq.refl _) (NS.call awake_ok rfl ?_)
    exact Sat.go (Eq.refl _) (NS.ret rfl rfl (LeA.of rfl))
  · refine Sat.go (Eq.refl _) (NS.call c3 rfl ?_)
    refine Sat.go (Eq.refl _) (NS.no rfl ?_)
    refine Sat.go (Eq.refl _) (NS.yes rfl ?_)
    refine Sat.go (Eq.refl _) (NS.yes rfl ?_)
    refine Sat.go (Eq.refl _) (NS.yes (show (((5 : Int) == 3) == decide (y.expires > i.now)) = true by rw [decide_eq_false (by simp only [sameId] at he; omega)]; rfl) ?_)
    refine Sat.go (Eq.refl _) (NS.call awake_ok rfl ?_)
    exact Sat.go (Eq.refl _) (NS.ret rfl rfl (LeA.of rfl))
  · refine Sat.go (Eq.refl _) (NS.call c3 rfl ?_)
    refine Sat.go (Eq.refl _) (NS.no rfl ?_)
    refine Sat.go (Eq.refl _) (NS.yes rfl ?_)
    refine Sat.go (Eq.refl _) (NS.yes rfl ?_)
    refine Sat.go (Eq.refl _) (NS.yes (show (((3 : Int) == 3) == decide (y.expires > i.now)) = true by rw [decide_eq_true (by simp only [sameId] at he; omega)]; rfl) ?_)
    refine Sat.go (Eq.refl _) (NS.call awake_ok rfl ?_)
    exact Sat.go (Eq.refl _) (NS.ret rfl rfl (LeA.of rfl))
theorem once_out {i : Inp} {y : Itm} {n e : Int} (hg : greatI i = false) (hy : decide ((y.data.size : Int) > 100) = false) (h1 : putM i.d i.self i.quota i.x i.now = ([], n, e)) (hn : (e != 0) = true ∨ e = 0 ∧ (n = 4 ∨ n = 5)) : FnOK Try.prog 4 [.agg i.cells, .agg y.cells] (.bool true, none) := by
  have hgd : greatD i.d = false := by unfold greatI at hg; simp only [Bool.or_eq_false_iff] at hg; exact hg.1
  obtain ⟨b1, b2, _, _⟩ := not_great hgd
  have c0 := greatI_ok i
  rw [hg] at c0
  have c1 := put_ok i.d i.self i.quota i.x i.now (by omega) (by omega)
  rw [h1] at c1
  have c2 := apps_ok i.d [] (by simp; omega) (by simp; omega)
  refine fn_ok CN rfl (by kernel_rfl) Try.func4 rfl ?_
  refine Sat.go (Eq.refl _) (NS.call c0 rfl ?_)
  refine Sat.go (Eq.refl _) (NS.no rfl ?_)
  refine Sat.go (Eq.refl _) (NS.no hy ?_)
  refine Sat.go (Eq.refl _) (NS.call c1 rfl ?_)
  refine Sat.go (Eq.refl _) (NS.call c2 rfl ?_)
  rcases hn with hn | ⟨rfl, rfl | rfl⟩
  · refine Sat.go (Eq.refl _) (NS.yes hn ?_)
    refine Sat.go (Eq.refl _) (NS.call awake_ok rfl ?_)
    exact Sat.go (Eq.refl _) (NS.ret rfl rfl (LeA.of rfl))
  · refine Sat.go (Eq.refl _) (NS.no rfl ?_)
    refine Sat.go (Eq.refl _) (NS.yes rfl ?_)
    refine Sat.go (Eq.refl _) (NS.call awake_ok rfl ?_)
    exact Sat.go (Eq.refl _) (NS.ret rfl rfl (LeA.of rfl))
  · refine Sat.go (Eq.refl _) (NS.no rfl ?_)
    refine Sat.go (Eq.refl _) (NS.no rfl ?_)
    refine Sat.go (Eq.refl _) (NS.yes rfl ?_)
    refine Sat.go (Eq.refl _) (NS.call awake_ok rfl ?_)
    exact Sat.go (Eq.refl _) (NS.ret rfl rfl (LeA.of rfl))
theorem storeOnce_ok (i : Inp) (y : Itm) : FnOK Try.prog 4 [.agg i.cells, .agg y.cells] (.bool true, none) := by
  rcases Bool.eq_false_or_eq_true (greatI i) with hg | hg
  · have c0 := greatI_ok i
    rw [hg] at c0
    refine fn_ok CN rfl (by kernel_rfl) Try.func4 rfl ?_
    refine Sat.go (Eq.refl _) (NS.call c0 rfl ?_)
    refine Sat.go (Eq.refl _) (NS.yes rfl ?_)
    refine Sat.go (Eq.refl _) (NS.call awake_ok rfl ?_)
    exact Sat.go (Eq.refl _) (NS.ret rfl rfl (LeA.of rfl))
  rcases Bool.eq_false_or_eq_true (decide ((y.data.size : Int) > 100)) with hy | hy
  · have c0 := greatI_ok i
    rw [hg] at c0
    refine fn_ok CN rfl (by kernel_rfl) Try.func4 rfl ?_
    refine Sat.go (Eq.refl _) (NS.call c0 rfl ?_)
    refine Sat.go (Eq.refl _) (NS.no rfl ?_)
    refine Sat.go (Eq.refl _) (NS.yes hy ?_)
    refine Sat.go (Eq.refl _) (NS.call awake_ok rfl ?_)
    exact Sat.go (Eq.refl _) (NS.ret rfl rfl (LeA.of rfl))
  have hgd : greatD i.d = false := by unfold greatI at hg; simp only [Bool.or_eq_false_iff] at hg; exact hg.1
  obtain ⟨b1, b2, _, _⟩ := not_great hgd
  have hp := putC i.d i.self i.quota i.x i.now
  generalize hr : putM i.d i.self i.quota i.x i.now = r at hp
  cases hp with
  | bad _ => exact once_out hg hy hr (.inl rfl)
  | range _ _ _ => exact once_out hg hy hr (.inl rfl)
  | expired _ _ _ _ => exact once_out hg hy hr (.inr ⟨rfl, .inr rfl⟩)
  | full _ _ _ _ _ _ => exact once_out hg hy hr (.inr ⟨rfl, .inl rfl⟩)
  | dup hc ho h2 h3 h4 => exact once_tail hg hy (.inr (.inr rfl)) hr rfl h2 h4 (by omega) (by omega)
  | deliver hc ho h2 h3 h4 h5 => exact once_tail hg hy (.inr (.inl rfl)) hr (app_deliver hc ho (now_ok h2) h5) h2 (by simp [hasId_self]) (by simp only; omega) (by simp; omega)
  | store hc ho h2 h3 h4 h5 h6 => exact once_tail hg hy (.inl rfl) hr (app_store hc ho (now_ok h2) h4) h2 (by simp [hasId_self]) (by simp; omega) (by simp only; omega)
end Go.Proofs.Ytkgaaaidmaddnaa
