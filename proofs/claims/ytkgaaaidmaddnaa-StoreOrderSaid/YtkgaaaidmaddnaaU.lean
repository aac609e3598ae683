/- The statement StoreStored: the walk. -/
import Derived.Test.YtkgaaaidmaddnaaT
set_option linter.unusedSimpArgs false
set_option linter.unusedSectionVars false
set_option linter.unusedVariables false
namespace Go.Proofs.Ytkgaaaidmaddnaa
open Go.Sy Go.Mb
set_option maxRecDepth 100000
set_option linter.unusedVariables false
set_option maxHeartbeats 1000000

theorem check_ok (d : Dur) (quota : Int) (h1 : d.items.length ≤ 1000000) (h2 : d.inbox.length ≤ 1000000) : FnOK Try.prog 25 [.agg d.cells, .int .i64 quota] (.int .i64 (checkQ d quota), none) := by
  refine fn_ok CN rfl (by kernel_rfl) Try.func25 rfl ?_
  repeat' (first
    | refine Sat.go (Eq.refl _) ?_
    | refine NS.call (checkItems_ok d h1 h2) rfl ?_
    | refine NS.call (isQuota_ok quota) rfl ?_
    | refine NS.call (used_ok d h1) rfl ?_
    | refine NS.ite (fun _ => ?_) (fun _ => ?_)
    | refine NS.ret rfl rfl (LeA.of (congrArg (A.int .i64) ?_)))
  all_goals (simp_all [checkQ])
theorem checkQ_ok {d : Dur} {q : Int} : checkQ d q = 0 ↔ inR q 0 1073741824 = true ∧ checkM d = 0 ∧ usedM d.items ≤ q := by
  unfold checkQ
  constructor
  · intro h
    split at h
    · rename_i h1
      split at h
      · rename_i h2; simp [h] at h2
      · rename_i h2
        split at h
        · omega
        · exact ⟨h1, by simpa using h2, by omega⟩
    · omega
  · rintro ⟨h1, h2, h3⟩
    rw [if_pos h1, h2, if_neg (by simp), if_neg (by omega)]

theorem stored_tail {i : Inp} {l : List Jrec} {n : Int} {d : Dur} (hg : greatI i = false) (h1 : putM i.d i.self i.quota i.x i.now = (l, n, 0)) (h2 : appsM i.d l = (d, true))
    (hd1 : d.items.length ≤ 1000000) (hd2 : d.inbox.length ≤ 1000000) (hq : checkQ i.d i.quota = 0 → checkQ d i.quota = 0)
    (hc : (n = 1 ∧ l.length = 1 ∧ d = ⟨i.d.items ++ [i.x], i.d.inbox⟩ ∧ usedM d.items ≤ i.quota) ∨ (n = 2 ∧ l.length = 1 ∧ d = ⟨i.d.items, i.d.inbox ++ [i.x]⟩) ∨ ((n = 3 ∨ n = 4 ∨ n = 5) ∧ l.length = 0 ∧ d = i.d)) : FnOK Try.prog 5 [.agg i.cells] (.bool true, none) := by
  have hgd : greatD i.d = false := by unfold greatI at hg; simp only [Bool.or_eq_false_iff] at hg; exact hg.1
  obtain ⟨b1, b2, _, _⟩ := not_great hgd
  have hll := putM_len i.d i.self i.quota i.x i.now
  rw [h1] at hll
  simp only at hll
  have c0 := greatI_ok i
  rw [hg] at c0
  have c1 := put_ok i.d i.self i.quota i.x i.now (by omega) (by omega)
  rw [h1] at c1
  have c2 := apps_ok i.d l (by omega) (by omega)
  rw [h2] at c2
  have c5 := same_ok d d hd1 hd2
  rw [sameD_iff.2 rfl] at c5
  have c6 := check_ok i.d i.quota (by omega) (by omega)
  have c7 := check_ok d i.quota hd1 hd2
  have fin : ∀ {t s fr}, Sat CN (RetP CN [ResultVar.tmp 2] (.bool true, none)) t s fr → Sat CN (RetP CN [ResultVar.tmp 2] (.bool true, none)) t s fr := id
  refine fn_ok CN rfl (by kernel_rfl) Try.func5 rfl ?_
  refine Sat.go (Eq.refl _) (NS.call c0 rfl ?_)
  refine Sat.go (Eq.refl _) (NS.no rfl ?_)
  refine Sat.go (Eq.refl _) (NS.call c1 rfl ?_)
  refine Sat.go (Eq.refl _) (NS.no rfl ?_)
  refine Sat.go (Eq.refl _) (NS.call c2 rfl ?_)
  rcases hc with ⟨rfl, hl, hd, hu⟩ | ⟨rfl, hl, hd⟩ | ⟨hn, hl, hd⟩
  · refine Sat.go (Eq.refl _) (NS.yes rfl ?_)
    refine Sat.go (Eq.refl _) (NS.chk (by kernel_rfl) ?_)
    refine Sat.go (Eq.refl _) (NS.call (clone_ok i.d.items (by omega)) rfl ?_)
    refine Sat.go (Eq.refl _) (NS.need (decide_eq_true (by simp only [maxRow]; omega)) ?_)
    refine Sat.go (Eq.refl _) (NS.chk (by kernel_rfl) ?_)
    refine Sat.go (Eq.refl _) (NS.call (used_ok d hd1) rfl ?_)
    refine Sat.go (Eq.refl _) (NS.no (decide_eq_false (by omega)) ?_)
    refine Sat.go (Eq.refl _) (NS.no rfl ?_)
    refine Sat.go (Eq.refl _) (NS.call (c5.le (LeL.cons (LeA.refl _) (LeL.cons ?_ LeL.nil))) rfl ?_)
    · rw [hd]
      exact agg2_le (LeA.sl (by simp) (fun i' hi j hj => row_snoc (cells := Itm.cells) (x := i.x) rfl i' hi j hj)) (LeA.refl _)
    refine Sat.go (Eq.refl _) (NS.no rfl ?_)
    refine Sat.go (Eq.refl _) (NS.yes rfl ?_)
    refine Sat.go (Eq.refl _) (NS.no (show (((l.length : Int) == 1) != true) = false by rw [hl]; rfl) ?_)
    refine Sat.go (Eq.refl _) (NS.call c6 rfl ?_)
    refine Sat.go (Eq.refl _) (NS.ite (fun h => ?_) (fun h => ?_))
    · refine Sat.go (Eq.refl _) (NS.call awake_ok rfl ?_)
      exact Sat.go (Eq.refl _) (NS.ret rfl rfl (LeA.of rfl))
    · refine Sat.go (Eq.refl _) (NS.call c7 rfl ?_)
      refine Sat.go (Eq.refl _) (NS.yes (by rw [hq (by simpa using h)]; rfl) ?_)
      refine Sat.go (Eq.refl _) (NS.call awake_ok rfl ?_)
      exact Sat.go (Eq.refl _) (NS.ret rfl rfl (LeA.of rfl))
  · refine Sat.go (Eq.refl _) (NS.no rfl ?_)
    refine Sat.go (Eq.refl _) (NS.yes rfl ?_)
    refine Sat.go (Eq.refl _) (NS.chk (by kernel_rfl) ?_)
    refine Sat.go (Eq.refl _) (NS.call (clone_ok i.d.inbox (by omega)) rfl ?_)
    refine Sat.go (Eq.refl _) (NS.need (decide_eq_true (by simp only [maxRow]; omega)) ?_)
    refine Sat.go (Eq.refl _) (NS.no rfl ?_)
    refine Sat.go (Eq.refl _) (NS.call (c5.le (LeL.cons (LeA.refl _) (LeL.cons ?_ LeL.nil))) rfl ?_)
    · rw [hd]
      exact agg2_le (LeA.refl _) (LeA.sl (by simp) (fun i' hi j hj => row_snoc (cells := Itm.cells) (x := i.x) rfl i' hi j hj))
    refine Sat.go (Eq.refl _) (NS.no rfl ?_)
    refine Sat.go (Eq.refl _) (NS.no rfl ?_)
    refine Sat.go (Eq.refl _) (NS.no (show (((l.length : Int) == 1) != true) = false by rw [hl]; rfl) ?_)
    refine Sat.go (Eq.refl _) (NS.call c6 rfl ?_)
    refine Sat.go (Eq.refl _) (NS.ite (fun h => ?_) (fun h => ?_))
    · refine Sat.go (Eq.refl _) (NS.call awake_ok rfl ?_)
      exact Sat.go (Eq.refl _) (NS.ret rfl rfl (LeA.of rfl))
    · refine Sat.go (Eq.refl _) (NS.call c7 rfl ?_)
      refine Sat.go (Eq.refl _) (NS.yes (by rw [hq (by simpa using h)]; rfl) ?_)
      refine Sat.go (Eq.refl _) (NS.call awake_ok rfl ?_)
      exact Sat.go (Eq.refl _) (NS.ret rfl rfl (LeA.of rfl))
  · refine Sat.go (Eq.refl _) (NS.no (by rcases hn with rfl | rfl | rfl <;> rfl) ?_)
    refine Sat.go (Eq.refl _) (NS.no (by rcases hn with rfl | rfl | rfl <;> rfl) ?_)
    refine Sat.go (Eq.refl _) (NS.no rfl ?_)
    refine Sat.go (Eq.refl _) (NS.call (c5.le (LeL.cons (LeA.refl _) (LeL.cons ?_ LeL.nil))) rfl ?_)
    · rw [hd]; exact LeA.refl _
    refine Sat.go (Eq.refl _) (NS.no rfl ?_)
    refine Sat.go (Eq.refl _) (NS.no (by rcases hn with rfl | rfl | rfl <;> rfl) ?_)
    refine Sat.go (Eq.refl _) (NS.no (show (((l.length : Int) == 1) != (n == 2)) = false by rw [hl]; rcases hn with rfl | rfl | rfl <;> rfl) ?_)
    refine Sat.go (Eq.refl _) (NS.call c6 rfl ?_)
    refine Sat.go (Eq.refl _) (NS.ite (fun h => ?_) (fun h => ?_))
    · refine Sat.go (Eq.refl _) (NS.call awake_ok rfl ?_)
      exact Sat.go (Eq.refl _) (NS.ret rfl rfl (LeA.of rfl))
    · refine Sat.go (Eq.refl _) (NS.call c7 rfl ?_)
      refine Sat.go (Eq.refl _) (NS.yes (by rw [hq (by simpa using h)]; rfl) ?_)
      refine Sat.go (Eq.refl _) (NS.call awake_ok rfl ?_)
      exact Sat.go (Eq.refl _) (NS.ret rfl rfl (LeA.of rfl))
theorem stored_out {i : Inp} {e : Int} (hg : greatI i = false) (h1 : putM i.d i.self i.quota i.x i.now = ([], 0, e)) (he : (e != 0) = true) : FnOK Try.prog 5 [.agg i.cells] (.bool true, none) := by
  have hgd : greatD i.d = false := by unfold greatI at hg; simp only [Bool.or_eq_false_iff] at hg; exact hg.1
  obtain ⟨b1, b2, _, _⟩ := not_great hgd
  have c0 := greatI_ok i
  rw [hg] at c0
  have c1 := put_ok i.d i.self i.quota i.x i.now (by omega) (by omega)
  rw [h1] at c1
  refine fn_ok CN rfl (by kernel_rfl) Try.func5 rfl ?_
  refine Sat.go (Eq.refl _) (NS.call c0 rfl ?_)
  refine Sat.go (Eq.refl _) (NS.no rfl ?_)
  refine Sat.go (Eq.refl _) (NS.call c1 rfl ?_)
  refine Sat.go (Eq.refl _) (NS.yes he ?_)
  refine Sat.go (Eq.refl _) (NS.yes rfl ?_)
  refine Sat.go (Eq.refl _) (NS.yes rfl ?_)
  refine Sat.go (Eq.refl _) (NS.call awake_ok rfl ?_)
  exact Sat.go (Eq.refl _) (NS.ret rfl rfl (LeA.of rfl))
theorem storeStored_ok (i : Inp) : FnOK Try.prog 5 [.agg i.cells] (.bool true, none) := by
  rcases Bool.eq_false_or_eq_true (greatI i) with hg | hg
  · have c0 := greatI_ok i
    rw [hg] at c0
    refine fn_ok CN rfl (by kernel_rfl) Try.func5 rfl ?_
    refine Sat.go (Eq.refl _) (NS.call c0 rfl ?_)
    refine Sat.go (Eq.refl _) (NS.yes rfl ?_)
    refine Sat.go (Eq.refl _) (NS.call awake_ok rfl ?_)
    exact Sat.go (Eq.refl _) (NS.ret rfl rfl (LeA.of rfl))
  have hgd : greatD i.d = false := by unfold greatI at hg; simp only [Bool.or_eq_false_iff] at hg; exact hg.1
  obtain ⟨b1, b2, _, _⟩ := not_great hgd
  have hp := putC i.d i.self i.quota i.x i.now
  generalize hr : putM i.d i.self i.quota i.x i.now = r at hp
  cases hp with
  | bad _ => exact stored_out hg hr rfl
  | range _ _ _ => exact stored_out hg hr rfl
  | expired _ _ _ _ => exact stored_tail hg hr rfl (by omega) (by omega) id (.inr (.inr ⟨.inr (.inr rfl), rfl, rfl⟩))
  | full _ _ _ _ _ _ => exact stored_tail hg hr rfl (by omega) (by omega) id (.inr (.inr ⟨.inr (.inl rfl), rfl, rfl⟩))
  | dup hc ho h2 h3 h4 => exact stored_tail hg hr rfl (by omega) (by omega) id (.inr (.inr ⟨.inl rfl, rfl, rfl⟩))
  | deliver hc ho h2 h3 h4 h5 =>
    refine stored_tail hg hr (app_deliver hc ho (now_ok h2) h5) (by simp only; omega) (by simp; omega) (fun h => ?_) (.inr (.inl ⟨rfl, rfl, rfl⟩))
    rw [checkQ_ok] at h ⊢
    obtain ⟨a1, a2, a3, a4⟩ := (good_iff _).1 hc
    refine ⟨h.1, (good_iff _).2 ⟨a1, fun y hy => ?_, a3, uniq_snoc a4 h5⟩, h.2.2⟩
    rcases List.mem_append.1 hy with hy | hy
    · exact a2 y hy
    · obtain rfl := List.mem_singleton.1 hy; exact ho
  | store hc ho h2 h3 h4 h5 h6 =>
    have hu : usedM (i.d.items ++ [i.x]) ≤ i.quota := by rw [used_snoc]; exact h6
    refine stored_tail hg hr (app_store hc ho (now_ok h2) h4) (by simp; omega) (by simp only; omega) (fun h => ?_) (.inl ⟨rfl, rfl, rfl, hu⟩)
    rw [checkQ_ok] at h ⊢
    obtain ⟨a1, a2, a3, a4⟩ := (good_iff _).1 hc
    refine ⟨h.1, (good_iff _).2 ⟨fun y hy => ?_, a2, uniq_snoc a3 h4, a4⟩, hu⟩
    rcases List.mem_append.1 hy with hy | hy
    · exact a1 y hy
    · obtain rfl := List.mem_singleton.1 hy; exact ho
end Go.Proofs.Ytkgaaaidmaddnaa
