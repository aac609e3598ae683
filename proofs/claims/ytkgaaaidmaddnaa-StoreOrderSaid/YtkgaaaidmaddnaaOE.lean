/- The reference's Order; StoreCheck. -/
import Derived.Test.YtkgaaaidmaddnaaOD
set_option linter.unusedSimpArgs false
set_option linter.unusedSectionVars false
set_option linter.unusedVariables false
namespace Go.Proofs.Ytkgaaaidmaddnaa
open Go.Sy Go.Mb
set_option maxRecDepth 100000
set_option linter.unusedVariables false
set_option maxHeartbeats 1000000

theorem cmpI_lt (a b : Int) : cmpI a b < 0 ↔ a < b := by
  unfold cmpI
  by_cases h : a < b
  · rw [if_pos h]; simp [h]
  · rw [if_neg h]
    split <;> simp [h]
theorem cmpI_zero (a b : Int) : cmpI a b = 0 ↔ a = b := by
  unfold cmpI
  by_cases h : a < b
  · rw [if_pos h]; simp; omega
  · rw [if_neg h]
    split
    · simp; omega
    · simp; omega
theorem rLess_ok (a b : Nid) : FnOK Try.prog 97 [.agg a.cells, .agg b.cells] (.bool (lessId a b), none) := by
  have hla : (idL a).length = 5 := rfl
  have hlb : (idL b).length = 5 := rfl
  refine fn_ok CN rfl (by kernel_rfl) Try.func97 rfl ?_
  refine Sat.go (Eq.refl _) ?_
  refine NS.loop (σ := { k : Nat // k ≤ 5 ∧ cmpL (idL a) (idL b) = cmpL ((idL a).drop k) ((idL b).drop k) }) (fun k => [(4, .kb false), (5, .own 18), (6, .own 29), (7, .int .i64 k.1)]) (fun _ => [(18, .row 3 1 5 (rowL nC (idL a))), (29, .row 3 1 5 (rowL nC (idL b)))]) (fun k => 5 - k.1) ⟨0, Nat.zero_le _, rfl⟩ ?_ ?_
  · exact weak_hd [] rfl ⟨rfl, rfl, rfl, rfl, trivial⟩ ⟨ren_row rfl rfl (row5 _ _ _ _ _), ren_row rfl rfl (row5 _ _ _ _ _), trivial⟩ trivial (by kernel_rfl)
  · rintro ⟨k, hk, hs⟩
    refine Sat.go (Eq.refl _) (NS.ite (fun h => ?_) (fun h => ?_))
    · simp at h
      rw [drop_cons (l := idL a) (by omega), drop_cons (l := idL b) (by omega)] at hs
      refine Sat.go (Eq.refl _) (NS.chk (by kernel_rfl) ?_)
      refine Sat.go (Eq.refl _) (NS.need (by simp; omega) ?_)
      refine Sat.go (Eq.refl _) (NS.need (by simp; omega) ?_)
      refine Sat.go (Eq.refl _) (NS.need (by simp; omega) ?_)
      refine Sat.go (Eq.refl _) (NS.need (by simp; omega) ?_)
      refine Sat.go (Eq.refl _) (NS.ite (fun h2 => ?_) (fun h2 => ?_))
      · have h2' : ((idL a).getD k default != (idL b).getD k default) = true := h2
        have hc : cmpL (idL a) (idL b) = cmpI ((idL a).getD k default) ((idL b).getD k default) := by
          rw [hs, cmpL, if_pos]
          rw [bne_iff_ne, ne_eq, cmpI_zero]
          rw [bne_iff_ne] at h2'
          exact h2'
        refine Sat.go (Eq.refl _) (NS.chk (by kernel_rfl) ?_)
        refine Sat.go (Eq.refl _) (NS.need (by simp; omega) ?_)
        refine Sat.go (Eq.refl _) (NS.need (by simp; omega) ?_)
        refine Sat.go (Eq.refl _) (NS.need (by simp; omega) ?_)
        refine Sat.go (Eq.refl _) (NS.need (by simp; omega) ?_)
        refine Sat.go (Eq.refl _) (NS.leaveOut rfl (Eq.refl _) (NS.ret rfl rfl (LeA.of (congrArg A.bool ?_))))
        show decide ((idL a).getD k default < (idL b).getD k default) = lessId a b
        unfold lessId
        rw [hc]
        exact decide_eq_decide.2 (cmpI_lt _ _).symm
      · have h2' : ((idL a).getD k default != (idL b).getD k default) = false := h2
        have he : (idL a).getD k default = (idL b).getD k default := by simpa using h2'
        refine Sat.go (Eq.refl _) (NS.next ⟨k + 1, by omega, ?_⟩ (by simp; omega) ?_)
        · rw [hs, cmpL, if_neg]
          simp only [bne_iff_ne, ne_eq, Classical.not_not]
          rw [cmpI_zero]; exact he
        · exact weak_hd [] rfl ⟨rfl, rfl, rfl, ren_int rfl (i64_k (k := k) (n := 5) (by omega) (by omega)), trivial⟩ ⟨ren_row rfl rfl fun _ _ _ _ => rfl, ren_row rfl rfl fun _ _ _ _ => rfl, trivial⟩ trivial (by kernel_rfl)
    · simp at h
      refine Sat.go (Eq.refl _) (NS.leave rfl (Eq.refl _) ?_)
      refine Sat.go (Eq.refl _) (NS.ret rfl rfl ?_)
      have : lessId a b = false := by
        unfold lessId
        rw [hs, drop_end (by omega), drop_end (by omega)]; rfl
      rw [this]
      exact LeA.of rfl
theorem rBefore_ok (a b : Itm) : FnOK Try.prog 72 [.agg a.cells, .agg b.cells] (.bool (decide (cmpItm a b < 0)), none) := by
  refine fn_ok CN rfl (by kernel_rfl) Try.func72 rfl ?_
  refine Sat.go (Eq.refl _) (NS.ite (fun h => ?_) (fun h => ?_))
  · have h' : a.prio ≠ b.prio := by simpa using h
    refine Sat.go (Eq.refl _) (NS.ret rfl rfl (LeA.of (congrArg A.bool (decide_eq_decide.2 ?_))))
    unfold cmpItm
    rw [orL, if_pos (by rw [bne_iff_ne, ne_eq, cmpI_zero]; exact fun e => h' e.symm), cmpI_lt]
  have h' : a.prio = b.prio := by simpa using h
  have e1 : orL [cmpI b.prio a.prio, cmpI a.expires b.expires, cmpId a.id b.id] = orL [cmpI a.expires b.expires, cmpId a.id b.id] := by
    rw [orL, if_neg]
    simp only [bne_iff_ne, ne_eq, Classical.not_not]
    rw [cmpI_zero, h']
  refine Sat.go (Eq.refl _) (NS.ite (fun h2 => ?_) (fun h2 => ?_))
  · have h2' : a.expires ≠ b.expires := by simpa using h2
    refine Sat.go (Eq.refl _) (NS.ret rfl rfl (LeA.of (congrArg A.bool (decide_eq_decide.2 ?_))))
    unfold cmpItm
    rw [e1, orL, if_pos (by rw [bne_iff_ne, ne_eq, cmpI_zero]; exact h2'), cmpI_lt]
  have h2' : a.expires = b.expires := by simpa using h2
  have e2 : orL [cmpI a.expires b.expires, cmpId a.id b.id] = cmpId a.id b.id := by
    rw [orL, if_neg]
    · simp only [orL]
      split
      · rfl
      · rename_i hz
        have hz' : cmpId a.id b.id = 0 := by simpa using hz
        exact hz'.symm
    · simp only [bne_iff_ne, ne_eq, Classical.not_not]
      rw [cmpI_zero, h2']
  refine Sat.go (Eq.refl _) (NS.call (rLess_ok a.id b.id) rfl ?_)
  refine Sat.go (Eq.refl _) (NS.ret rfl rfl (LeA.of (congrArg A.bool ?_)))
  unfold cmpItm
  rw [e1, e2]
  unfold cmpId
  by_cases hl : lessId a.id b.id = true
  · rw [if_pos hl, hl]; rfl
  · rw [if_neg hl]
    rw [Bool.not_eq_true] at hl
    rw [hl]
    split <;> rfl
theorem rFind_ok (d : Dur) (id : Nid) (h1 : d.items.length ≤ 1000000) : FnOK Try.prog 36 [.agg d.cells, .agg id.cells] (.tup [.agg (findM d id).1.cells, .bool (findM d id).2], none) := by
  have hx := idx_lt (hasId id) d.items
  refine fn_ok CN rfl (by kernel_rfl) Try.func36 rfl ?_
  refine Sat.go (Eq.refl _) (NS.call (rIndex_ok d.items id h1) rfl ?_)
  refine Sat.go (Eq.refl _) (NS.ite (fun h => ?_) (fun h => ?_))
  · have h' : idx (hasId id) d.items = -1 := by simpa using h
    have hf : findM d id = (.zero, false) := by unfold findM; rw [if_neg (by omega)]
    rw [hf]
    exact Sat.go (Eq.refl _) (NS.ret rfl rfl (LeA.tup2 (LeA.of rfl) (LeA.of rfl)))
  · have h' : idx (hasId id) d.items ≠ -1 := by simpa using h
    have hf : findM d id = (d.items.getD (idx (hasId id) d.items).toNat default, true) := by unfold findM; rw [if_pos (by omega)]
    rw [hf]
    refine Sat.go (Eq.refl _) (NS.need (decide_eq_true (by omega)) ?_)
    exact Sat.go (Eq.refl _) (NS.ret rfl rfl (LeA.tup2 (LeA.of rfl) (LeA.of rfl)))
theorem sameItem_ok (a b : Itm) : FnOK Try.prog 39 [.agg a.cells, .agg b.cells] (.bool (a.eqv b), none) := by
  refine fn_ok CN rfl (by kernel_rfl) Try.func39 rfl ?_
  exact Sat.go (Eq.refl _) (NS.ret rfl rfl (LeA.of rfl))
theorem equalN_ok (l : List Int) (hl : l.length ≤ 1000000) : FnOK Try.prog 40 [slN l, slN l] (.bool true, none) := by
  refine fn_ok CN rfl (by kernel_rfl) Try.func40 rfl ?_
  refine Sat.go (Eq.refl _) (NS.no (by simp) ?_)
  refine Sat.go (Eq.refl _) ?_
  refine NS.loop (σ := { k : Nat // k ≤ l.length }) (fun k => [(0, slN l), (1, slN l), (12, .int .i64 l.length), (13, .int .i64 k.1)]) (fun _ => []) (fun k => l.length - k.1) ⟨0, Nat.zero_le _⟩ ?_ ?_
  · exact weak_hd [] rfl ⟨rfl, rfl, rfl, rfl, trivial⟩ trivial trivial (by kernel_rfl)
  · rintro ⟨k, hk⟩
    refine Sat.go (Eq.refl _) (NS.ite (fun h => ?_) (fun h => ?_))
    · simp at h
      refine Sat.go (Eq.refl _) (NS.chk (by kernel_rfl) ?_)
      refine Sat.go (Eq.refl _) (NS.need (by simp; omega) ?_)
      refine Sat.go (Eq.refl _) (NS.need (by simp; omega) ?_)
      refine Sat.go (Eq.refl _) (NS.no (bne_self_eq_false _) ?_)
      refine Sat.go (Eq.refl _) (NS.next ⟨k + 1, by omega⟩ (by simp; omega) ?_)
      exact weak_hd [] rfl ⟨rfl, rfl, rfl, ren_int rfl (i64_k (k := k) (n := l.length) (by omega) (by omega)), trivial⟩ trivial trivial (by kernel_rfl)
    · refine Sat.go (Eq.refl _) (NS.leave rfl (Eq.refl _) ?_)
      exact Sat.go (Eq.refl _) (NS.ret rfl rfl (LeA.of rfl))
theorem ordR_take (d : Dur) {k : Nat} : ordR (ltD d) (k + 1) = sink (ltD d) k (ordR (ltD d) k ++ [(k : Int)]) := rfl
theorem rOrder_ok (d : Dur) (h1 : d.items.length ≤ 1000) : FnOK Try.prog 42 [.agg d.cells] (.own 0, some (.row 3 1 d.items.length (rowL nC (ordR (ltD d) d.items.length)))) := by
  generalize hlt : ltD d = lt
  refine fn_ok CN rfl (by kernel_rfl) Try.func42 rfl ?_
  refine Sat.go (Eq.refl _) ?_
  refine NS.loop (σ := { k : Nat // k ≤ d.items.length }) (fun k => [(1, .ptr 1 0), (2, .nils), (3, .own 3), (4, .int .i64 k.1)]) (fun k => [(1, .box d.cells), (3, .row 3 1 (ordR lt k.1).length (rowL nC (ordR lt k.1)))]) (fun k => d.items.length - k.1) ⟨0, Nat.zero_le _⟩ ?_ ?_
  · exact (weak_promote 3 3 3 1 (rowL nC []) rfl rfl).trans (weak_hd [] rfl ⟨rfl, rfl, rfl, rfl, trivial⟩ ⟨⟨_, rfl, _, _, rfl, rfl, _, _, rfl, rfl, rfl⟩, ren_row rfl rfl fun _ _ _ _ => rfl, trivial⟩ trivial (by kernel_rfl))
  rintro ⟨k, hk⟩
  have hlen := ordR_len lt k
  refine Sat.go (Eq.refl _) (NS.ite (fun h => ?_) (fun h => ?_))
  · simp at h
    refine Sat.go (Eq.refl _) (NS.need (decide_eq_true (by simp only [maxRow]; omega)) ?_)
    refine Sat.go (Eq.refl _) ?_
    refine NS.loop (σ := { p : Nat × List Int // p.1 ≤ k ∧ p.2.length = k + 1 ∧ (∀ x ∈ p.2, 0 ≤ x ∧ x < ((k + 1 : Nat) : Int)) ∧ sink lt p.1 p.2 = ordR lt (k + 1) }) (fun p => [(1, .ptr 1 0), (2, .nils), (3, .own 16), (4, .int .i64 k), (5, .int .i64 p.1.1)]) (fun p => [(1, .box d.cells), (16, .row 3 1 (k + 1) (rowL nC p.1.2))]) (fun p => p.1.1) ⟨(k, ordR lt k ++ [(k : Int)]), Nat.le_refl _, by simp [hlen], ?_, rfl⟩ ?_ ?_
    · intro x hx
      rcases List.mem_append.1 hx with hx | hx
      · have := ordR_mem lt k x hx; omega
      · obtain rfl := List.mem_singleton.1 hx; omega
    · refine weak_hd [] rfl ⟨rfl, rfl, rfl, rfl, rfl, trivial⟩ ⟨⟨_, rfl, _, _, rfl, rfl, _, _, rfl, rfl, rfl⟩, ?_, trivial⟩ trivial (by kernel_rfl)
      exact ren_row rfl (by simp [hlen]) (fun i hi j hj => row_snoc (cells := nC) (x := (k : Int)) rfl i (by simp [hlen]; omega) j hj)
    rintro ⟨⟨j, L⟩, hj, hL, hm, hs⟩
    simp only at hj hL hm hs
    refine Sat.go (Eq.refl _) (NS.chk (by kernel_rfl) ?_)
    refine Sat.go (Eq.refl _) (NS.ite (fun h2 => ?_) (fun h2 => ?_))
    · obtain ⟨m, rfl⟩ : ∃ m, j = m + 1 := by
        simp at h2
        exact ⟨j - 1, by omega⟩
      have e1 : IntKind.i64.wrap (((m + 1 : Nat) : Int) - 1) = (m : Int) := by rw [wrap_i64 (by omega) (by omega)]; omega
      have hx := memD hm (j := m + 1) (by omega)
      have hy := memD hm (j := m) (by omega)
      refine Sat.go (Eq.refl _) (NS.need (by simp; omega) ?_)
      refine Sat.go (Eq.refl _) (NS.need (by simp; omega) ?_)
      refine Sat.go (Eq.refl _) (NS.need (decide_eq_true (show 0 ≤ L.getD (m + 1) default ∧ L.getD (m + 1) default < (d.items.length : Int) from ⟨hx.1, by omega⟩)) ?_)
      refine Sat.go (Eq.refl _) (NS.need (by rw [e1]; simp; omega) ?_)
      rw [e1]
      refine Sat.go (Eq.refl _) (NS.need (by simp; omega) ?_)
      refine Sat.go (Eq.refl _) (NS.need (decide_eq_true (show 0 ≤ L.getD m default ∧ L.getD m default < (d.items.length : Int) from ⟨hy.1, by omega⟩)) ?_)
      refine Sat.go (Eq.refl _) (NS.call (rBefore_ok (d.items.getD (L.getD (m + 1) default).toNat default) (d.items.getD (L.getD m default).toNat default)) rfl ?_)
      refine Sat.go (Eq.refl _) (NS.ite (fun h3 => ?_) (fun h3 => ?_))
      · have h3' : lt (L.getD (m + 1) default) (L.getD m default) = true := by rw [← hlt]; exact h3
        refine Sat.go (Eq.refl _) (NS.chk (by kernel_rfl) ?_)
        refine Sat.go (Eq.refl _) (NS.need (by rw [e1]; simp; omega) ?_)
        rw [e1]
        refine Sat.go (Eq.refl _) (NS.need (by simp; omega) ?_)
        refine Sat.go (Eq.refl _) (NS.need (by simp; omega) ?_)
        refine Sat.go (Eq.refl _) (NS.need (by simp; omega) ?_)
        refine Sat.go (Eq.refl _) (NS.need (by simp; omega) ?_)
        refine Sat.go (Eq.refl _) (NS.need (by simp; omega) ?_)
        refine Sat.go (Eq.refl _) (NS.need (by simp; omega) ?_)
        refine Sat.go (Eq.refl _) (NS.need (by simp; omega) ?_)
        refine Sat.go (Eq.refl _) (NS.next ⟨(m, swp L m), by simp only; omega, by simp only; rw [swp_len]; exact hL, swp_mem (by omega) hm, ?_⟩ (by simp) ?_)
        · rw [← hs, sink, if_pos h3']
        · refine weak_hd [] rfl ⟨rfl, rfl, rfl, rfl, ren_int rfl e1, trivial⟩ ⟨⟨_, rfl, _, _, rfl, rfl, _, _, rfl, rfl, rfl⟩, ren_row rfl rfl fun q hq jj hjj => ?_, trivial⟩ trivial (by kernel_rfl)
          have r1 := rowN_set L (m + 1) (L.getD m default) (by omega) q jj hjj
          have r2 := rowN_set (L.set (m + 1) (L.getD m default)) m (L.getD (m + 1) default) (by simp; omega) q jj hjj
          show _ = rowL nC (swp L m) q jj
          unfold swp
          rw [← r2, ← r1]
          rfl
      · have h3' : lt (L.getD (m + 1) default) (L.getD m default) = false := by rw [← hlt]; exact h3
        have hs2 : L = ordR lt (k + 1) := by rw [← hs, sink, if_neg (by rw [h3']; simp)]
        subst hs2
        refine Sat.go (Eq.refl _) (NS.leave rfl (Eq.refl _) ?_)
        refine Sat.go (Eq.refl _) (NS.next ⟨k + 1, by omega⟩ (by simp; omega) ?_)
        exact weak_hd [(3, 16)] rfl ⟨rfl, rfl, rfl, ren_int rfl (i64_k (k := k) (n := d.items.length) (by omega) (by omega)), trivial⟩ ⟨⟨_, rfl, _, _, rfl, rfl, _, _, rfl, rfl, rfl⟩, ren_row rfl (by simp [ordR_len]) fun q hq jj hjj => rfl, trivial⟩ trivial (by kernel_rfl)
    · obtain rfl : j = 0 := by simp at h2; exact h2
      have hs2 : L = ordR lt (k + 1) := hs
      subst hs2
      refine Sat.go (Eq.refl _) (NS.leave rfl (Eq.refl _) ?_)
      refine Sat.go (Eq.refl _) (NS.next ⟨k + 1, by omega⟩ (by simp; omega) ?_)
      exact weak_hd [(3, 16)] rfl ⟨rfl, rfl, rfl, ren_int rfl (i64_k (k := k) (n := d.items.length) (by omega) (by omega)), trivial⟩ ⟨⟨_, rfl, _, _, rfl, rfl, _, _, rfl, rfl, rfl⟩, ren_row rfl (by simp [ordR_len]) fun q hq jj hjj => rfl, trivial⟩ trivial (by kernel_rfl)
  · simp at h
    obtain rfl : k = d.items.length := by omega
    refine Sat.go (Eq.refl _) (NS.leave rfl (Eq.refl _) ?_)
    exact Sat.go (Eq.refl _) (NS.retRow 3 rfl rfl (LeA.refl _) ⟨rfl, rfl, ordR_len lt _, fun _ _ _ _ => rfl⟩ fun _ _ _ _ => flatN _ _ _)
theorem rCheckQ_ok (d : Dur) (quota : Int) (h1 : d.items.length ≤ 1000000) (h2 : d.inbox.length ≤ 1000000) : FnOK Try.prog 37 [.agg d.cells, .int .i64 quota] (.int .i64 (checkQ d quota), none) := by
  have hb : ∀ l : List Itm, l.any badItem = !l.all okItem := by
    intro l; rw [Bool.eq_iff_iff]; simp [badItem]
  refine fn_ok CN rfl (by kernel_rfl) Try.func37 rfl ?_
  repeat' (first
    | refine Sat.go (Eq.refl _) ?_
    | refine NS.call (rItems_ok d.items h1) rfl ?_
    | refine NS.call (rItems_ok d.inbox h2) rfl ?_
    | refine NS.call (rTwice_ok d.items h1) rfl ?_
    | refine NS.call (rTwice_ok d.inbox h2) rfl ?_
    | refine NS.call (rUsed_ok d h1) rfl ?_
    | refine NS.ite (fun _ => ?_) (fun _ => ?_)
    | refine NS.ret rfl rfl (LeA.of (congrArg (A.int .i64) ?_)))
  all_goals simp only [checkQ, checkM, hb]
  · rename_i h
    rw [if_neg (by unfold inR; simp only [decide_eq_true_eq] at h ⊢; omega)]
  · rename_i h0 h
    rw [if_neg (by unfold inR; simp only [decide_eq_true_eq] at h ⊢; omega)]
  all_goals (have hq : inR quota 0 1073741824 = true := by unfold inR; simp only [decide_eq_true_eq, decide_eq_false_iff_not] at *; omega)
  all_goals rw [if_pos hq]
  all_goals simp only [*]
  all_goals first | rfl | skip
  · rename_i h; simp only [decide_eq_true_eq] at h; rw [if_pos h]; rfl
  · rename_i h; simp only [decide_eq_false_iff_not] at h; rw [if_neg h]; rfl
theorem storeCheck_ok (d : Dur) (quota : Int) (id : Nid) : FnOK Try.prog 10 [.agg d.cells, .int .i64 quota, .agg id.cells] (.bool true, none) := by
  have c0 := great_ok d
  rcases Bool.eq_false_or_eq_true (greatD d) with hg | hg
  · rw [hg] at c0
    refine fn_ok CN rfl (by kernel_rfl) Try.func10 rfl ?_
    refine Sat.go (Eq.refl _) (NS.call c0 rfl ?_)
    refine Sat.go (Eq.refl _) (NS.yes rfl ?_)
    refine Sat.go (Eq.refl _) (NS.call awake_ok rfl ?_)
    exact Sat.go (Eq.refl _) (NS.ret rfl rfl (LeA.of rfl))
  obtain ⟨b1, b2, _, _⟩ := not_great hg
  rw [hg] at c0
  have hse : ((findM d id).1.eqv (findM d id).1) = true := Itm.eqv_iff.2 rfl
  have c5 := sameItem_ok (findM d id).1 (findM d id).1
  rw [hse] at c5
  have c6 := equalN_ok (ordR (ltD d) d.items.length) (by rw [ordR_len]; omega)
  have hsl : slN (ordR (ltD d) d.items.length) = .sl 1 d.items.length (rowL nC (ordR (ltD d) d.items.length)) := by unfold slN; rw [ordR_len]
  rw [hsl] at c6
  refine fn_ok CN rfl (by kernel_rfl) Try.func10 rfl ?_
  refine Sat.go (Eq.refl _) (NS.call c0 rfl ?_)
  refine Sat.go (Eq.refl _) (NS.no rfl ?_)
  refine Sat.go (Eq.refl _) (NS.call (find_ok d id (by omega)) rfl ?_)
  refine Sat.go (Eq.refl _) (NS.call (rFind_ok d id (by omega)) rfl ?_)
  refine Sat.go (Eq.refl _) (NS.chk (by kernel_rfl) ?_)
  refine Sat.go (Eq.refl _) (NS.call (check_ok d quota (by omega) (by omega)) rfl ?_)
  refine Sat.go (Eq.refl _) (NS.call (rCheckQ_ok d quota (by omega) (by omega)) rfl ?_)
  refine Sat.go (Eq.refl _) (NS.yes (by simp) ?_)
  refine Sat.go (Eq.refl _) (NS.call (used_ok d (by omega)) rfl ?_)
  refine Sat.go (Eq.refl _) (NS.call (rUsed_ok d (by omega)) rfl ?_)
  refine Sat.go (Eq.refl _) (NS.yes (by simp) ?_)
  refine Sat.go (Eq.refl _) (NS.call c5 rfl ?_)
  refine Sat.go (Eq.refl _) (NS.yes rfl ?_)
  refine Sat.go (Eq.refl _) (NS.yes (by simp) ?_)
  refine Sat.go (Eq.refl _) (NS.call (order_ok d (by omega)) rfl ?_)
  refine Sat.go (Eq.refl _) (NS.call (rOrder_ok d (by omega)) rfl ?_)
  refine Sat.go (Eq.refl _) (NS.call c6 rfl ?_)
  refine Sat.go (Eq.refl _) (NS.yes rfl ?_)
  refine Sat.go (Eq.refl _) (NS.call awake_ok rfl ?_)
  exact Sat.go (Eq.refl _) (NS.ret rfl rfl (LeA.of rfl))
end Go.Proofs.Ytkgaaaidmaddnaa
