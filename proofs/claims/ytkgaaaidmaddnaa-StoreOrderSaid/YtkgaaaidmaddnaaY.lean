/- The statement StoreExpired: the walk. -/
import Derived.Test.YtkgaaaidmaddnaaX
set_option linter.unusedSimpArgs false
set_option linter.unusedSectionVars false
set_option linter.unusedVariables false
namespace Go.Proofs.Ytkgaaaidmaddnaa
open Go.Sy Go.Mb
set_option maxRecDepth 100000
set_option linter.unusedVariables false
set_option maxHeartbeats 1000000

noncomputable def CD : Cx := { E := EN, inl := [32], ok := EN_ok }
theorem exp1_ok (x : Itm) (now : Int) : FnOK Try.prog 33 [.agg x.cells, .ip 1 (getA [.int .i64 now])] (.bool (expd now x), none) := by
  refine fn_ok CN rfl (by kernel_rfl) Try.func33 rfl ?_
  exact Sat.go (Eq.refl _) (NS.ret rfl rfl (LeA.refl _))
theorem idxExp_ok (l : List Itm) (now : Int) (hl : l.length ≤ 1000000) : FnOK Try.prog 64 [slI l, .fn 33 [.ip 1 (getA [.int .i64 now])]] (.int .i64 (idx (expd now) l), none) := by
  refine fn_ok CN rfl (by kernel_rfl) Try.func64 rfl ?_
  refine Sat.go (Eq.refl _) ?_
  refine NS.loop (σ := { k : Nat // k ≤ l.length ∧ ∀ i, i < k → expd now (l.getD i default) = false }) (fun k => [(0, slI l), (1, .fn 33 [.ip 1 (getA [.int .i64 now])]), (7, .int .i64 l.length), (8, .int .i64 k.1)]) (fun _ => []) (fun k => l.length - k.1) ⟨0, Nat.zero_le _, fun i hi => by omega⟩ ?_ ?_
  · exact weak_hd [] rfl ⟨rfl, rfl, rfl, rfl, trivial⟩ trivial trivial (by kernel_rfl)
  · rintro ⟨k, hk, hn⟩
    refine Sat.go (Eq.refl _) (NS.ite (fun h => ?_) (fun h => ?_))
    · simp at h
      refine Sat.go (Eq.refl _) (NS.need (by simp; omega) ?_)
      refine Sat.go (Eq.refl _) (NS.call (exp1_ok (l.getD k default) now) rfl ?_)
      refine Sat.go (Eq.refl _) (NS.ite (fun h2 => ?_) (fun h2 => ?_))
      · refine Sat.go (Eq.refl _) (NS.leaveOut rfl (Eq.refl _) (NS.ret rfl rfl (LeA.of (congrArg (A.int .i64) ?_))))
        exact (idx_found (by omega) h2 hn).symm
      · refine Sat.go (Eq.refl _) (NS.next ⟨k + 1, by omega, fun i hi => ?_⟩ (by simp; omega) ?_)
        · by_cases hik : i = k
          · subst hik; exact h2
          · exact hn i (by omega)
        · exact weak_hd [] rfl ⟨rfl, rfl, rfl, ren_int rfl (i64_k (by omega) (by omega)), trivial⟩ trivial trivial (by kernel_rfl)
    · simp at h
      refine Sat.go (Eq.refl _) (NS.leave rfl (Eq.refl _) ?_)
      refine Sat.go (Eq.refl _) (NS.ret rfl rfl (LeA.of (congrArg (A.int .i64) ?_)))
      exact (idx_none fun i hi => hn i (by omega)).symm

theorem expired_out {d : Dur} {now e : Int} (hg : greatD d = false) (he : (e != 0) = true) (h1 : expireM d now = ([], e)) : FnOK Try.prog 8 [.agg d.cells, .int .i64 now] (.bool true, none) := by
  obtain ⟨b1, b2, _, _⟩ := not_great hg
  have c0 := great_ok d
  rw [hg] at c0
  have c1 := expire_ok d now (by omega) (by omega)
  rw [h1] at c1
  refine fn_ok CD rfl (by kernel_rfl) Try.func8 rfl ?_
  refine Sat.go (Eq.refl _) (NS.call c0 rfl ?_)
  refine Sat.go (Eq.refl _) (NS.no rfl ?_)
  refine Sat.go (Eq.refl _) (NS.call c1 rfl ?_)
  refine Sat.go (Eq.refl _) (NS.yes he ?_)
  refine Sat.go (Eq.refl _) (NS.yes rfl ?_)
  refine Sat.go (Eq.refl _) (NS.call awake_ok rfl ?_)
  exact Sat.go (Eq.refl _) (NS.ret rfl rfl (LeA.of rfl))
theorem expired_main {d : Dur} {now : Int} (hg : greatD d = false) (hd : Good d) (hn : inR now 0 1099511627776 = true) : FnOK Try.prog 8 [.agg d.cells, .int .i64 now] (.bool true, none) := by
  obtain ⟨b1, b2, _, _⟩ := not_great hg
  have c0 := great_ok d
  rw [hg] at c0
  have h1 : expireM d now = (expRecs now d.items, 0) := by unfold expireM; rw [(good_iff d).2 hd, hn]; rfl
  have c1 := expire_ok d now (by omega) (by omega)
  rw [h1] at c1
  have hel := expRecs_len now d.items
  have hro := expRecs_ok hd hn
  have h2 : appsM d (expRecs now d.items) = (⟨keep (expd now) d.items, d.inbox⟩, true) := by rw [apps_good hd hro, expired_law hd]
  have c2 := apps_ok d (expRecs now d.items) (by omega) (by omega)
  rw [h2] at c2
  have hkl : (keep (expd now) d.items).length ≤ d.items.length := List.length_filter_le _ _
  have hgood : Good ⟨keep (expd now) d.items, d.inbox⟩ := by have := good_effs hd hro; rw [expired_law hd] at this; exact this
  have h3 : expireM ⟨keep (expd now) d.items, d.inbox⟩ now = ([], 0) := by unfold expireM; rw [(good_iff _).2 hgood, hn]; simp [expRecs_keep]
  have c3 := expire_ok ⟨keep (expd now) d.items, d.inbox⟩ now (by simp only; omega) (by simp only; omega)
  rw [h3] at c3
  have c4 := same_ok ⟨keep (expd now) d.items, d.inbox⟩ ⟨keep (expd now) d.items, d.inbox⟩ (by simp only; omega) (by simp only; omega)
  rw [sameD_iff.2 rfl] at c4
  refine fn_ok CD rfl (by kernel_rfl) Try.func8 rfl ?_
  refine Sat.go (Eq.refl _) (NS.call c0 rfl ?_)
  refine Sat.go (Eq.refl _) (NS.no rfl ?_)
  refine Sat.go (Eq.refl _) (NS.call c1 rfl ?_)
  refine Sat.go (Eq.refl _) (NS.no rfl ?_)
  refine Sat.go (Eq.refl _) (NS.call c2 rfl ?_)
  refine Sat.go (Eq.refl _) (NS.call (clone_ok d.items (by omega)) rfl ?_)
  refine Sat.go (Eq.refl _) (NS.call (idxExp_ok d.items now (by omega)) rfl ?_)
  rcases idx_cases (expd now) d.items with ⟨e, hno⟩ | ⟨k, hk, e, hp, hnp⟩
  · refine Sat.go (Eq.refl _) (NS.yes (by rw [e]; rfl) ?_)
    refine Sat.go (Eq.refl _) (NS.call c3 rfl ?_)
    refine Sat.go (Eq.refl _) (NS.yes rfl ?_)
    refine Sat.go (Eq.refl _) (NS.yes rfl ?_)
    refine Sat.go (Eq.refl _) (NS.yes rfl ?_)
    refine Sat.go (Eq.refl _) (NS.call (c4.le (LeL.cons (LeA.refl _) (LeL.cons ?_ LeL.nil))) rfl ?_)
    · have hke : keep (expd now) d.items = d.items := by
        unfold keep
        rw [List.filter_eq_self]
        intro x hx
        rw [hno x hx]; rfl
      rw [hke]
      exact agg2_le (LeA.refl _) (LeA.refl _)
    refine Sat.go (Eq.refl _) (NS.yes rfl ?_)
    refine Sat.go (Eq.refl _) (NS.call awake_ok rfl ?_)
    exact Sat.go (Eq.refl _) (NS.ret rfl rfl (LeA.of rfl))
  · refine Sat.go (Eq.refl _) (NS.no (by rw [e]; simp) ?_)
    obtain ⟨hi0, hl0⟩ := del_start hk hp hnp
    refine Sat.go (Eq.refl _) ?_
    refine NS.loop (σ := { p : Nat × List Itm // DelInv (expd now) d.items p.2 p.1 }) (fun p => [(0, .own 38), (1, .fn 33 [.ptr 3 0]), (5, .int .i64 (keep (expd now) (d.items.take p.1.1)).length), (6, .int .i64 p.1.1)]) (fun p => [(2, .box d.cells), (3, .box [.int .i64 now]), (7, .box (Dur.mk (keep (expd now) d.items) d.inbox).cells), (9, .box d.cells), (38, .row 36 11 p.1.2.length (rowL Itm.cells p.1.2))]) (fun p => d.items.length - p.1.1) ⟨(k + 1, d.items), hi0⟩ ?_ ?_
    · refine weak_hd [] rfl ⟨rfl, rfl, ren_int rfl ?_, ren_int rfl ?_, trivial⟩ ⟨⟨_, rfl, _, _, rfl, rfl, _, _, rfl, rfl, rfl⟩, ⟨_, rfl, _, _, rfl, rfl, rfl⟩, ⟨_, rfl, _, _, rfl, rfl, _, _, rfl, rfl, rfl⟩, ⟨_, rfl, _, _, rfl, rfl, _, _, rfl, rfl, rfl⟩, ren_row rfl rfl fun _ _ _ _ => rfl, trivial⟩ (by repeat' (first | exact trivial | refine ⟨.inr rfl, ?_⟩ | refine ⟨.inl rfl, ?_⟩)) (by kernel_rfl)
      · rw [e]; show (k : Int) = ((keep (expd now) (d.items.take (k + 1))).length : Int); rw [hl0]
      · rw [e, wrap_i64 (by omega) (by omega)]; rfl
    · rintro ⟨⟨j, L⟩, hi⟩
      simp only at hi
      have hle := keep_le (expd now) d.items j
      have hL := hi.1
      have hj := hi.2.1
      refine Sat.go (Eq.refl _) (NS.ite (fun h => ?_) (fun h => ?_))
      · simp at h
        have hjl : j < d.items.length := by omega
        have hLj := hi.2.2.2 j (Nat.le_refl _) hjl
        refine Sat.go (Eq.refl _) (NS.need (by simp; omega) ?_)
        refine Sat.go (Eq.refl _) (NS.need (by simp; omega) ?_)
        refine Sat.go (Eq.refl _) (NS.call (exp1_ok (L.getD j default) now) rfl ?_)
        refine Sat.go (Eq.refl _) (NS.ite (fun h3 => ?_) (fun h3 => ?_))
        · have hpj := not_t h3
          rw [hLj] at hpj
          have hnx := del_keep hi hjl hpj
          refine Sat.go (Eq.refl _) (NS.need (by simp; omega) ?_)
          refine Sat.go (Eq.refl _) (NS.need (by simp; omega) ?_)
          refine Sat.go (Eq.refl _) (NS.next ⟨(j + 1, L.set (keep (expd now) (d.items.take j)).length (d.items.getD j default)), hnx⟩ (by simp; omega) ?_)
          refine weak_hd [] rfl ⟨rfl, rfl, ren_int rfl ?_, ren_int rfl ?_, trivial⟩ ⟨⟨_, rfl, _, _, rfl, rfl, _, _, rfl, rfl, rfl⟩, ⟨_, rfl, _, _, rfl, rfl, rfl⟩, ⟨_, rfl, _, _, rfl, rfl, _, _, rfl, rfl, rfl⟩, ⟨_, rfl, _, _, rfl, rfl, _, _, rfl, rfl, rfl⟩, ?_, trivial⟩ (by repeat' (first | exact trivial | refine ⟨.inr rfl, ?_⟩ | refine ⟨.inl rfl, ?_⟩)) (by kernel_rfl)
          · show IntKind.i64.wrap (((keep (expd now) (d.items.take j)).length : Int) + 1) = ((keep (expd now) (d.items.take (j + 1))).length : Int)
            rw [wrap_i64 (by omega) (by omega), keep_snoc hjl, hpj]; simp
          · exact i64_k (k := j) (n := 100) (by omega) (by omega)
          · refine ren_row rfl (by simp) fun q hq jj hjj => ?_
            have hrs := row_set L (keep (expd now) (d.items.take j)).length (L.getD j default) (by omega) q jj hjj
            have hset : L.set (keep (expd now) (d.items.take j)).length (L.getD j default) = L.set (keep (expd now) (d.items.take j)).length (d.items.getD j default) := by rw [hLj]
            show _ = rowL Itm.cells (L.set (keep (expd now) (d.items.take j)).length (d.items.getD j default)) q jj
            rw [← hset]
            exact hrs
        · have hpj := not_f h3
          rw [hLj] at hpj
          obtain ⟨hnx, hsame⟩ := del_drop hi hjl hpj
          refine Sat.go (Eq.refl _) (NS.next ⟨(j + 1, L), hnx⟩ (by simp; omega) ?_)
          refine weak_hd [] rfl ⟨rfl, rfl, ren_int rfl ?_, ren_int rfl ?_, trivial⟩ ⟨⟨_, rfl, _, _, rfl, rfl, _, _, rfl, rfl, rfl⟩, ⟨_, rfl, _, _, rfl, rfl, rfl⟩, ⟨_, rfl, _, _, rfl, rfl, _, _, rfl, rfl, rfl⟩, ⟨_, rfl, _, _, rfl, rfl, _, _, rfl, rfl, rfl⟩, ren_row rfl rfl fun _ _ _ _ => rfl, trivial⟩ (by repeat' (first | exact trivial | refine ⟨.inr rfl, ?_⟩ | refine ⟨.inl rfl, ?_⟩)) (by kernel_rfl)
          · show ((keep (expd now) (d.items.take j)).length : Int) = ((keep (expd now) (d.items.take (j + 1))).length : Int)
            rw [hsame]
          · exact i64_k (k := j) (n := 100) (by omega) (by omega)
      · simp at h
        have hje : j = d.items.length := by omega
        subst hje
        have hend := del_end hi
        have hlt := keep_lt hk hp
        rw [List.take_length] at hle
        refine Sat.go (Eq.refl _) (NS.leave rfl (Eq.refl _) ?_)
        refine Sat.go (Eq.refl _) (NS.need (decide_eq_true ⟨by omega, by simp only [List.take_length]; omega, by omega⟩) ?_)
        refine Sat.go (Eq.refl _) (NS.need (decide_eq_true (by simp only [List.take_length]; omega)) ?_)
        refine Sat.go (Eq.refl _) (NS.need (decide_eq_true ⟨by omega, by omega, by simp only [List.take_length]; omega⟩) ?_)
        refine Sat.go (Eq.refl _) (NS.call c3 rfl ?_)
        refine Sat.go (Eq.refl _) (NS.yes rfl ?_)
        refine Sat.go (Eq.refl _) (NS.yes rfl ?_)
        refine Sat.go (Eq.refl _) (NS.yes rfl ?_)
        refine Sat.go (Eq.refl _) (NS.call (c4.le (LeL.cons (LeA.refl _) (LeL.cons ?_ LeL.nil))) rfl ?_)
        · refine agg2_le (LeA.sl (by simp [List.take_length]) (fun q hq jj hjj => ?_)) (LeA.refl _)
          simp only [List.take_length] at hq ⊢
          have hq' : q < (keep (expd now) d.items).length := by simpa using hq
          rw [if_neg (by simp; omega)]
          unfold rowL
          rw [← hend q hq']
          simp
        refine Sat.go (Eq.refl _) (NS.yes rfl ?_)
        refine Sat.go (Eq.refl _) (NS.call awake_ok rfl ?_)
        exact Sat.go (Eq.refl _) (NS.ret rfl rfl (LeA.of rfl))
theorem storeExpired_ok (d : Dur) (now : Int) : FnOK Try.prog 8 [.agg d.cells, .int .i64 now] (.bool true, none) := by
  rcases Bool.eq_false_or_eq_true (greatD d) with hg | hg
  · have c0 := great_ok d
    rw [hg] at c0
    refine fn_ok CD rfl (by kernel_rfl) Try.func8 rfl ?_
    refine Sat.go (Eq.refl _) (NS.call c0 rfl ?_)
    refine Sat.go (Eq.refl _) (NS.yes rfl ?_)
    refine Sat.go (Eq.refl _) (NS.call awake_ok rfl ?_)
    exact Sat.go (Eq.refl _) (NS.ret rfl rfl (LeA.of rfl))
  by_cases hc : checkM d = 0
  · by_cases hn : inR now 0 1099511627776 = true
    · exact expired_main hg ((good_iff d).1 hc) hn
    · exact expired_out (e := 2) hg rfl (by unfold expireM; rw [hc]; simp [hn])
  · exact expired_out (e := 1) hg rfl (by unfold expireM; simp [hc])
end Go.Proofs.Ytkgaaaidmaddnaa
