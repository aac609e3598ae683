/- The statement StoreRemoved: the walk. -/
import Derived.Test.YtkgaaaidmaddnaaY
set_option linter.unusedSimpArgs false
set_option linter.unusedSectionVars false
set_option linter.unusedVariables false
namespace Go.Proofs.Ytkgaaaidmaddnaa
open Go.Sy Go.Mb
set_option maxRecDepth 100000
set_option linter.unusedVariables false
set_option maxHeartbeats 1000000

theorem rem1_ok (x : Itm) (id : Nid) : FnOK Try.prog 35 [.agg x.cells, .ip 5 (getA id.cells)] (.bool (hasId id x), none) := by
  refine fn_ok CN rfl (by kernel_rfl) Try.func35 rfl ?_
  exact Sat.go (Eq.refl _) (NS.ret rfl rfl (LeA.refl _))
theorem idxRem_ok (l : List Itm) (id : Nid) (hl : l.length ≤ 1000000) : FnOK Try.prog 64 [slI l, .fn 35 [.ip 5 (getA id.cells)]] (.int .i64 (idx (hasId id) l), none) := by
  refine fn_ok CN rfl (by kernel_rfl) Try.func64 rfl ?_
  refine Sat.go (Eq.refl _) ?_
  refine NS.loop (σ := { k : Nat // k ≤ l.length ∧ ∀ i, i < k → hasId id (l.getD i default) = false }) (fun k => [(0, slI l), (1, .fn 35 [.ip 5 (getA id.cells)]), (7, .int .i64 l.length), (8, .int .i64 k.1)]) (fun _ => []) (fun k => l.length - k.1) ⟨0, Nat.zero_le _, fun i hi => by omega⟩ ?_ ?_
  · exact weak_hd [] rfl ⟨rfl, rfl, rfl, rfl, trivial⟩ trivial trivial (by kernel_rfl)
  · rintro ⟨k, hk, hn⟩
    refine Sat.go (Eq.refl _) (NS.ite (fun h => ?_) (fun h => ?_))
    · simp at h
      refine Sat.go (Eq.refl _) (NS.need (by simp; omega) ?_)
      refine Sat.go (Eq.refl _) (NS.call (rem1_ok (l.getD k default) id) rfl ?_)
      refine Sat.go (Eq.refl _) (NS.ite (fun h2 => ?_) (fun h2 => ?_))
      · refine Sat.go (Eq.refl _) (NS.leaveOut rfl (Eq.refl _) (NS.ret rfl rfl (LeA.of (congrArg (A.int .i64) ?_))))
        exact (idx_found (by omega) h2 hn).symm
      · refine Sat.go (Eq.refl _) (NS.next ⟨k + 1, by omega, fun i hi => ?_⟩ (by simp; omega) ?_)
        · by_cases hik : i = k
          · subst hik; exact h2
          · exact hn i (by omega)
        · exact weak_hd [] rfl ⟨rfl, rfl, rfl, ren_int rfl (i64_k (by omega) (by omega)), trivial⟩ trivial trivial (by kernel_rfl)
    · simp at h
      refine Sat.go (Eq.refl _) (NS.leave rfl (Eq.refl _) ?_)
      refine Sat.go (Eq.refl _) (NS.ret rfl rfl (LeA.of (congrArg (A.int .i64) ?_)))
      exact (idx_none fun i hi => hn i (by omega)).symm


def findM (d : Dur) (id : Nid) : Itm × Bool := if idx (hasId id) d.items ≥ 0 then (d.items.getD (idx (hasId id) d.items).toNat default, true) else (.zero, false)
theorem find_ok (d : Dur) (id : Nid) (h1 : d.items.length ≤ 1000000) : FnOK Try.prog 34 [.agg d.cells, .agg id.cells] (.tup [.agg (findM d id).1.cells, .bool (findM d id).2], none) := by
  have hx := idx_lt (hasId id) d.items
  refine fn_ok CN rfl (by kernel_rfl) Try.func34 rfl ?_
  refine Sat.go (Eq.refl _) (NS.call (index_ok d.items id h1) rfl ?_)
  refine Sat.go (Eq.refl _) (NS.ite (fun h => ?_) (fun h => ?_))
  · have hf : findM d id = (d.items.getD (idx (hasId id) d.items).toNat default, true) := by unfold findM; rw [if_pos (by simpa using h)]
    simp only [decide_eq_true_eq] at h
    rw [hf]
    refine Sat.go (Eq.refl _) (NS.need (decide_eq_true (by omega)) ?_)
    exact Sat.go (Eq.refl _) (NS.ret rfl rfl (LeA.tup2 (LeA.of rfl) (LeA.of rfl)))
  · have hf : findM d id = (.zero, false) := by unfold findM; rw [if_neg (by simpa using h)]
    rw [hf]
    exact Sat.go (Eq.refl _) (NS.ret rfl rfl (LeA.tup2 (LeA.of rfl) (LeA.of rfl)))
def usedS (l : List Itm) : Int := (l.map fun x => (x.data.size : Int)).sum
theorem used_sum (l : List Itm) (hl : ∀ x ∈ l, x.data.size ≤ 65536) : ∀ acc : Int, 0 ≤ acc → acc + 65536 * l.length ≤ 1000000000000 → l.foldl (fun n x => IntKind.i64.wrap (n + (x.data.size : Int))) acc = acc + usedS l := by
  induction l with
  | nil => intro acc _ _; simp [usedS]
  | cons x l ih =>
    intro acc h0 h1
    have hx := hl x (by simp)
    simp only [List.length_cons] at h1
    simp only [List.foldl_cons]
    rw [wrap_i64 (by omega) (by omega), ih (fun y hy => hl y (by simp [hy])) (acc + x.data.size) (by omega) (by omega)]
    simp only [usedS, List.map_cons, List.sum_cons]
    omega
theorem used_removed {l : List Itm} {id : Nid} {k : Nat} (hu : Uniq l) (hl : ∀ x ∈ l, okItem x = true) (hlen : l.length ≤ 100) (hk : k < l.length) (hp : hasId id (l.getD k default) = true) :
    usedM (keep (hasId id) l) = IntKind.i64.wrap (usedM l - ((l.getD k default).data.size : Int)) := by
  have hsz : ∀ x ∈ l, x.data.size ≤ 65536 := fun x hx => ok_size (hl x hx)
  have hcut : l.take k ++ l.drop (k + 1) = keep (hasId id) l := filter_cut hu hk hp
  have e : l = l.take k ++ l[k] :: l.drop (k + 1) := by rw [← List.drop_eq_getElem_cons hk, List.take_append_drop]
  have h1 : usedM l = usedS l := by have := used_sum l hsz 0 (by omega) (by omega); unfold usedM; omega
  have hkl : (keep (hasId id) l).length ≤ l.length := List.length_filter_le _ _
  have h2 : usedM (keep (hasId id) l) = usedS (keep (hasId id) l) := by
    have := used_sum (keep (hasId id) l) (fun x hx => hsz x (List.mem_filter.1 hx).1) 0 (by omega) (by omega)
    unfold usedM; omega
  have h3 : usedS l = usedS (keep (hasId id) l) + ((l.getD k default).data.size : Int) := by
    rw [← hcut, getD_lt hk]
    conv => lhs; rw [e]
    simp only [usedS, List.map_append, List.map_cons, List.sum_append, List.sum_cons]
    omega
  have h4 := used_bound l hsz 0 (by omega) (by omega)
  have h5 := used_bound (keep (hasId id) l) (fun x hx => hsz x (List.mem_filter.1 hx).1) 0 (by omega) (by omega)
  have h6 : usedM (keep (hasId id) l) = usedM l - ((l.getD k default).data.size : Int) := by omega
  rw [← h6, wrap_i64]
  · unfold usedM; omega
  · unfold usedM; omega
theorem keep_none (l : List Itm) (id : Nid) : idx (hasId id) (keep (hasId id) l) < 0 := by
  rw [idx_neg, List.any_eq_false]
  intro x hx
  have := (List.mem_filter.1 hx).2
  simpa using this

theorem removed_out {d : Dur} {id : Nid} {now e : Int} (hg : greatD d = false) (he : e = 1 ∨ e = 2 ∨ (e = 7 ∧ findM d id = (.zero, false))) (h1 : removeM d id now = ([], e)) : FnOK Try.prog 9 [.agg d.cells, .agg id.cells, .int .i64 now] (.bool true, none) := by
  obtain ⟨b1, b2, _, _⟩ := not_great hg
  have c0 := great_ok d
  rw [hg] at c0
  have c1 := remove_ok d id now (by omega) (by omega)
  rw [h1] at c1
  have c2 := find_ok d id (by omega)
  refine fn_ok CD rfl (by kernel_rfl) Try.func9 rfl ?_
  refine Sat.go (Eq.refl _) (NS.call c0 rfl ?_)
  refine Sat.go (Eq.refl _) (NS.no rfl ?_)
  refine Sat.go (Eq.refl _) (NS.call c1 rfl ?_)
  rcases he with rfl | rfl | ⟨rfl, hf⟩
  · refine Sat.go (Eq.refl _) (NS.call c2 rfl ?_)
    repeat' (first
      | refine Sat.go (Eq.refl _) ?_
      | refine NS.yes rfl ?_
      | refine NS.call awake_ok rfl ?_
      | refine NS.ret rfl rfl (LeA.of rfl))
  · refine Sat.go (Eq.refl _) (NS.call c2 rfl ?_)
    repeat' (first
      | refine Sat.go (Eq.refl _) ?_
      | refine NS.yes rfl ?_
      | refine NS.call awake_ok rfl ?_
      | refine NS.ret rfl rfl (LeA.of rfl))
  · rw [hf] at c2
    refine Sat.go (Eq.refl _) (NS.call c2 rfl ?_)
    repeat' (first
      | refine Sat.go (Eq.refl _) ?_
      | refine NS.yes rfl ?_
      | refine NS.no rfl ?_
      | refine NS.call awake_ok rfl ?_
      | refine NS.ret rfl rfl (LeA.of rfl))
theorem removed_main {d : Dur} {id : Nid} {now : Int} {k : Nat} (hg : greatD d = false) (hd : Good d) (hn : inR now 0 1099511627776 = true) (hk : k < d.items.length) (e : idx (hasId id) d.items = (k : Int)) (hp : hasId id (d.items.getD k default) = true)
    (hnp : ∀ i, i < k → hasId id (d.items.getD i default) = false) : FnOK Try.prog 9 [.agg d.cells, .agg id.cells, .int .i64 now] (.bool true, none) := by
  obtain ⟨b1, b2, _, _⟩ := not_great hg
  have c0 := great_ok d
  rw [hg] at c0
  have h1 : removeM d id now = ([⟨2, .zero, id, 0, now⟩], 0) := by unfold removeM; rw [(good_iff d).2 hd, hn, e]; simp
  have c1 := remove_ok d id now (by omega) (by omega)
  rw [h1] at c1
  have hid : validId id = true := by
    have hm : d.items.getD k default ∈ d.items := by rw [getD_lt hk]; exact List.getElem_mem hk
    have := ok_id (hd.1 _ hm)
    rwa [Nid.eqv_iff.1 hp] at this
  have h2 : appsM d [⟨2, .zero, id, 0, now⟩] = (⟨keep (hasId id) d.items, d.inbox⟩, true) := by
    rw [apps1 ((good_iff d).2 hd) (recErr2 hid hn)]; rfl
  have c2 := find_ok d id (by omega)
  rw [show findM d id = (d.items.getD k default, true) by unfold findM; rw [e, if_pos (by omega)]; rfl] at c2
  have c3 := apps_ok d [⟨2, .zero, id, 0, now⟩] (by simp; omega) (by simp; omega)
  rw [h2] at c3
  have hkl : (keep (hasId id) d.items).length ≤ d.items.length := List.length_filter_le _ _
  have c4 := same_ok ⟨keep (hasId id) d.items, d.inbox⟩ ⟨keep (hasId id) d.items, d.inbox⟩ (by simp only; omega) (by simp only; omega)
  rw [sameD_iff.2 rfl] at c4
  have c5 := find_ok ⟨keep (hasId id) d.items, d.inbox⟩ id (by simp only; omega)
  rw [show findM ⟨keep (hasId id) d.items, d.inbox⟩ id = (.zero, false) by have := keep_none d.items id; unfold findM; rw [if_neg (by simp only; omega)]] at c5
  have c6 := used_ok ⟨keep (hasId id) d.items, d.inbox⟩ (by simp only; omega)
  have c7 := used_ok d (by omega)
  have hu := used_removed (id := id) hd.2.2.1 hd.1 (by omega) hk hp
  refine fn_ok CD rfl (by kernel_rfl) Try.func9 rfl ?_
  refine Sat.go (Eq.refl _) (NS.call c0 rfl ?_)
  refine Sat.go (Eq.refl _) (NS.no rfl ?_)
  refine Sat.go (Eq.refl _) (NS.call c1 rfl ?_)
  refine Sat.go (Eq.refl _) (NS.call c2 rfl ?_)
  refine Sat.go (Eq.refl _) (NS.no rfl ?_)
  refine Sat.go (Eq.refl _) (NS.call c3 rfl ?_)
  refine Sat.go (Eq.refl _) (NS.call (clone_ok d.items (by omega)) rfl ?_)
  refine Sat.go (Eq.refl _) (NS.call (idxRem_ok d.items id (by omega)) rfl ?_)
  refine Sat.go (Eq.refl _) (NS.no (by rw [e]; simp) ?_)
  obtain ⟨hi0, hl0⟩ := del_start hk hp hnp
  refine Sat.go (Eq.refl _) ?_
  refine NS.loop (σ := { p : Nat × List Itm // DelInv (hasId id) d.items p.2 p.1 }) (fun p => [(0, .own 57), (1, .fn 35 [.ptr 4 0]), (5, .int .i64 (keep (hasId id) (d.items.take p.1.1)).length), (6, .int .i64 p.1.1)]) (fun p => [(57, .row 36 11 p.1.2.length (rowL Itm.cells p.1.2))]) (fun p => d.items.length - p.1.1) ⟨(k + 1, d.items), hi0⟩ ?_ ?_
  · refine weak_hd [] rfl ⟨rfl, rfl, ren_int rfl ?_, ren_int rfl ?_, trivial⟩ ⟨ren_row rfl rfl fun _ _ _ _ => rfl, trivial⟩ (by repeat' (first | exact trivial | refine ⟨.inr rfl, ?_⟩ | refine ⟨.inl rfl, ?_⟩)) (by kernel_rfl)
    · rw [e]; show (k : Int) = ((keep (hasId id) (d.items.take (k + 1))).length : Int); rw [hl0]
    · rw [e, wrap_i64 (by omega) (by omega)]; rfl
  · rintro ⟨⟨j, L⟩, hi⟩
    simp only at hi
    have hle := keep_le (hasId id) d.items j
    have hL := hi.1
    have hj := hi.2.1
    refine Sat.go (Eq.refl _) (NS.ite (fun h => ?_) (fun h => ?_))
    · simp at h
      have hjl : j < d.items.length := by omega
      have hLj := hi.2.2.2 j (Nat.le_refl _) hjl
      refine Sat.go (Eq.refl _) (NS.need (by simp; omega) ?_)
      refine Sat.go (Eq.refl _) (NS.need (by simp; omega) ?_)
      refine Sat.go (Eq.refl _) (NS.call (rem1_ok (L.getD j default) id) rfl ?_)
      refine Sat.go (Eq.refl _) (NS.ite (fun h3 => ?_) (fun h3 => ?_))
      · have hpj := not_t h3
        rw [hLj] at hpj
        have hnx := del_keep hi hjl hpj
        refine Sat.go (Eq.refl _) (NS.need (by simp; omega) ?_)
        refine Sat.go (Eq.refl _) (NS.need (by simp; omega) ?_)
        refine Sat.go (Eq.refl _) (NS.next ⟨(j + 1, L.set (keep (hasId id) (d.items.take j)).length (d.items.getD j default)), hnx⟩ (by simp; omega) ?_)
        refine weak_hd [] rfl ⟨rfl, rfl, ren_int rfl ?_, ren_int rfl ?_, trivial⟩ ⟨?_, trivial⟩ (by repeat' (first | exact trivial | refine ⟨.inr rfl, ?_⟩ | refine ⟨.inl rfl, ?_⟩)) (by kernel_rfl)
        · show IntKind.i64.wrap (((keep (hasId id) (d.items.take j)).length : Int) + 1) = ((keep (hasId id) (d.items.take (j + 1))).length : Int)
          rw [wrap_i64 (by omega) (by omega), keep_snoc hjl, hpj]; simp
        · exact i64_k (k := j) (n := 100) (by omega) (by omega)
        · refine ren_row rfl (by simp) fun q hq jj hjj => ?_
          have hrs := row_set L (keep (hasId id) (d.items.take j)).length (L.getD j default) (by omega) q jj hjj
          have hset : L.set (keep (hasId id) (d.items.take j)).length (L.getD j default) = L.set (keep (hasId id) (d.items.take j)).length (d.items.getD j default) := by rw [hLj]
          show _ = rowL Itm.cells (L.set (keep (hasId id) (d.items.take j)).length (d.items.getD j default)) q jj
          rw [← hset]
          exact hrs
      · have hpj := not_f h3
        rw [hLj] at hpj
        obtain ⟨hnx, hsame⟩ := del_drop hi hjl hpj
        refine Sat.go (Eq.refl _) (NS.next ⟨(j + 1, L), hnx⟩ (by simp; omega) ?_)
        refine weak_hd [] rfl ⟨rfl, rfl, ren_int rfl ?_, ren_int rfl ?_, trivial⟩ ⟨ren_row rfl rfl fun _ _ _ _ => rfl, trivial⟩ (by repeat' (first | exact trivial | refine ⟨.inr rfl, ?_⟩ | refine ⟨.inl rfl, ?_⟩)) (by kernel_rfl)
        · show ((keep (hasId id) (d.items.take j)).length : Int) = ((keep (hasId id) (d.items.take (j + 1))).length : Int)
          rw [hsame]
        · exact i64_k (k := j) (n := 100) (by omega) (by omega)
    · simp at h
      have hje : j = d.items.length := by omega
      subst hje
      have hend := del_end hi
      have hlt := keep_lt hk hp
      rw [List.take_length] at hle
      refine Sat.go (Eq.refl _) (NS.leave rfl (Eq.refl _) ?_)
      refine Sat.go (Eq.refl _) (NS.need (decide_eq_true ⟨by omega, by simp only [List.take_length]; omega, by omega⟩) ?_)
      refine Sat.go (Eq.refl _) (NS.need (decide_eq_true (by simp only [List.take_length]; omega)) ?_)
      refine Sat.go (Eq.refl _) (NS.need (decide_eq_true ⟨by omega, by omega, by simp only [List.take_length]; omega⟩) ?_)
      refine Sat.go (Eq.refl _) (NS.call c5 rfl ?_)
      refine Sat.go (Eq.refl _) (NS.chk (by kernel_rfl) ?_)
      refine Sat.go (Eq.refl _) (NS.yes rfl ?_)
      refine Sat.go (Eq.refl _) (NS.yes rfl ?_)
      refine Sat.go (Eq.refl _) (NS.yes hp ?_)
      refine Sat.go (Eq.refl _) (NS.yes rfl ?_)
      refine Sat.go (Eq.refl _) (NS.call (c4.le (LeL.cons (LeA.refl _) (LeL.cons ?_ LeL.nil))) rfl ?_)
      · refine agg2_le (LeA.sl (by simp [List.take_length]) (fun q hq jj hjj => ?_)) (LeA.refl _)
        simp only [List.take_length] at hq ⊢
        have hq' : q < (keep (hasId id) d.items).length := by simpa using hq
        rw [if_neg (by simp; omega)]
        unfold rowL
        rw [← hend q hq']
        simp
      refine Sat.go (Eq.refl _) (NS.yes rfl ?_)
      refine Sat.go (Eq.refl _) (NS.call c6 rfl ?_)
      refine Sat.go (Eq.refl _) (NS.call c7 rfl ?_)
      refine Sat.go (Eq.refl _) (NS.yes (beq_iff_eq.2 hu) ?_)
      refine Sat.go (Eq.refl _) (NS.call awake_ok rfl ?_)
      exact Sat.go (Eq.refl _) (NS.ret rfl rfl (LeA.of rfl))
theorem storeRemoved_ok (d : Dur) (id : Nid) (now : Int) : FnOK Try.prog 9 [.agg d.cells, .agg id.cells, .int .i64 now] (.bool true, none) := by
  rcases Bool.eq_false_or_eq_true (greatD d) with hg | hg
  · have c0 := great_ok d
    rw [hg] at c0
    refine fn_ok CD rfl (by kernel_rfl) Try.func9 rfl ?_
    refine Sat.go (Eq.refl _) (NS.call c0 rfl ?_)
    refine Sat.go (Eq.refl _) (NS.yes rfl ?_)
    refine Sat.go (Eq.refl _) (NS.call awake_ok rfl ?_)
    exact Sat.go (Eq.refl _) (NS.ret rfl rfl (LeA.of rfl))
  by_cases hc : checkM d = 0
  · by_cases hn : inR now 0 1099511627776 = true
    · rcases idx_cases (hasId id) d.items with ⟨e, _⟩ | ⟨k, hk, e, hp, hnp⟩
      · exact removed_out (e := 7) hg (.inr (.inr ⟨rfl, by unfold findM; rw [e]; rfl⟩)) (by unfold removeM; rw [hc, hn, e]; simp)
      · exact removed_main hg ((good_iff d).1 hc) hn hk e hp hnp
    · exact removed_out (e := 2) hg (.inr (.inl rfl)) (by unfold removeM; rw [hc]; simp [hn])
  · exact removed_out (e := 1) hg (.inl rfl) (by unfold removeM; simp [hc])
end Go.Proofs.Ytkgaaaidmaddnaa
