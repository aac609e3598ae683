/- The contracts of the reference's Effect, Apply and Fold; the statement StoreApply: the walk. -/
import Derived.Test.YtkgaaaidmaddnaaV
set_option linter.unusedSimpArgs false
set_option linter.unusedSectionVars false
set_option linter.unusedVariables false
namespace Go.Proofs.Ytkgaaaidmaddnaa
open Go.Sy Go.Mb
set_option maxRecDepth 100000
set_option linter.unusedVariables false
set_option maxHeartbeats 1000000

/-- Taking away the item with an id, in a list without an id twice. -/
theorem filter_cut {l : List Itm} {id : Nid} {k : Nat} (hu : Uniq l) (hk : k < l.length) (hp : hasId id (l.getD k default) = true) : l.take k ++ l.drop (k + 1) = l.filter (notId id) := by
  have he : (l.getD k default).id = id := Nid.eqv_iff.1 hp
  rw [getD_lt hk] at he hp
  rw [uniq_get] at hu
  have e : l = l.take k ++ l[k] :: l.drop (k + 1) := by rw [← List.drop_eq_getElem_cons hk, List.take_append_drop]
  have h1 : (l.take k).filter (notId id) = l.take k := by
    rw [List.filter_eq_self]
    intro x hx
    obtain ⟨i, hi, rfl⟩ := List.getElem_of_mem hx
    have hi' : i < k := by simp at hi; omega
    rw [List.getElem_take]
    unfold notId
    rw [Bool.not_eq_true', ← Bool.not_eq_true]
    intro h
    exact hu i k (by omega) hk hi' ((Nid.eqv_iff.1 h).trans he.symm)
  have h2 : (l.drop (k + 1)).filter (notId id) = l.drop (k + 1) := by
    rw [List.filter_eq_self]
    intro x hx
    obtain ⟨i, hi, rfl⟩ := List.getElem_of_mem hx
    simp at hi
    rw [List.getElem_drop]
    unfold notId
    rw [Bool.not_eq_true', ← Bool.not_eq_true]
    intro h
    exact hu k (k + 1 + i) hk (by omega) (by omega) (he.trans (Nid.eqv_iff.1 h).symm)
  conv => rhs; rw [e, List.filter_append, List.filter_cons]
  have h3 : notId id l[k] = false := by unfold notId; rw [hp]; rfl
  rw [h1, h2, h3]; rfl
theorem filter_none {l : List Itm} {id : Nid} (h : idx (hasId id) l < 0) : l.filter (notId id) = l := by
  rw [idx_neg] at h
  rw [List.filter_eq_self]
  intro x hx
  unfold notId
  rw [List.any_eq_false] at h
  simpa using h x hx

theorem rEffect_ok (d : Dur) (r : Jrec) (hu : Uniq d.items) (hr : recErr r = 0) (h1 : d.items.length ≤ 999990) (h2 : d.inbox.length ≤ 999990) : FnOK Try.prog 53 [.agg d.cells, .agg r.cells] (.agg (effM d r).cells, none) := by
  have hx := idx_lt (hasId r.item.id) d.items
  have hy := idx_lt (hasId r.item.id) d.inbox
  have hz := idx_lt (hasId r.id) d.items
  have hk := recErr_kind hr
  obtain ⟨kd, x, id, tk, tm⟩ := r
  simp only at hx hy hz hk
  refine fn_ok CN rfl (by kernel_rfl) Try.func53 rfl ?_
  rcases hk with rfl | rfl | rfl | rfl
  · refine Sat.go (Eq.refl _) (NS.yes rfl ?_)
    refine Sat.go (Eq.refl _) (NS.call (rIndex_ok d.items x.id (by omega)) rfl ?_)
    refine Sat.go (Eq.refl _) (NS.ite (fun h => ?_) (fun h => ?_))
    · simp only [beq_iff_eq] at h
      have hw : withM d.items x = d.items ++ [x] := by unfold withM; rw [if_neg (by omega)]
      have he : effM d ⟨1, x, id, tk, tm⟩ = ⟨d.items ++ [x], d.inbox⟩ := by simp only [effM, hw]; rfl
      rw [he]
      refine Sat.go (Eq.refl _) (NS.chk (by kernel_rfl) ?_)
      refine Sat.go (Eq.refl _) (NS.call (rClone_ok d.items (by omega)) rfl ?_)
      refine Sat.go (Eq.refl _) (NS.need (decide_eq_true (by simp only [maxRow]; omega)) ?_)
      refine Sat.go (Eq.refl _) (NS.no rfl ?_)
      refine Sat.go (Eq.refl _) (NS.call ((rIndex_ok (d.items ++ [x]) id (by simp; omega)).le (LeL.cons (LeA.sl (by simp) (fun i' hi j hj => row_snoc (cells := Itm.cells) (x := x) rfl i' hi j hj)) (LeL.refl _))) rfl ?_)
      refine Sat.go (Eq.refl _) (NS.no rfl ?_)
      refine Sat.go (Eq.refl _) (NS.no rfl ?_)
      exact Sat.go (Eq.refl _) (NS.ret rfl rfl (agg2_le (LeA.sl (by simp) (fun i' hi j hj => row_snoc (cells := Itm.cells) (x := x) rfl i' hi j hj)) (LeA.refl _)))
    · simp only [beq_eq_false_iff_ne, ne_eq] at h
      have hw : withM d.items x = d.items := by unfold withM; rw [if_pos (by omega)]
      have he : effM d ⟨1, x, id, tk, tm⟩ = d := by simp only [effM, hw]; rfl
      rw [he]
      refine Sat.go (Eq.refl _) (NS.no rfl ?_)
      refine Sat.go (Eq.refl _) (NS.call (rIndex_ok d.items id (by omega)) rfl ?_)
      refine Sat.go (Eq.refl _) (NS.no rfl ?_)
      refine Sat.go (Eq.refl _) (NS.no rfl ?_)
      exact Sat.go (Eq.refl _) (NS.ret rfl rfl (LeA.refl _))
  · refine Sat.go (Eq.refl _) (NS.no rfl ?_)
    refine Sat.go (Eq.refl _) (NS.no rfl ?_)
    refine Sat.go (Eq.refl _) (NS.call (rIndex_ok d.items id (by omega)) rfl ?_)
    refine Sat.go (Eq.refl _) (NS.yes rfl ?_)
    have he : effM d ⟨2, x, id, tk, tm⟩ = ⟨d.items.filter (notId id), d.inbox⟩ := by simp only [effM]; rfl
    rw [he]
    refine Sat.go (Eq.refl _) (NS.ite (fun h => ?_) (fun h => ?_))
    · simp only [decide_eq_true_eq] at h
      rcases idx_cases (hasId id) d.items with ⟨e, _⟩ | ⟨k, hkl, e, hp, _⟩
      · omega
      have hf := filter_cut hu hkl hp
      refine Sat.go (Eq.refl _) (NS.need (decide_eq_true (by omega)) ?_)
      refine Sat.go (Eq.refl _) (NS.call ((rClone_ok (d.items.take k) (by simp; omega)).le (LeL.cons ?_ LeL.nil)) rfl ?_)
      · refine LeA.sl (by rw [e]; simp; omega) (fun i hi j hj => ?_)
        rw [e] at hi
        have hi' : i < k := by simpa using hi
        show getA (Itm.cells (d.items.getD (0 + i) default)) j = getA (Itm.cells ((d.items.take k).getD i default)) j
        rw [Nat.zero_add, getD_lt (by omega), getD_lt (by simp; omega)]
        simp
      refine Sat.go (Eq.refl _) ?_
      refine NS.loop (σ := { m : Nat // k + 1 + m ≤ d.items.length }) (fun m => [(2, .ptr 2 0), (3, .ptr 3 0), (4, .ptr 4 0), (6, .own 64), (7, .int .i64 (k + 1 + m.1 : Nat))]) (fun m => [(2, .box d.cells), (3, .box [.int .i64 2, .junk, .junk, .junk, .junk, .junk, .junk, .junk, .junk, .junk, .junk, .junk, .junk, .junk, .junk, .junk, .junk, .junk, .junk]), (4, .box [.junk, .junk]), (64, .row 36 11 (d.items.take k ++ (d.items.drop (k + 1)).take m.1).length (rowL Itm.cells (d.items.take k ++ (d.items.drop (k + 1)).take m.1)))]) (fun m => d.items.length - m.1) ⟨0, by omega⟩ ?_ ?_
      · refine weak_hd [] rfl ⟨rfl, rfl, rfl, rfl, ren_int rfl ?_, trivial⟩ ⟨⟨_, rfl, _, _, rfl, rfl, _, _, rfl, rfl, rfl⟩, ⟨_, rfl, _, _, rfl, rfl, _, _, rfl, trivial, _, _, rfl, trivial, _, _, rfl, trivial, _, _, rfl, trivial, _, _, rfl, trivial, _, _, rfl, trivial, _, _, rfl, trivial, _, _, rfl, trivial, _, _, rfl, trivial, _, _, rfl, trivial, _, _, rfl, trivial, _, _, rfl, trivial, _, _, rfl, trivial, _, _, rfl, trivial, _, _, rfl, trivial, _, _, rfl, trivial, _, _, rfl, trivial, _, _, rfl, trivial, rfl⟩, ⟨_, rfl, _, _, rfl, trivial, _, _, rfl, trivial, rfl⟩, ?_, trivial⟩ trivial (by kernel_rfl)
        · rw [e, wrap_i64 (by omega) (by omega)]
          show ((k : Int) + 1) = ((k + 1 + 0 : Nat) : Int)
          omega
        · refine ren_row rfl (by simp) fun _ _ _ _ => by simp
      · rintro ⟨m, hm⟩
        refine Sat.go (Eq.refl _) (NS.ite (fun h => ?_) (fun h => ?_))
        · simp at h
          have hlt : k + 1 + m < d.items.length := by omega
          have hsn : d.items.take k ++ (d.items.drop (k + 1)).take (m + 1) = (d.items.take k ++ (d.items.drop (k + 1)).take m) ++ [d.items.getD (k + 1 + m) default] := by
            rw [take_snoc (by simp; omega), List.append_assoc]
            rw [getD_lt (by simp; omega), getD_lt hlt]
            simp
          have hlen : (d.items.take k ++ (d.items.drop (k + 1)).take m).length ≤ 999990 := by simp; omega
          refine Sat.go (Eq.refl _) (NS.need (by simp; omega) ?_)
          refine Sat.go (Eq.refl _) (NS.need (decide_eq_true (by simp only [maxRow]; omega)) ?_)
          refine Sat.go (Eq.refl _) (NS.next ⟨m + 1, by omega⟩ (by simp; omega) ?_)
          refine weak_hd [(64, 81)] rfl ⟨rfl, rfl, rfl, rfl, ren_int rfl ?_, trivial⟩ ⟨⟨_, rfl, _, _, rfl, rfl, _, _, rfl, rfl, rfl⟩, ⟨_, rfl, _, _, rfl, rfl, _, _, rfl, trivial, _, _, rfl, trivial, _, _, rfl, trivial, _, _, rfl, trivial, _, _, rfl, trivial, _, _, rfl, trivial, _, _, rfl, trivial, _, _, rfl, trivial, _, _, rfl, trivial, _, _, rfl, trivial, _, _, rfl, trivial, _, _, rfl, trivial, _, _, rfl, trivial, _, _, rfl, trivial, _, _, rfl, trivial, _, _, rfl, trivial, _, _, rfl, trivial, _, _, rfl, trivial, rfl⟩, ⟨_, rfl, _, _, rfl, trivial, _, _, rfl, trivial, rfl⟩, ?_, trivial⟩ trivial (by kernel_rfl)
          · show IntKind.i64.wrap (((k + 1 + m : Nat) : Int) + 1) = ((k + 1 + (m + 1) : Nat) : Int)
            rw [wrap_i64 (by omega) (by omega)]; omega
          · simp only [hsn]
            exact ren_row rfl (by simp only [List.length_append, List.length_cons, List.length_nil]) (fun i hi j hj => row_snoc (cells := Itm.cells) (x := d.items.getD (k + 1 + m) default) rfl i (by simp only [List.length_append, List.length_cons, List.length_nil] at hi ⊢; omega) j hj)
        · simp at h
          have hm' : k + 1 + m = d.items.length := by omega
          refine Sat.go (Eq.refl _) (NS.leave rfl (Eq.refl _) ?_)
          refine Sat.go (Eq.refl _) (NS.no rfl ?_)
          refine Sat.go (Eq.refl _) (NS.ret rfl rfl (agg2_le ?_ (LeA.refl _)))
          have hd : (d.items.drop (k + 1)).take m = d.items.drop (k + 1) := List.take_of_length_le (by simp; omega)
          simp only [hd, hf]
          exact LeA.refl _
    · simp only [decide_eq_false_iff_not] at h
      refine Sat.go (Eq.refl _) (NS.no rfl ?_)
      refine Sat.go (Eq.refl _) (NS.ret rfl rfl ?_)
      rw [filter_none (by omega)]
      exact LeA.refl _
  · refine Sat.go (Eq.refl _) (NS.no rfl ?_)
    refine Sat.go (Eq.refl _) (NS.yes rfl ?_)
    refine Sat.go (Eq.refl _) (NS.call (rIndex_ok d.inbox x.id (by omega)) rfl ?_)
    refine Sat.go (Eq.refl _) (NS.ite (fun h => ?_) (fun h => ?_))
    · simp only [beq_iff_eq] at h
      have hw : withM d.inbox x = d.inbox ++ [x] := by unfold withM; rw [if_neg (by omega)]
      have he : effM d ⟨3, x, id, tk, tm⟩ = ⟨d.items, d.inbox ++ [x]⟩ := by simp only [effM, hw]; rfl
      rw [he]
      refine Sat.go (Eq.refl _) (NS.chk (by kernel_rfl) ?_)
      refine Sat.go (Eq.refl _) (NS.call (rClone_ok d.inbox (by omega)) rfl ?_)
      refine Sat.go (Eq.refl _) (NS.need (decide_eq_true (by simp only [maxRow]; omega)) ?_)
      refine Sat.go (Eq.refl _) (NS.call (rIndex_ok d.items id (by omega)) rfl ?_)
      refine Sat.go (Eq.refl _) (NS.no rfl ?_)
      refine Sat.go (Eq.refl _) (NS.no rfl ?_)
      exact Sat.go (Eq.refl _) (NS.ret rfl rfl (agg2_le (LeA.refl _) (LeA.sl (by simp) (fun i' hi j hj => row_snoc (cells := Itm.cells) (x := x) rfl i' hi j hj))))
    · simp only [beq_eq_false_iff_ne, ne_eq] at h
      have hw : withM d.inbox x = d.inbox := by unfold withM; rw [if_pos (by omega)]
      have he : effM d ⟨3, x, id, tk, tm⟩ = d := by simp only [effM, hw]; rfl
      rw [he]
      refine Sat.go (Eq.refl _) (NS.call (rIndex_ok d.items id (by omega)) rfl ?_)
      refine Sat.go (Eq.refl _) (NS.no rfl ?_)
      refine Sat.go (Eq.refl _) (NS.no rfl ?_)
      exact Sat.go (Eq.refl _) (NS.ret rfl rfl (LeA.refl _))
  · refine Sat.go (Eq.refl _) (NS.no rfl ?_)
    refine Sat.go (Eq.refl _) (NS.no rfl ?_)
    refine Sat.go (Eq.refl _) (NS.call (rIndex_ok d.items id (by omega)) rfl ?_)
    refine Sat.go (Eq.refl _) (NS.no rfl ?_)
    refine Sat.go (Eq.refl _) (NS.yes rfl ?_)
    have he : effM d ⟨4, x, id, tk, tm⟩ = ⟨setTick d.items id tk, d.inbox⟩ := by simp only [effM]; rfl
    rw [he]
    refine Sat.go (Eq.refl _) (NS.ite (fun h => ?_) (fun h => ?_))
    · simp only [decide_eq_true_eq] at h
      refine Sat.go (Eq.refl _) (NS.call (rClone_ok d.items (by omega)) rfl ?_)
      refine Sat.go (Eq.refl _) (NS.need (decide_eq_true (by omega)) ?_)
      refine Sat.go (Eq.refl _) (NS.need (decide_eq_true (by omega)) ?_)
      refine Sat.go (Eq.refl _) (NS.ret rfl rfl (agg2_le ?_ (LeA.refl _)))
      have hs : setTick d.items id tk = d.items.modify (idx (hasId id) d.items).toNat (fun x => { x with ticket := tk }) := by unfold setTick; rw [if_pos h]
      simp only [hs]
      refine LeA.sl (by simp) (fun i hi j hj => ?_)
      simp only [rowL, getD_modify _ _ _ _ hi]
      by_cases hik : i = (idx (hasId id) d.items).toNat
      · rw [if_pos hik]
        by_cases hj0 : j = 0
        · subst hj0; rw [if_pos ⟨hik, by omega, by omega⟩]; rfl
        · rw [if_neg (by omega)]
          obtain ⟨j, rfl⟩ : ∃ q, j = q + 1 := ⟨j - 1, by omega⟩
          rfl
      · rw [if_neg hik, if_neg (by omega)]
    · simp only [decide_eq_false_iff_not] at h
      refine Sat.go (Eq.refl _) (NS.ret rfl rfl (agg2_le (LeA.of ?_) (LeA.refl _)))
      have hs : setTick d.items id tk = d.items := by unfold setTick; rw [if_neg h]
      simp only [hs]; rfl

theorem rApply_ok (d : Dur) (r : Jrec) (h1 : d.items.length ≤ 999990) (h2 : d.inbox.length ≤ 999990) : FnOK Try.prog 19 [.agg d.cells, .agg r.cells] (durA (applyM d r), none) := by
  refine fn_ok CN rfl (by kernel_rfl) Try.func19 rfl ?_
  refine Sat.go (Eq.refl _) (NS.call (rValid_ok d (by omega) (by omega)) rfl ?_)
  refine Sat.go (Eq.refl _) (NS.ite (fun a1 => ?_) (fun a1 => ?_))
  · refine Sat.go (Eq.refl _) (NS.ret rfl rfl (dur_le ?_ nilD))
    have : checkM d ≠ 0 := by have := not_t a1; rw [valid_check] at this; simpa using this
    simp [applyM, this]
  have hc : checkM d = 0 := by have := not_f a1; rw [valid_check] at this; simpa using this
  refine Sat.go (Eq.refl _) (NS.call (rCheck_ok r) rfl ?_)
  refine Sat.go (Eq.refl _) (NS.ite (fun a2 => ?_) (fun a2 => ?_))
  · refine Sat.go (Eq.refl _) (NS.ret rfl rfl (dur_le ?_ nilD))
    simp only [applyM, a2, hc]; rfl
  have hr : recErr r = 0 := by simpa using a2
  refine Sat.go (Eq.refl _) (NS.call (rEffect_ok d r ((good_iff d).1 hc).2.2.1 hr h1 h2) rfl ?_)
  refine Sat.go (Eq.refl _) (NS.ret rfl rfl (dur_le ?_ (LeA.refl _)))
  simp only [applyM, a2, hc]; rfl
theorem rFold_ok (l : List Jrec) (hl : l.length ≤ 999980) : FnOK Try.prog 16 [slR l] (durA (foldM l), none) := by
  refine fn_ok CN rfl (by kernel_rfl) Try.func16 rfl ?_
  refine Sat.go (Eq.refl _) ?_
  refine NS.loop (σ := { k : Nat // k ≤ l.length ∧ ∀ i, i < k → badRec (l.getD i default) = false }) (fun k => [(0, slR l), (2, .ptr 2 0), (4, .ptr 4 0), (5, .int .i64 k.1)]) (fun k => [(2, .box [.junk, .junk]), (4, .box (effs (l.take k.1) ⟨[], []⟩).cells)]) (fun k => l.length - k.1) ⟨0, Nat.zero_le _, fun i hi => by omega⟩ ?_ ?_
  · refine Weak.trans (weak_box 4 (cells' := (effs (l.take 0) ⟨[], []⟩).cells) rfl (.cons (LeA.nil' rfl) (.cons (LeA.nil' rfl) .nil))) ?_
    exact weak_hd [] rfl ⟨rfl, rfl, rfl, rfl, trivial⟩ ⟨⟨_, rfl, _, _, rfl, trivial, _, _, rfl, trivial, rfl⟩, ⟨_, rfl, _, _, rfl, rfl, _, _, rfl, rfl, rfl⟩, trivial⟩ trivial (by kernel_rfl)
  · rintro ⟨k, hk, hn⟩
    have hlen := effs_len (l.take k) ⟨[], []⟩
    simp only [List.length_take, List.length_nil] at hlen
    refine Sat.go (Eq.refl _) (NS.ite (fun h => ?_) (fun h => ?_))
    · simp at h
      have hsn : effs (l.take (k + 1)) ⟨[], []⟩ = effM (effs (l.take k) ⟨[], []⟩) (l.getD k default) := by rw [take_snoc (by omega), effs_snoc]
      refine Sat.go (Eq.refl _) (NS.need (by simp; omega) ?_)
      refine Sat.go (Eq.refl _) (NS.call (rCheck_ok (l.getD k default)) rfl ?_)
      refine Sat.go (Eq.refl _) (NS.ite (fun h2 => ?_) (fun h2 => ?_))
      · refine Sat.go (Eq.refl _) (NS.leaveOut rfl (Eq.refl _) (NS.ret rfl rfl (dur_le ?_ nilD)))
        have : l.any badRec = true := any_t (k := k) (by omega) h2
        simp only [foldM, this]; rfl
      · have hgd : Good (effs (l.take k) ⟨[], []⟩) := good_effs good_nil (by
          intro r hr
          obtain ⟨i, hi, rfl⟩ := List.getElem_of_mem hr
          have hik : i < k := by simp at hi; omega
          have := hn i hik
          rw [getD_lt (by omega)] at this
          rw [List.getElem_take]
          unfold badRec at this
          simpa using this)
        refine Sat.go (Eq.refl _) (NS.chk (by kernel_rfl) ?_)
        refine Sat.go (Eq.refl _) (NS.need (by simp; omega) ?_)
        refine Sat.go (Eq.refl _) (NS.call (rEffect_ok (effs (l.take k) ⟨[], []⟩) (l.getD k default) hgd.2.2.1 (by simpa using h2) (by omega) (by omega)) rfl ?_)
        refine Sat.go (Eq.refl _) (NS.next ⟨k + 1, by omega, fun i hi => ?_⟩ (by simp; omega) ?_)
        · by_cases hik : i = k
          · subst hik; exact h2
          · exact hn i (by omega)
        · refine weak_hd [] rfl ⟨rfl, rfl, rfl, ren_int rfl (i64_k (by omega) (by omega)), trivial⟩ ⟨⟨_, rfl, _, _, rfl, trivial, _, _, rfl, trivial, rfl⟩, ?_, trivial⟩ trivial (by kernel_rfl)
          rw [hsn]
          exact ⟨_, rfl, _, _, rfl, rfl, _, _, rfl, rfl, rfl⟩
    · simp at h
      refine Sat.go (Eq.refl _) (NS.leave rfl (Eq.refl _) ?_)
      have ha : l.any badRec = false := any_f fun i hi => hn i (by omega)
      have hres : foldM l = (effs l ⟨[], []⟩, 0) := by simp only [foldM, ha]; rfl
      refine Sat.go (Eq.refl _) (NS.ret rfl rfl (dur_le hres ?_))
      rw [take_all (by omega)]
      exact LeA.refl _

theorem foldM_len (l : List Jrec) : (foldM l).1.items.length ≤ l.length ∧ (foldM l).1.inbox.length ≤ l.length := by
  unfold foldM
  split
  · simp
  · have := effs_len l ⟨[], []⟩; simpa using this
theorem storeApply_ok (d : Dur) (l : List Jrec) : FnOK Try.prog 3 [.agg d.cells, slR l] (.bool true, none) := by
  refine fn_ok CN rfl (by kernel_rfl) Try.func3 rfl ?_
  refine Sat.go (Eq.refl _) (NS.call (great_ok d) rfl ?_)
  refine Sat.go (Eq.refl _) (NS.ite (fun hg => ?_) (fun hg => ?_))
  · refine Sat.go (Eq.refl _) (NS.call awake_ok rfl ?_)
    exact Sat.go (Eq.refl _) (NS.ret rfl rfl (LeA.of rfl))
  refine Sat.go (Eq.refl _) (NS.call (greatR_ok l) rfl ?_)
  refine Sat.go (Eq.refl _) (NS.ite (fun hg2 => ?_) (fun hg2 => ?_))
  · refine Sat.go (Eq.refl _) (NS.call awake_ok rfl ?_)
    exact Sat.go (Eq.refl _) (NS.ret rfl rfl (LeA.of rfl))
  have hlen : l.length ≤ 20 := by unfold greatR at hg2; simp only [Bool.or_eq_false_iff, decide_eq_false_iff_not] at hg2; omega
  obtain ⟨b1, b2, _, _⟩ := not_great hg
  have fl := foldM_len l
  have c1 := same_ok (foldM l).1 (foldM l).1 (by omega) (by omega)
  rw [sameD_iff.2 rfl] at c1
  refine Sat.go (Eq.refl _) (NS.call (fold_ok l (by omega)) rfl ?_)
  refine Sat.go (Eq.refl _) (NS.call (rFold_ok l (by omega)) rfl ?_)
  refine Sat.go (Eq.refl _) (NS.call c1 rfl ?_)
  refine Sat.go (Eq.refl _) (NS.no rfl ?_)
  refine Sat.go (Eq.refl _) (NS.no (bne_self_eq_false _) ?_)
  refine Sat.go (Eq.refl _) ?_
  refine NS.loop (σ := { k : Nat // k ≤ l.length }) (fun k => [(2, .ptr 2 0), (41, slR l), (42, .int .i64 l.length), (43, .int .i64 k.1)]) (fun k => [(2, .box d.cells)]) (fun k => l.length - k.1) ⟨0, Nat.zero_le _⟩ ?_ ?_
  · exact weak_hd [] rfl ⟨rfl, rfl, rfl, rfl, trivial⟩ ⟨⟨_, rfl, _, _, rfl, rfl, _, _, rfl, rfl, rfl⟩, trivial⟩ trivial (by kernel_rfl)
  · rintro ⟨k, hk⟩
    refine Sat.go (Eq.refl _) (NS.ite (fun h => ?_) (fun h => ?_))
    · simp at h
      have al := applyM_len d (l.getD k default)
      have c2 := same_ok (applyM d (l.getD k default)).1 (applyM d (l.getD k default)).1 (by omega) (by omega)
      rw [sameD_iff.2 rfl] at c2
      refine Sat.go (Eq.refl _) (NS.need (by simp; omega) ?_)
      refine Sat.go (Eq.refl _) (NS.call (apply_ok d (l.getD k default) (by omega) (by omega)) rfl ?_)
      refine Sat.go (Eq.refl _) (NS.call (rApply_ok d (l.getD k default) (by omega) (by omega)) rfl ?_)
      refine Sat.go (Eq.refl _) (NS.call c2 rfl ?_)
      refine Sat.go (Eq.refl _) (NS.no rfl ?_)
      refine Sat.go (Eq.refl _) (NS.no (bne_self_eq_false _) ?_)
      refine Sat.go (Eq.refl _) (NS.next ⟨k + 1, by omega⟩ (by simp; omega) ?_)
      exact weak_hd [] rfl ⟨rfl, rfl, rfl, ren_int rfl (i64_k (by omega) (by omega)), trivial⟩ ⟨⟨_, rfl, _, _, rfl, rfl, _, _, rfl, rfl, rfl⟩, trivial⟩ trivial (by kernel_rfl)
    · simp at h
      refine Sat.go (Eq.refl _) (NS.leave rfl (Eq.refl _) ?_)
      refine Sat.go (Eq.refl _) (NS.call awake_ok rfl ?_)
      exact Sat.go (Eq.refl _) (NS.ret rfl rfl (LeA.of rfl))
end Go.Proofs.Ytkgaaaidmaddnaa
