/- The statement StoreOrder: the walk. -/
import Derived.Test.YtkgaaaidmaddnaaOF
import Derived.Test.YtkgaaaidmaddnaaLY
set_option linter.unusedSimpArgs false
set_option linter.unusedSectionVars false
set_option linter.unusedVariables false
namespace Go.Proofs.Ytkgaaaidmaddnaa
open Go.Sy Go.Mb
set_option maxRecDepth 100000
set_option linter.unusedVariables false
set_option maxHeartbeats 1000000

noncomputable def EM : Env := { P := Try.prog, eqT := EN.eqT, mu := [44] }
theorem EM_ok : EqOK EM := EN_ok
noncomputable def CM : Cx := { E := EM, inl := [], ok := EM_ok }
theorem cloneN_ok (l : List Int) (hl : l.length ≤ 1000000) : FnOK Try.prog 43 [slN l] (.own 0, some (.row 3 1 l.length (rowL nC l))) := by
  refine fn_ok CN rfl (by kernel_rfl) Try.func43 rfl ?_
  refine Sat.go (Eq.refl _) (NS.ite (fun h0 => ?_) (fun h0 => ?_))
  · refine Sat.go (Eq.refl _) (NS.both ?_ ?_)
    · exact Sat.go (Eq.refl _) (NS.retNil (by simpa using h0) rfl rfl)
    · refine Sat.go (Eq.refl _) (NS.need (decide_eq_true (by simp only [maxRow]; omega)) ?_)
      exact Sat.go (Eq.refl _) (NS.retRow 7 rfl rfl (LeA.refl _) ⟨rfl, rfl, by simp, fun i hi j hj => by simp⟩ fun _ _ _ _ => flatN _ _ _)
  · refine Sat.go (Eq.refl _) (NS.need (decide_eq_true (by simp only [maxRow]; omega)) ?_)
    exact Sat.go (Eq.refl _) (NS.retRow 7 rfl rfl (LeA.refl _) ⟨rfl, rfl, by simp, fun i hi j hj => by simp⟩ fun _ _ _ _ => flatN _ _ _)
theorem lBefore_ok (a b : Itm) : FnOK Try.prog 45 [.agg a.cells, .agg b.cells] (.bool (decide (cmpItm a b < 0)), none) := by
  refine fn_ok CN rfl (by kernel_rfl) Try.func45 rfl ?_
  refine Sat.go (Eq.refl _) (NS.ite (fun h => ?_) (fun h => ?_))
  · have h' : a.prio ≠ b.prio := by simpa using h
    refine Sat.go (Eq.refl _) (NS.ret rfl rfl (LeA.of (congrArg A.bool (decide_eq_decide.2 ?_))))
    unfold cmpItm
    rw [orL, if_pos (by rw [bne_iff_ne, ne_eq, cmpI_zero]; exact fun e => h' e.symm), cmpI_lt]
  have h' : a.prio = b.prio := by simpa using h
  have e1 : orL [cmpI b.prio a.prio, cmpI a.expires b.expires, cmpId a.id b.id] = orL [cmpI a.expires b.expires, cmpId a.id b.id] := by
    rw [orL, if_neg]
    simp only [bne_iff_ne, ne_eq, Classical.not_not]
    rw [cmpI_zero, h']
  refine Sat.go (Eq.refl _) (NS.ite (fun h2 => ?_) (fun h2 => ?_))
  · have h2' : a.expires ≠ b.expires := by simpa using h2
    refine Sat.go (Eq.refl _) (NS.ret rfl rfl (LeA.of (congrArg A.bool (decide_eq_decide.2 ?_))))
    unfold cmpItm
    rw [e1, orL, if_pos (by rw [bne_iff_ne, ne_eq, cmpI_zero]; exact h2'), cmpI_lt]
  have h2' : a.expires = b.expires := by simpa using h2
  have e2 : orL [cmpI a.expires b.expires, cmpId a.id b.id] = cmpId a.id b.id := by
    rw [orL, if_neg]
    · simp only [orL]
      split
      · rfl
      · rename_i hz
        have hz' : cmpId a.id b.id = 0 := by simpa using hz
        exact hz'.symm
    · simp only [bne_iff_ne, ne_eq, Classical.not_not]
      rw [cmpI_zero, h2']
  refine Sat.go (Eq.refl _) (NS.call (bLess_ok a.id b.id) rfl ?_)
  refine Sat.go (Eq.refl _) (NS.ret rfl rfl (LeA.of (congrArg A.bool ?_)))
  unfold cmpItm
  rw [e1, e2]
  unfold cmpId
  by_cases hl : lessId a.id b.id = true
  · rw [if_pos hl, hl]; rfl
  · rw [if_neg hl]
    rw [Bool.not_eq_true] at hl
    rw [hl]
    split <;> rfl
theorem storeOrder_ok (d : Dur) : FnOK Try.prog 11 [.agg d.cells] (.bool true, none) := by
  have c0 := great_ok d
  rcases Bool.eq_false_or_eq_true (greatD d) with hg | hg
  · rw [hg] at c0
    refine fn_ok CM rfl (by kernel_rfl) Try.func11 rfl ?_
    refine Sat.go (Eq.refl _) (NS.call c0 rfl ?_)
    refine Sat.go (Eq.refl _) (NS.yes rfl ?_)
    refine Sat.go (Eq.refl _) (NS.call awake_ok rfl ?_)
    exact Sat.go (Eq.refl _) (NS.ret rfl rfl (LeA.of rfl))
  obtain ⟨b1, b2, _, _⟩ := not_great hg
  rw [hg] at c0
  obtain ⟨f1, f2⟩ := ord_fine d d.items.length
  have c1 := order_ok d (by omega)
  have hm := ordR_mem (ltD d) d.items.length
  have hlen := ordR_len (ltD d) d.items.length
  generalize hL : ordR (ltD d) d.items.length = L at *
  generalize hn : d.items.length = n at *
  have c2 := cloneN_ok L (by omega)
  have c3 := sortI_mu Try.ly189 (by kernel_rfl) L 3 (by omega)
  unfold slN at c2
  rw [hlen] at c2 c3
  rw [f2] at c3
  refine fn_ok CM rfl (by kernel_rfl) Try.func11 rfl ?_
  refine Sat.go (Eq.refl _) (NS.call c0 rfl ?_)
  refine Sat.go (Eq.refl _) (NS.no rfl ?_)
  refine Sat.go (Eq.refl _) (NS.call c1 rfl ?_)
  refine Sat.go (Eq.refl _) (NS.call c2 rfl ?_)
  refine Sat.go (Eq.refl _) (NS.mut 16 (Eq.refl _) rfl c3 rfl ?_)
  rintro ob r ⟨rfl, rfl⟩
  refine Sat.go (Eq.refl _) (NS.no (by rw [hn]; simp) ?_)
  refine Sat.go (Eq.refl _) ?_
  refine NS.loop (σ := { k : Nat // k ≤ n }) (fun k => [(1, .ptr 1 0), (3, .own 14), (25, .own 16), (26, .int .i64 n), (27, .int .i64 k.1)]) (fun k => [(1, .box d.cells), (14, .row 3 1 n (rowL nC L)), (16, .row 3 1 n (rowL nC (upto 0 n)))]) (fun k => n - k.1) ⟨0, Nat.zero_le _⟩ ?_ ?_
  · exact weak_hd [] rfl ⟨rfl, rfl, rfl, rfl, rfl, trivial⟩ ⟨⟨_, rfl, _, _, rfl, rfl, _, _, rfl, rfl, rfl⟩, ren_row rfl rfl fun _ _ _ _ => rfl, ren_row rfl rfl fun _ _ _ _ => rfl, trivial⟩ trivial (by kernel_rfl)
  rintro ⟨k, hk⟩
  refine Sat.go (Eq.refl _) (NS.ite (fun h => ?_) (fun h => ?_))
  · simp at h
    refine Sat.go (Eq.refl _) (NS.need (by simp; omega) ?_)
    refine Sat.go (Eq.refl _) (NS.need (by simp; omega) ?_)
    refine Sat.go (Eq.refl _) (NS.no ?_ ?_)
    · show ((upto 0 n).getD k default != (k : Int)) = false
      rw [upto_getD h]; simp
    refine Sat.go (Eq.refl _) (NS.next ⟨k + 1, by omega⟩ (by simp; omega) ?_)
    exact weak_hd [] rfl ⟨rfl, rfl, rfl, rfl, ren_int rfl (i64_k (k := k) (n := n) (by omega) (by omega)), trivial⟩ ⟨⟨_, rfl, _, _, rfl, rfl, _, _, rfl, rfl, rfl⟩, ren_row rfl rfl fun _ _ _ _ => rfl, ren_row rfl rfl fun _ _ _ _ => rfl, trivial⟩ trivial (by kernel_rfl)
  refine Sat.go (Eq.refl _) (NS.leave rfl (Eq.refl _) ?_)
  refine Sat.go (Eq.refl _) ?_
  refine NS.loop (σ := { k : Nat // k ≤ n }) (fun k => [(1, .ptr 1 0), (3, .own 14), (37, .int .i64 n), (38, .int .i64 k.1)]) (fun k => [(1, .box d.cells), (14, .row 3 1 n (rowL nC L))]) (fun k => n - k.1) ⟨0, Nat.zero_le _⟩ ?_ ?_
  · exact weak_hd [] rfl ⟨rfl, rfl, rfl, rfl, trivial⟩ ⟨⟨_, rfl, _, _, rfl, rfl, _, _, rfl, rfl, rfl⟩, ren_row rfl rfl fun _ _ _ _ => rfl, trivial⟩ trivial (by kernel_rfl)
  rintro ⟨i, hi⟩
  refine Sat.go (Eq.refl _) (NS.ite (fun h2 => ?_) (fun h2 => ?_))
  · simp at h2
    have e1 : IntKind.i64.wrap ((i : Int) + 1) = ((i + 1 : Nat) : Int) := i64_k (k := i) (n := n) (by omega) (by omega)
    refine Sat.go (Eq.refl _) (NS.need (by rw [e1]; simp; omega) ?_)
    rw [e1]
    refine Sat.go (Eq.refl _) ?_
    refine NS.loop (σ := { k : Nat // k ≤ n - (i + 1) }) (fun k => [(1, .ptr 1 0), (3, .own 14), (7, .int .i64 i), (37, .int .i64 n), (38, .int .i64 i), (44, .ov 14 1 (i + 1) (n - (i + 1))), (45, .int .i64 ((n - (i + 1) : Nat) : Int)), (46, .int .i64 k.1)]) (fun k => [(1, .box d.cells), (14, .row 3 1 n (rowL nC L))]) (fun k => (n - (i + 1)) - k.1) ⟨0, Nat.zero_le _⟩ ?_ ?_
    · have e2 : ((n : Int) - ((i + 1 : Nat) : Int)).toNat = n - (i + 1) := by omega
      refine weak_hd [] rfl ⟨rfl, rfl, rfl, rfl, rfl, ?_, ren_int rfl ?_, rfl, trivial⟩ ⟨⟨_, rfl, _, _, rfl, rfl, _, _, rfl, rfl, rfl⟩, ren_row rfl rfl fun _ _ _ _ => rfl, trivial⟩ trivial (by kernel_rfl)
      · exact congrArg (A.ov 14 1 (i + 1)) e2
      · exact congrArg Int.ofNat e2
    rintro ⟨k, hk⟩
    refine Sat.go (Eq.refl _) (NS.ite (fun h3 => ?_) (fun h3 => ?_))
    · simp at h3
      have hx := memD hm (j := i) (by omega)
      have hy := memD hm (j := i + 1 + k) (by omega)
      refine Sat.go (Eq.refl _) (NS.need (by simp; omega) ?_)
      refine Sat.go (Eq.refl _) (NS.need (by simp; omega) ?_)
      refine Sat.go (Eq.refl _) (NS.chk (by kernel_rfl) ?_)
      refine Sat.go (Eq.refl _) (NS.need (decide_eq_true (show 0 ≤ L.getD (i + 1 + k) default ∧ L.getD (i + 1 + k) default < (d.items.length : Int) from ⟨hy.1, by omega⟩)) ?_)
      refine Sat.go (Eq.refl _) (NS.need (by simp; omega) ?_)
      refine Sat.go (Eq.refl _) (NS.need (by simp; omega) ?_)
      refine Sat.go (Eq.refl _) (NS.need (decide_eq_true (show 0 ≤ L.getD i default ∧ L.getD i default < (d.items.length : Int) from ⟨hx.1, by omega⟩)) ?_)
      refine Sat.go (Eq.refl _) (NS.call (lBefore_ok (d.items.getD (L.getD (i + 1 + k) default).toNat default) (d.items.getD (L.getD i default).toNat default)) rfl ?_)
      refine Sat.go (Eq.refl _) (NS.no ?_ ?_)
      · have := List.pairwise_iff_getElem.1 f1 i (i + 1 + k) (by omega) (by omega) (by omega)
        rw [← getD_lt (by omega), ← getD_lt (by omega)] at this
        exact this
      refine Sat.go (Eq.refl _) (NS.next ⟨k + 1, by omega⟩ (by simp; omega) ?_)
      exact weak_hd [] rfl ⟨rfl, rfl, rfl, rfl, rfl, rfl, rfl, ren_int rfl (i64_k (k := k) (n := n) (by omega) (by omega)), trivial⟩ ⟨⟨_, rfl, _, _, rfl, rfl, _, _, rfl, rfl, rfl⟩, ren_row rfl rfl fun _ _ _ _ => rfl, trivial⟩ trivial (by kernel_rfl)
    · refine Sat.go (Eq.refl _) (NS.leave rfl (Eq.refl _) ?_)
      refine Sat.go (Eq.refl _) (NS.next ⟨i + 1, by omega⟩ (by simp; omega) ?_)
      exact weak_hd [] rfl ⟨rfl, rfl, rfl, ren_int rfl e1, trivial⟩ ⟨⟨_, rfl, _, _, rfl, rfl, _, _, rfl, rfl, rfl⟩, ren_row rfl rfl fun _ _ _ _ => rfl, trivial⟩ trivial (by kernel_rfl)
  · refine Sat.go (Eq.refl _) (NS.leave rfl (Eq.refl _) ?_)
    refine Sat.go (Eq.refl _) (NS.call awake_ok rfl ?_)
    exact Sat.go (Eq.refl _) (NS.ret rfl rfl (LeA.of rfl))
end Go.Proofs.Ytkgaaaidmaddnaa
