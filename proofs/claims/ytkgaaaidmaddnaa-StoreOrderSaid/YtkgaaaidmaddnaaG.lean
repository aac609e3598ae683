/- The contracts of copying, adding and taking away items. -/
import Derived.Test.YtkgaaaidmaddnaaF
set_option linter.unusedSimpArgs false
set_option linter.unusedSectionVars false
set_option linter.unusedVariables false
namespace Go.Proofs.Ytkgaaaidmaddnaa
open Go.Sy Go.Mb
set_option maxRecDepth 100000
set_option linter.unusedVariables false
set_option maxHeartbeats 1000000

theorem clone_ok (l : List Itm) (hl : l.length ≤ 1000000) : FnOK Try.prog 23 [slI l] (.own 0, some (.row 36 11 l.length (rowL Itm.cells l))) := by
  refine fn_ok CN rfl (by kernel_rfl) Try.func23 rfl ?_
  have fin : ∀ {t s fr nd}, isV (nx CN t s fr) nd → NS CN (RetP CN [ResultVar.tmp 2] (.own 0, some (.row 36 11 l.length (rowL Itm.cells l)))) nd → Sat CN (RetP CN [ResultVar.tmp 2] (.own 0, some (.row 36 11 l.length (rowL Itm.cells l)))) t s fr := fun h k => Sat.go h k
  refine Sat.go (Eq.refl _) (NS.ite (fun h0 => ?_) (fun h0 => ?_))
  · refine Sat.go (Eq.refl _) (NS.both ?_ ?_)
    · exact Sat.go (Eq.refl _) (NS.retNil (by simpa using h0) rfl rfl)
    · refine Sat.go (Eq.refl _) (NS.need (decide_eq_true (by simp only [maxRow]; omega)) ?_)
      exact Sat.go (Eq.refl _) (NS.retRow 7 rfl rfl (LeA.refl _) ⟨rfl, rfl, by simp, fun i hi j hj => by simp⟩ fun _ _ _ _ => flatI _ _ _)
  · refine Sat.go (Eq.refl _) (NS.need (decide_eq_true (by simp only [maxRow]; omega)) ?_)
    exact Sat.go (Eq.refl _) (NS.retRow 7 rfl rfl (LeA.refl _) ⟨rfl, rfl, by simp, fun i hi j hj => by simp⟩ fun _ _ _ _ => flatI _ _ _)

theorem rClone_ok (l : List Itm) (hl : l.length ≤ 1000000) : FnOK Try.prog 90 [slI l] (.own 0, some (.row 36 11 l.length (rowL Itm.cells l))) := by
  refine fn_ok CN rfl (by kernel_rfl) Try.func90 rfl ?_
  refine Sat.go (Eq.refl _) ?_
  refine NS.loop (σ := { k : Nat // k ≤ l.length }) (fun k => [(0, slI l), (3, .own 3), (4, .int .i64 k.1)]) (fun k => [(3, .row 36 11 (l.take k.1).length (rowL Itm.cells (l.take k.1)))]) (fun k => l.length - k.1) ⟨0, Nat.zero_le _⟩ ?_ ?_
  · exact (weak_promote 3 3 36 11 (rowL Itm.cells []) rfl rfl).trans (weak_hd [] rfl ⟨rfl, rfl, rfl, trivial⟩ ⟨ren_row rfl rfl fun _ _ _ _ => rfl, trivial⟩ trivial (by kernel_rfl))
  · rintro ⟨k, hk⟩
    refine Sat.go (Eq.refl _) (NS.ite (fun h => ?_) (fun h => ?_))
    · simp at h
      have hsn := take_snoc (l := l) (k := k) (by omega)
      have hlen : (l.take k).length = k := by simp; omega
      refine Sat.go (Eq.refl _) (NS.need (by simp; omega) ?_)
      refine Sat.go (Eq.refl _) (NS.need (decide_eq_true (by simp only [maxRow]; omega)) ?_)
      refine Sat.go (Eq.refl _) (NS.next ⟨k + 1, by omega⟩ (by simp; omega) ?_)
      refine weak_hd [(3, 17)] rfl ⟨rfl, rfl, ren_int rfl (i64_k (by omega) (by omega)), trivial⟩ ⟨?_, trivial⟩ trivial (by kernel_rfl)
      rw [hsn]
      exact ren_row rfl (by simp) (fun i hi j hj => row_snoc (cells := Itm.cells) (x := l.getD k default) rfl i (by simpa using hi) j hj)
    · simp at h
      refine Sat.go (Eq.refl _) (NS.leave rfl (Eq.refl _) ?_)
      refine Sat.go (Eq.refl _) (NS.retRow 3 rfl rfl (LeA.refl _) ⟨rfl, rfl, ?_, fun i hi j hj => ?_⟩ fun _ _ _ _ => flatI _ _ _)
      · rw [take_all (by omega)]
      · rw [take_all (by omega)]

def withM (l : List Itm) (x : Itm) : List Itm := if idx (hasId x.id) l ≥ 0 then l else l ++ [x]
theorem with_ok (l : List Itm) (x : Itm) (hl : l.length ≤ 999999) : FnOK Try.prog 81 [slI l, .agg x.cells] (slI (withM l x), none) := by
  refine fn_ok CN rfl (by kernel_rfl) Try.func81 rfl ?_
  refine Sat.go (Eq.refl _) (NS.call (index_ok l x.id (by omega)) rfl ?_)
  refine Sat.go (Eq.refl _) (NS.ite (fun h => ?_) (fun h => ?_))
  · refine Sat.go (Eq.refl _) (NS.ret rfl rfl (LeA.of ?_))
    simp only [decide_eq_true_eq] at h
    unfold withM; rw [if_pos h]; rfl
  · simp only [decide_eq_false_iff_not] at h
    have hw : withM l x = l ++ [x] := by unfold withM; rw [if_neg h]
    refine Sat.go (Eq.refl _) (NS.chk (by kernel_rfl) ?_)
    refine Sat.go (Eq.refl _) (NS.call (clone_ok l (by omega)) rfl ?_)
    refine Sat.go (Eq.refl _) (NS.need (decide_eq_true (by simp only [maxRow]; omega)) ?_)
    rw [hw]
    exact Sat.go (Eq.refl _) (NS.ret rfl rfl (LeA.sl (by simp) (fun i hi j hj => row_snoc (cells := Itm.cells) (x := x) rfl i hi j hj)))

/-- The iterator over the items with other ids. -/
def othersF (l : List Itm) (id : Nid) : A := .fn 111 [.ip 1 (getA [slI l]), .ip 5 (getA id.cells)]
theorem others_ok (l : List Itm) (id : Nid) : FnOK Try.prog 84 [slI l, .agg id.cells] (othersF l id, none) := by
  refine fn_ok CN rfl (by kernel_rfl) Try.func84 rfl ?_
  exact Sat.go (Eq.refl _) (NS.ret rfl rfl (LeA.refl _))

def notId (id : Nid) (x : Itm) : Bool := !hasId id x
theorem filter_snoc {α : Type} [Inhabited α] {p : α → Bool} {l : List α} {k : Nat} (h : k < l.length) : (l.take (k + 1)).filter p = (l.take k).filter p ++ (if p (l.getD k default) then [l.getD k default] else []) := by
  rw [take_snoc h, List.filter_append, List.filter_cons]
  split <;> simp
noncomputable def CO : Cx := { E := EN, inl := [111], ok := EN_ok }
/-- slices.AppendSeq over that iterator. -/
theorem appendSeq_ok (l : List Itm) (id : Nid) (hl : l.length ≤ 1000000) : FnOK Try.prog 110 [.nils, othersF l id] (.own 0, some (.row 36 11 (l.filter (notId id)).length (rowL Itm.cells (l.filter (notId id))))) := by
  refine fn_ok CO rfl (by kernel_rfl) Try.func110 rfl ?_
  refine Sat.go (Eq.refl _) ?_
  refine NS.loop (σ := { k : Nat // k ≤ l.length }) (fun k => [(0, .yld 13), (2, .ip 5 (getA id.cells)), (6, slI l), (7, .int .i64 l.length), (8, .int .i64 k.1)]) (fun k => [(2, .box [.own 14]), (14, .row 36 11 ((l.take k.1).filter (notId id)).length (rowL Itm.cells ((l.take k.1).filter (notId id))))]) (fun k => l.length - k.1) ⟨0, Nat.zero_le _⟩ ?_ ?_
  · exact (weak_promoteB 2 0 14 36 11 (rowL Itm.cells []) rfl rfl rfl).trans (weak_hd [] rfl ⟨rfl, rfl, rfl, rfl, rfl, trivial⟩ ⟨⟨_, rfl, _, _, rfl, rfl, rfl⟩, ren_row rfl rfl fun _ _ _ _ => rfl, trivial⟩ (by repeat' (first | exact trivial | refine ⟨.inr rfl, ?_⟩ | refine ⟨.inl rfl, ?_⟩)) (by kernel_rfl))
  · rintro ⟨k, hk⟩
    have hlen : ((l.take k).filter (notId id)).length ≤ 1000000 := Nat.le_trans (List.length_filter_le _ _) (by simp; omega)
    refine Sat.go (Eq.refl _) (NS.ite (fun h => ?_) (fun h => ?_))
    · simp at h
      have hsn := filter_snoc (p := notId id) (l := l) (k := k) (by omega)
      refine Sat.go (Eq.refl _) (NS.need (by simp; omega) ?_)
      refine Sat.go (Eq.refl _) (NS.ite (fun h3 => ?_) (fun h3 => ?_))
      · have hx : notId id (l.getD k default) = true := h3
        rw [if_pos hx] at hsn
        refine Sat.go (Eq.refl _) (NS.need (decide_eq_true (by simp only [maxRow]; omega)) ?_)
        refine Sat.go (Eq.refl _) (NS.next ⟨k + 1, by omega⟩ (by simp; omega) ?_)
        refine weak_hd [(14, 48)] rfl ⟨rfl, rfl, rfl, rfl, ren_int rfl (i64_k (by omega) (by omega)), trivial⟩ ⟨⟨_, rfl, _, _, rfl, rfl, rfl⟩, ?_, trivial⟩ (by repeat' (first | exact trivial | refine ⟨.inr rfl, ?_⟩ | refine ⟨.inl rfl, ?_⟩)) (by kernel_rfl)
        rw [hsn]
        exact ren_row rfl (by simp) (fun i hi j hj => row_snoc (cells := Itm.cells) (x := l.getD k default) rfl i (by simpa using hi) j hj)
      · have hx : ¬ notId id (l.getD k default) = true := by intro e; rw [show notId id (l.getD k default) = _ from rfl] at e; exact absurd e (by rw [Bool.not_eq_true]; exact h3)
        rw [if_neg hx, List.append_nil] at hsn
        refine Sat.go (Eq.refl _) (NS.next ⟨k + 1, by omega⟩ (by simp; omega) ?_)
        refine weak_hd [] rfl ⟨rfl, rfl, rfl, rfl, ren_int rfl (i64_k (by omega) (by omega)), trivial⟩ ⟨⟨_, rfl, _, _, rfl, rfl, rfl⟩, ?_, trivial⟩ (by repeat' (first | exact trivial | refine ⟨.inr rfl, ?_⟩ | refine ⟨.inl rfl, ?_⟩)) (by kernel_rfl)
        rw [hsn]
        exact ren_row rfl rfl fun _ _ _ _ => rfl
    · simp at h
      refine Sat.go (Eq.refl _) (NS.leave rfl (Eq.refl _) ?_)
      refine Sat.go (Eq.refl _) (NS.retRow 14 rfl rfl (LeA.refl _) ⟨rfl, rfl, ?_, fun i hi j hj => ?_⟩ fun _ _ _ _ => flatI _ _ _)
      · rw [take_all (by omega)]
      · rw [take_all (by omega)]
theorem collect_ok (l : List Itm) (id : Nid) (hl : l.length ≤ 1000000) : FnOK Try.prog 83 [othersF l id] (.own 0, some (.row 36 11 (l.filter (notId id)).length (rowL Itm.cells (l.filter (notId id))))) := by
  refine fn_ok CN rfl (by kernel_rfl) Try.func83 rfl ?_
  refine Sat.go (Eq.refl _) (NS.call (appendSeq_ok l id hl) rfl ?_)
  exact Sat.go (Eq.refl _) (NS.retRow 4 rfl rfl (LeA.refl _) ⟨rfl, rfl, rfl, fun _ _ _ _ => rfl⟩ fun _ _ _ _ => flatI _ _ _)
end Go.Proofs.Ytkgaaaidmaddnaa
