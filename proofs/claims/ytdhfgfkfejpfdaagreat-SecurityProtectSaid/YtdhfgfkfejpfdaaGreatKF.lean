/- Blocks: searching, taking away, putting. -/
import Derived.Test.YtdhfgfkfejpfdaaGreatKE
set_option linter.unusedSimpArgs false
set_option linter.unusedSectionVars false
set_option linter.unusedVariables false
namespace Go.Mb
open Go.Sy
theorem fndB_idx (l : List Blk) (k : Int) : fndB l k = if idx (fun x => x.kind == k) l < 0 then (default, false) else (l.getD (idx (fun x => x.kind == k) l).toNat default, true) := by
  unfold fndB
  rcases idx_cases (fun x : Blk => x.kind == k) l with ⟨h1, h2⟩ | ⟨i, h1, h2, h3, h4⟩
  · rw [h1, if_pos (by decide), List.find?_eq_none.2 fun x hx => by rw [h2 x hx]; decide]
  · rw [h2, if_neg (by omega)]
    have e : l.find? (fun x => x.kind == k) = some (l.getD i default) := by
      rw [List.find?_eq_some_iff_getElem]
      refine ⟨h3, i, h1, ?_, fun j hj => ?_⟩
      · rw [getD_lt h1]
      · have := h4 j hj
        rw [getD_lt (by omega : j < l.length)] at this
        rw [this]; rfl
    rw [e]
    simp
def fndA (r : Blk × Bool) : A := .tup [.agg r.1.cells, .bool r.2]
def filt (l : List Blk) (p : Blk → Bool) (k : Nat) : List Blk := (l.take k).filter p
theorem filter_snoc {α : Type} [Inhabited α] {p : α → Bool} {l : List α} {k : Nat} (h : k < l.length) : (l.take (k + 1)).filter p = (l.take k).filter p ++ (if p (l.getD k default) then [l.getD k default] else []) := by
  rw [take_snoc h, List.filter_append, List.filter_cons]
  split <;> simp
end Go.Mb
namespace Go.Proofs.YtdhfgfkfejpfdaaGreat
open Go.Sy Go.Mb
set_option maxRecDepth 100000
set_option linter.unusedVariables false
set_option maxHeartbeats 4000000

theorem idxB_ok (l : List Blk) (hl : l.length ≤ 1000000) (f c : Nat) (el : Nat → A) (p : Blk → Bool) (hc : ∀ x, FnOK Tryz.prog f [.agg (Blk.cells x), .ip c el] (.bool (p x), none)) : FnOK Tryz.prog 32 [slBlk l, .fn f [.ip c el]] (.int .i64 (idx p l), none) := by
  refine fn_ok CN rfl (by kernel_rfl) Tryz.func32 rfl ?_
  refine Sat.go (Eq.refl _) ?_
  refine NS.loop (σ := { k : Nat // k ≤ l.length ∧ ∀ i, i < k → p (l.getD i default) = false }) (fun k => [(0, slBlk l), (1, .fn f [.ip c el]), (7, .int .i64 l.length), (8, .int .i64 k.1)]) (fun _ => []) (fun k => l.length - k.1) ⟨0, Nat.zero_le _, fun i hi => by omega⟩ ?_ ?_
  · exact weak_hd [] rfl ⟨rfl, rfl, rfl, rfl, trivial⟩ trivial trivial (by kernel_rfl)
  rintro ⟨k, hk, hn⟩
  refine Sat.go (Eq.refl _) (NS.ite (fun h => ?_) (fun h => ?_))
  · have h : k < l.length := by simpa using h
    repeat' (first | (refine Sat.go (Eq.refl _) (NS.chk (by kernel_rfl) ?_)) | (refine Sat.go (Eq.refl _) (NS.need (by simp; omega) ?_)))
    refine Sat.go (Eq.refl _) (NS.call (hc (l.getD k default)) rfl ?_)
    refine Sat.go (Eq.refl _) (NS.ite (fun h2 => ?_) (fun h2 => ?_))
    · exact Sat.go (Eq.refl _) (NS.leaveOut rfl (Eq.refl _) (NS.ret rfl rfl (LeA.of (congrArg (A.int .i64) ((idx_found (by omega) h2 hn).symm)))))
    · refine Sat.go (Eq.refl _) (NS.next ⟨k + 1, by omega, fun i hi => ?_⟩ (by simp; omega) ?_)
      · by_cases hik : i = k
        · subst hik; exact h2
        · exact hn i (by omega)
      · exact weak_hd [] rfl ⟨rfl, rfl, rfl, ren_int rfl (i64_k (by omega) (by omega)), trivial⟩ trivial trivial (by kernel_rfl)
  · have h : ¬ k < l.length := by simpa using h
    refine Sat.go (Eq.refl _) (NS.leave rfl (Eq.refl _) ?_)
    exact Sat.go (Eq.refl _) (NS.ret rfl rfl (LeA.of (congrArg (A.int .i64) ((idx_none fun i hi => hn i (by omega)).symm))))
theorem find1_ok (k : Int) (x : Blk) : FnOK Tryz.prog 33 [.agg x.cells, .ip 1 (getA [.int .i64 k])] (.bool (x.kind == k), none) := by
  refine fn_ok CN rfl (by kernel_rfl) Tryz.func33 rfl ?_
  exact Sat.go (Eq.refl _) (NS.ret rfl rfl (LeA.refl _))
theorem find_ok (l : List Blk) (hl : l.length ≤ 1000000) (k : Int) : FnOK Tryz.prog 16 [slBlk l, .int .i64 k] (fndA (fndB l k), none) := by
  refine fn_ok CN rfl (by kernel_rfl) Tryz.func16 rfl ?_
  refine Sat.go (Eq.refl _) (NS.call (idxB_ok l hl _ 1 (getA [.int .i64 k]) (fun x => x.kind == k) (find1_ok k)) rfl ?_)
  rw [fndB_idx]
  have hlt := idx_lt (fun x : Blk => x.kind == k) l
  refine Sat.go (Eq.refl _) (NS.ite (fun h => ?_) (fun h => ?_))
  · have h : idx (fun x : Blk => x.kind == k) l < 0 := of_decide_eq_true h
    rw [if_pos h]
    exact Sat.go (Eq.refl _) (NS.ret rfl rfl (LeA.refl _))
  have h : ¬ idx (fun x : Blk => x.kind == k) l < 0 := of_decide_eq_false h
  rw [if_neg h]
  refine Sat.go (Eq.refl _) (NS.need (decide_eq_true (by omega)) ?_)
  exact Sat.go (Eq.refl _) (NS.ret rfl rfl (LeA.refl _))
theorem filter_ok (l : List Blk) (hl : l.length ≤ 1000) (f c : Nat) (el : Nat → A) (p : Blk → Bool) (hc : ∀ x, FnOK Tryz.prog f [.agg (Blk.cells x), .ip c el] (.bool (p x), none)) : FnOK Tryz.prog 37 [slBlk l, .fn f [.ip c el]] (.own 0, some (.row 41 3 (l.filter p).length (rowL Blk.cells (l.filter p)))) := by
  refine fn_ok CN rfl (by kernel_rfl) Tryz.func37 rfl ?_
  refine Sat.go (Eq.refl _) ?_
  refine NS.loop (σ := { k : Nat // k ≤ l.length }) (fun k => [(1, .fn f [.ip c el]), (5, .own 5), (8, slBlk l), (9, .int .i64 l.length), (10, .int .i64 k.1)]) (fun k => [(5, .row 41 3 (filt l p k.1).length (rowL Blk.cells (filt l p k.1)))]) (fun k => l.length - k.1) ⟨0, Nat.zero_le _⟩ ?_ ?_
  · refine (weak_promote 5 5 41 3 (rowL Blk.cells []) rfl rfl).trans ?_
    exact weak_hd [] rfl ⟨rfl, rfl, rfl, rfl, rfl, trivial⟩ ⟨ren_row rfl rfl fun _ _ _ _ => rfl, trivial⟩ trivial (by kernel_rfl)
  rintro ⟨k, hk⟩
  have hk : k ≤ l.length := hk
  have hlen : (filt l p k).length ≤ 1000 := Nat.le_trans (List.length_filter_le _ _) (by simp; omega)
  refine Sat.go (Eq.refl _) (NS.ite (fun a => ?_) (fun a => ?_))
  · have a : k < l.length := by simpa using a
    have e := filter_snoc (p := p) a
    refine Sat.go (Eq.refl _) (NS.need (by simp; omega) ?_)
    refine Sat.go (Eq.refl _) (NS.call (hc (l.getD k default)) rfl ?_)
    refine Sat.go (Eq.refl _) (NS.ite (fun b => ?_) (fun b => ?_))
    · have b : p (l.getD k default) = true := b
      rw [if_pos b] at e
      refine Sat.go (Eq.refl _) (NS.need (decide_eq_true (by simp only [maxRow]; show ((filt l p k).length + 1) * (31 + 1 + 1) ≤ _; omega)) ?_)
      refine Sat.go (Eq.refl _) (NS.next ⟨k + 1, by omega⟩ (by show l.length - (k + 1) < l.length - k; omega) ?_)
      refine weak_hd [(5, 20)] rfl ⟨rfl, rfl, rfl, rfl, ren_int rfl (i64_k (k := k) (n := l.length) a (by omega)), trivial⟩ ⟨?_, trivial⟩ trivial (by kernel_rfl)
      have e : filt l p (k + 1) = filt l p k ++ [l.getD k default] := e
      simp only [e]
      exact ren_row rfl (by rw [List.length_append]; rfl) (fun i hi j hj => row_snoc (cells := Blk.cells) (l := filt l p k) (x := l.getD k default) rfl i (by rw [List.length_append] at hi; exact hi) j hj)
    · have b : p (l.getD k default) = false := b
      rw [if_neg (by rw [b]; simp), List.append_nil] at e
      refine Sat.go (Eq.refl _) (NS.next ⟨k + 1, by omega⟩ (by show l.length - (k + 1) < l.length - k; omega) ?_)
      refine weak_hd [] rfl ⟨rfl, rfl, rfl, rfl, ren_int rfl (i64_k (k := k) (n := l.length) a (by omega)), trivial⟩ ⟨?_, trivial⟩ trivial (by kernel_rfl)
      have e : filt l p (k + 1) = filt l p k := e
      simp only [e]
      exact ren_row rfl rfl fun _ _ _ _ => rfl
  have a : k = l.length := by have a : ¬ k < l.length := by simpa using a
                              omega
  subst a
  have e : filt l p l.length = l.filter p := by unfold filt; rw [List.take_length]
  refine Sat.go (Eq.refl _) (NS.leave rfl (Eq.refl _) ?_)
  refine Sat.go (Eq.refl _) (NS.retRow 5 rfl rfl (LeA.refl _) ⟨rfl, rfl, congrArg List.length e, fun i hi j hj => by rw [← e]⟩ fun _ _ _ _ => flatBlk _ _ _)
theorem remove1_ok (k : Int) (x : Blk) : FnOK Tryz.prog 75 [.agg x.cells, .ip 1 (getA [.int .i64 k])] (.bool (x.kind != k), none) := by
  refine fn_ok CN rfl (by kernel_rfl) Tryz.func75 rfl ?_
  exact Sat.go (Eq.refl _) (NS.ret rfl rfl (LeA.refl _))
theorem removeO_ok (l : List Blk) (hl : l.length ≤ 1000) (k : Int) : FnOK Tryz.prog 57 [slBlk l, .int .i64 k] (.own 0, some (.row 41 3 (remB l k).length (rowL Blk.cells (remB l k)))) := by
  refine fn_ok CN rfl (by kernel_rfl) Tryz.func57 rfl ?_
  refine Sat.go (Eq.refl _) (NS.call (filter_ok l hl _ 1 (getA [.int .i64 k]) (fun x => x.kind != k) (remove1_ok k)) rfl ?_)
  refine Sat.go (Eq.refl _) (NS.retRow 7 rfl rfl (LeA.refl _) ⟨rfl, rfl, rfl, fun _ _ _ _ => rfl⟩ fun _ _ _ _ => flatBlk _ _ _)
theorem remove_ok (l : List Blk) (hl : l.length ≤ 1000) (k : Int) : FnOK Tryz.prog 57 [slBlk l, .int .i64 k] (slBlk (remB l k), none) := (removeO_ok l hl k).frz
end Go.Proofs.YtdhfgfkfejpfdaaGreat
