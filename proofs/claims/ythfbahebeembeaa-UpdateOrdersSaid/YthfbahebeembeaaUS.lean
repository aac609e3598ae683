/- Missing. -/
import Derived.Test.YthfbahebeembeaaUQ
set_option linter.unusedSimpArgs false
set_option linter.unusedSectionVars false
set_option linter.unusedVariables false
namespace Go.Mb
open Go.Sy
set_option linter.unusedVariables false
def unkB (v : List Int) (x : Chg) : Bool := decide (x.cnt > v.getD x.org.toNat default)
def missM (h : His) (v : List Int) : List Chg × Int :=
  if chkHi h != 0 then ([], 1) else if (v.length : Int) != h.nodes then ([], 10) else if v.any (fun n => decide (n < 0)) then ([], 2) else (h.l.filter (unkB v), 0)
theorem filter_snoc {α : Type} [Inhabited α] {p : α → Bool} {l : List α} {k : Nat} (h : k < l.length) : (l.take (k + 1)).filter p = (l.take k).filter p ++ (if p (l.getD k default) then [l.getD k default] else []) := by
  rw [take_snoc h, List.filter_append, List.filter_cons]
  split <;> simp
theorem row_put1 {α : Type} [Inhabited α] {cells : α → List A} {c : Nat} {r s : List α} {x : α} {cs : List A} (hs : s = r ++ [x]) (hcs : cs = cells x) : ∀ i, i < r.length + 1 → ∀ j, j < c → (if i < r.length then rowL cells r i j else getA cs ((i - r.length) * c + j)) = rowL cells s i j := by
  subst hs; exact row_snoc hcs
theorem ren_b {σ : Nat → Nat} {n m : Bool} {b : A} (h : b = .bool n ∨ b = .kb n) (e : n = m) : RenA σ (.bool m) b := by subst e; exact h
theorem any_snoc {α : Type} [Inhabited α] {p : α → Bool} {l : List α} {k : Nat} (h : k < l.length) : (l.take (k + 1)).any p = ((l.take k).any p || p (l.getD k default)) := by
  rw [take_snoc h, List.any_append]; simp
end Go.Mb
namespace Go.Proofs.Ythfbahebeembeaa
open Go.Sy Go.Mb
set_option maxRecDepth 100000
set_option linter.unusedVariables false
set_option maxHeartbeats 4000000
/-- A result that is a list of changes with an error. -/
def lisR (r : List Chg × Int) : A := .tup [slChg r.1, .int .i64 r.2]
theorem lisR_le {x : A} {l : List Chg} {e : Int} (h : LeA x (slChg l)) : LeA (.tup [x, .int .i64 e]) (lisR (l, e)) := LeA.tup2 h (LeA.refl _)
theorem neg_ok (n : Int) : FnOK Try.prog 76 [.int .i64 n] (.bool (decide (n < 0)), none) := by
  refine fn_ok CN rfl (by kernel_rfl) Try.func76 rfl ?_
  exact Sat.go (Eq.refl _) (NS.ret rfl rfl (LeA.refl _))
def unkF (h : His) (v : List Int) : A := .fn 94 [.ip 2 (getA h.cells), .ip 1 (getA [slN v])]
theorem unknown_ok (h : His) (v : List Int) : FnOK Try.prog 78 [.agg h.cells, slN v] (unkF h v, none) := by
  refine fn_ok CN rfl (by kernel_rfl) Try.func78 rfl ?_
  exact Sat.go (Eq.refl _) (NS.ret rfl rfl (LeA.refl _))
noncomputable def CU : Cx := { E := EN, inl := [94], ok := EN_ok }
theorem appendSeq_ok (h : His) (v : List Int) (g : GoodH h.nodes h.l) (hv : (v.length : Int) = h.nodes) (hl : h.l.length ≤ 1000000) : FnOK Try.prog 93 [.nils, unkF h v] (.own 0, some (.row 52 11 (h.l.filter (unkB v)).length (rowL Chg.cells (h.l.filter (unkB v))))) := by
  refine fn_ok CU rfl (by kernel_rfl) Try.func93 rfl ?_
  refine Sat.go (Eq.refl _) ?_
  refine NS.loop (σ := { k : Nat // k ≤ h.l.length }) (fun k => [(0, .yld 13), (2, .ip 1 (getA [slN v])), (7, slChg h.l), (8, .int .i64 h.l.length), (9, .int .i64 k.1)]) (fun k => [(2, .box [.own 14]), (14, .row 52 11 ((h.l.take k.1).filter (unkB v)).length (rowL Chg.cells ((h.l.take k.1).filter (unkB v))))]) (fun k => h.l.length - k.1) ⟨0, Nat.zero_le _⟩ ?_ ?_
  · refine (weak_promoteB 2 0 14 52 11 (rowL Chg.cells []) rfl rfl rfl).trans ?_
    exact weak_hd [] rfl ⟨rfl, rfl, rfl, rfl, rfl, trivial⟩ ⟨⟨_, rfl, _, _, rfl, rfl, rfl⟩, ren_row rfl rfl fun _ _ _ _ => rfl, trivial⟩ (by repeat' (first | exact trivial | refine ⟨.inr rfl, ?_⟩ | refine ⟨.inl rfl, ?_⟩)) (by kernel_rfl)
  rintro ⟨k, hk⟩
  have hlen : ((h.l.take k).filter (unkB v)).length ≤ 1000000 := Nat.le_trans (List.length_filter_le _ _) (by simp; omega)
  refine Sat.go (Eq.refl _) (NS.ite (fun a => ?_) (fun a => ?_))
  · have a : k < h.l.length := by simpa using a
    have hsn := filter_snoc (p := unkB v) a
    have hx := (validX_iff.1 (g.v k a)).1
    repeat' (first | (refine Sat.go (Eq.refl _) (NS.chk (by kernel_rfl) ?_)) | (refine Sat.go (Eq.refl _) (NS.need (by simp only [Int.toNat_natCast, decide_eq_true_eq]; omega) ?_)))
    refine Sat.go (Eq.refl _) (NS.ite (fun b => ?_) (fun b => ?_))
    · have b : unkB v (h.l.getD k default) = true := b
      rw [if_pos b] at hsn
      refine Sat.go (Eq.refl _) (NS.need (decide_eq_true (by simp only [maxRow]; omega)) ?_)
      refine Sat.go (Eq.refl _) (NS.next ⟨k + 1, a⟩ (by simp; omega) ?_)
      refine weak_hd [(14, 53)] rfl ⟨rfl, rfl, rfl, rfl, ren_int rfl (i64_k (k := k) (n := h.l.length) a (by omega)), trivial⟩ ⟨⟨_, rfl, _, _, rfl, rfl, rfl⟩, ?_, trivial⟩ (by repeat' (first | exact trivial | refine ⟨.inr rfl, ?_⟩ | refine ⟨.inl rfl, ?_⟩)) (by kernel_rfl)
      exact ren_row rfl (by rw [hsn]; simp) fun i hi j hj => row_put1 hsn rfl i (by rw [hsn] at hi; simpa using hi) j hj
    · have b : ¬ unkB v (h.l.getD k default) = true := by rw [show unkB v (h.l.getD k default) = false from b]; simp
      rw [if_neg b, List.append_nil] at hsn
      refine Sat.go (Eq.refl _) (NS.next ⟨k + 1, a⟩ (by simp; omega) ?_)
      refine weak_hd [] rfl ⟨rfl, rfl, rfl, rfl, ren_int rfl (i64_k (k := k) (n := h.l.length) a (by omega)), trivial⟩ ⟨⟨_, rfl, _, _, rfl, rfl, rfl⟩, ?_, trivial⟩ (by repeat' (first | exact trivial | refine ⟨.inr rfl, ?_⟩ | refine ⟨.inl rfl, ?_⟩)) (by kernel_rfl)
      rw [hsn]
      exact ren_row rfl rfl fun _ _ _ _ => rfl
  · have a : h.l.length ≤ k := by simpa using a
    refine Sat.go (Eq.refl _) (NS.leave rfl (Eq.refl _) ?_)
    refine Sat.go (Eq.refl _) (NS.retRow 14 rfl rfl (LeA.refl _) ⟨rfl, rfl, by rw [take_all a], fun i hi j hj => by rw [take_all a]⟩ fun _ _ _ _ => flatChg _ _ _)
theorem collect_ok (h : His) (v : List Int) (g : GoodH h.nodes h.l) (hv : (v.length : Int) = h.nodes) (hl : h.l.length ≤ 1000000) : FnOK Try.prog 77 [unkF h v] (slChg (h.l.filter (unkB v)), none) := by
  refine FnOK.frz (e := 52) ?_
  refine fn_ok CN rfl (by kernel_rfl) Try.func77 rfl ?_
  refine Sat.go (Eq.refl _) (NS.call (appendSeq_ok h v g hv hl) rfl ?_)
  refine Sat.go (Eq.refl _) (NS.retRow 4 rfl rfl (LeA.refl _) ⟨rfl, rfl, rfl, fun _ _ _ _ => rfl⟩ fun _ _ _ _ => flatChg _ _ _)
theorem missing_ok (h : His) (v : List Int) (hl : h.l.length ≤ 1000000) (hvl : v.length ≤ 1000000) : FnOK Try.prog 39 [.agg h.cells, slN v] (lisR (missM h v), none) := by
  have h0 : ∀ r, r = missM h v → FnOK Try.prog 39 [.agg h.cells, slN v] (lisR r, none) := by
    intro r hr
    refine fn_ok CN rfl (by kernel_rfl) Try.func39 rfl ?_
    refine Sat.go (Eq.refl _) (NS.call (check_ok h) rfl ?_)
    refine Sat.go (Eq.refl _) (NS.ite (fun h1 => ?_) (fun h1 => ?_))
    · rw [hr]; unfold missM; rw [if_pos h1]
      exact Sat.go (Eq.refl _) (NS.ret rfl rfl (lisR_le nil_chg))
    have g := chkHi_good (h := h) (by simpa using h1)
    have h1 : ¬ (chkHi h != 0) = true := by rw [show (chkHi h != 0) = false from h1]; simp
    refine Sat.go (Eq.refl _) (NS.ite (fun h2 => ?_) (fun h2 => ?_))
    · rw [hr]; unfold missM; rw [if_neg h1, if_pos h2]
      exact Sat.go (Eq.refl _) (NS.ret rfl rfl (lisR_le nil_chg))
    have hv : (v.length : Int) = h.nodes := by simpa using h2
    have h2 : ¬ ((v.length : Int) != h.nodes) = true := by rw [hv]; simp
    refine Sat.go (Eq.refl _) (NS.call (anyV_ok v hvl 76 (fun n => decide (n < 0)) neg_ok) rfl ?_)
    refine Sat.go (Eq.refl _) (NS.ite (fun h3 => ?_) (fun h3 => ?_))
    · rw [hr]; unfold missM; rw [if_neg h1, if_neg h2, if_pos h3]
      exact Sat.go (Eq.refl _) (NS.ret rfl rfl (lisR_le nil_chg))
    have h3 : ¬ v.any (fun n => decide (n < 0)) = true := by rw [show v.any (fun n => decide (n < 0)) = false from h3]; simp
    refine Sat.go (Eq.refl _) (NS.call (unknown_ok h v) rfl ?_)
    refine Sat.go (Eq.refl _) (NS.call (collect_ok h v g hv hl) rfl ?_)
    rw [hr]; unfold missM; rw [if_neg h1, if_neg h2, if_neg h3]
    exact Sat.go (Eq.refl _) (NS.ret rfl rfl (LeA.refl _))
  exact h0 _ rfl
theorem rMissing_ok (h : His) (v : List Int) (hl : h.l.length ≤ 1000000) (hvl : v.length ≤ 1000000) : FnOK Try.prog 40 [.agg h.cells, slN v] (lisR (missM h v), none) := by
  have h0 : ∀ r, r = missM h v → FnOK Try.prog 40 [.agg h.cells, slN v] (lisR r, none) := by
    intro r hr
    refine fn_ok CN rfl (by kernel_rfl) Try.func40 rfl ?_
    refine Sat.go (Eq.refl _) (NS.call (rCheck_ok h) rfl ?_)
    refine Sat.go (Eq.refl _) (NS.ite (fun h1 => ?_) (fun h1 => ?_))
    · rw [hr]; unfold missM; rw [if_pos h1]
      exact Sat.go (Eq.refl _) (NS.ret rfl rfl (lisR_le nil_chg))
    have g := chkHi_good (h := h) (by simpa using h1)
    have h1 : ¬ (chkHi h != 0) = true := by rw [show (chkHi h != 0) = false from h1]; simp
    refine Sat.go (Eq.refl _) (NS.ite (fun h2 => ?_) (fun h2 => ?_))
    · rw [hr]; unfold missM; rw [if_neg h1, if_pos h2]
      exact Sat.go (Eq.refl _) (NS.ret rfl rfl (lisR_le nil_chg))
    have hv : (v.length : Int) = h.nodes := by simpa using h2
    have h2 : ¬ ((v.length : Int) != h.nodes) = true := by rw [hv]; simp
    refine Sat.go (Eq.refl _) ?_
    refine NS.loop (σ := { k : Nat // k ≤ v.length ∧ ∀ i, i < k → decide (v.getD i default < 0) = false }) (fun k => [(1, slN v), (2, .ptr 2 0), (6, .int .i64 k.1)]) (fun k => [(2, .box h.cells)]) (fun k => v.length - k.1) ⟨0, Nat.zero_le _, fun i hi => by omega⟩ ?_ ?_
    · exact weak_hd [] rfl ⟨rfl, rfl, rfl, trivial⟩ ⟨⟨_, rfl, renHis _ _⟩, trivial⟩ trivial (by kernel_rfl)
    rintro ⟨k, hk, hn⟩
    refine Sat.go (Eq.refl _) (NS.ite (fun a => ?_) (fun a => ?_))
    · have a : k < v.length := by simpa using a
      refine Sat.go (Eq.refl _) (NS.need (by simp; omega) ?_)
      refine Sat.go (Eq.refl _) (NS.ite (fun b => ?_) (fun b => ?_))
      · have b : decide (v.getD k default < 0) = true := b
        have h3 : v.any (fun n => decide (n < 0)) = true := List.any_eq_true.2 ⟨v.getD k default, by rw [getD_lt a]; exact List.getElem_mem _, b⟩
        rw [hr]; unfold missM; rw [if_neg h1, if_neg h2, if_pos h3]
        exact Sat.go (Eq.refl _) (NS.leaveOut rfl (Eq.refl _) (NS.ret rfl rfl (lisR_le nil_chg)))
      · refine Sat.go (Eq.refl _) (NS.next ⟨k + 1, by omega, fun i hi => ?_⟩ (by simp; omega) ?_)
        · by_cases hik : i = k
          · subst hik; exact b
          · exact hn i (by omega)
        · exact weak_hd [] rfl ⟨rfl, rfl, ren_int rfl (i64_k (by omega) (by omega)), trivial⟩ ⟨⟨_, rfl, renHis _ _⟩, trivial⟩ trivial (by kernel_rfl)
    have a : v.length ≤ k := by simpa using a
    have h3 : ¬ v.any (fun n => decide (n < 0)) = true := by
      rw [Bool.not_eq_true, List.any_eq_false]
      intro x hx
      obtain ⟨i, hi, rfl⟩ := List.getElem_of_mem hx
      have := hn i (by show i < k; omega)
      rw [getD_lt hi] at this
      rw [this]; simp
    refine Sat.go (Eq.refl _) (NS.leave rfl (Eq.refl _) ?_)
    rw [hr]; unfold missM; rw [if_neg h1, if_neg h2, if_neg h3]
    refine Sat.go (Eq.refl _) ?_
    refine NS.loop (σ := { k : Nat // k ≤ h.l.length }) (fun k => [(1, slN v), (2, .ptr 2 0), (7, .own 7), (8, .int .i64 k.1)]) (fun k => [(2, .box h.cells), (7, .row 52 11 ((h.l.take k.1).filter (unkB v)).length (rowL Chg.cells ((h.l.take k.1).filter (unkB v))))]) (fun k => h.l.length - k.1) ⟨0, Nat.zero_le _⟩ ?_ ?_
    · refine (weak_promote 7 7 52 11 (rowL Chg.cells []) rfl rfl).trans ?_
      exact weak_hd [] rfl ⟨rfl, rfl, rfl, rfl, trivial⟩ ⟨⟨_, rfl, renHis _ _⟩, ren_row rfl rfl fun _ _ _ _ => rfl, trivial⟩ trivial (by kernel_rfl)
    rintro ⟨k, hk⟩
    have hlen : ((h.l.take k).filter (unkB v)).length ≤ 1000000 := Nat.le_trans (List.length_filter_le _ _) (by simp; omega)
    refine Sat.go (Eq.refl _) (NS.ite (fun a => ?_) (fun a => ?_))
    · have a : k < h.l.length := by simpa using a
      have hsn := filter_snoc (p := unkB v) a
      have hx := (validX_iff.1 (g.v k a)).1
      repeat' (first | (refine Sat.go (Eq.refl _) (NS.chk (by kernel_rfl) ?_)) | (refine Sat.go (Eq.refl _) (NS.need (by simp only [Int.toNat_natCast, decide_eq_true_eq]; omega) ?_)))
      refine Sat.go (Eq.refl _) (NS.ite (fun b => ?_) (fun b => ?_))
      · have b : unkB v (h.l.getD k default) = true := b
        rw [if_pos b] at hsn
        refine Sat.go (Eq.refl _) (NS.need (by simp; omega) ?_)
        refine Sat.go (Eq.refl _) (NS.need (decide_eq_true (by simp only [maxRow]; omega)) ?_)
        refine Sat.go (Eq.refl _) (NS.next ⟨k + 1, a⟩ (by simp; omega) ?_)
        refine weak_hd [(7, 58)] rfl ⟨rfl, rfl, rfl, ren_int rfl (i64_k (k := k) (n := h.l.length) a (by omega)), trivial⟩ ⟨⟨_, rfl, renHis _ _⟩, ?_, trivial⟩ trivial (by kernel_rfl)
        exact ren_row rfl (by rw [hsn]; simp) fun i hi j hj => row_put1 hsn rfl i (by rw [hsn] at hi; simpa using hi) j hj
      · have b : ¬ unkB v (h.l.getD k default) = true := by rw [show unkB v (h.l.getD k default) = false from b]; simp
        rw [if_neg b, List.append_nil] at hsn
        refine Sat.go (Eq.refl _) (NS.next ⟨k + 1, a⟩ (by simp; omega) ?_)
        refine weak_hd [] rfl ⟨rfl, rfl, rfl, ren_int rfl (i64_k (k := k) (n := h.l.length) a (by omega)), trivial⟩ ⟨⟨_, rfl, renHis _ _⟩, ?_, trivial⟩ trivial (by kernel_rfl)
        rw [hsn]
        exact ren_row rfl rfl fun _ _ _ _ => rfl
    · have a : h.l.length ≤ k := by simpa using a
      refine Sat.go (Eq.refl _) (NS.leave rfl (Eq.refl _) ?_)
      exact Sat.go (Eq.refl _) (NS.ret rfl rfl (lisR_le (LeA.sl (by show ((h.l.take k).filter (unkB v)).length = _; rw [take_all a]) fun i hi j hj => by rw [take_all a])))
  exact h0 _ rfl
end Go.Proofs.Ythfbahebeembeaa
