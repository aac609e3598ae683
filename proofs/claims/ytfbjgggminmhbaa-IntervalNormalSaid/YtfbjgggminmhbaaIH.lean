/- The walk of combining. -/
import Derived.Test.YtfbjgggminmhbaaIG
set_option linter.unusedSimpArgs false
set_option linter.unusedSectionVars false
set_option linter.unusedVariables false
namespace Go.Proofs.Ytfbjgggminmhbaa
open Go.Sy Go.Mb
set_option maxRecDepth 100000
set_option linter.unusedVariables false
set_option maxHeartbeats 4000000

noncomputable def CC : Cx := { E := EN, inl := [60, 62], ok := EN_ok }
theorem nxP_t {l : List Spn} {p : Nat} (h : p < 2 * l.length) : nxP l p = ((flatS l).getD p default, true) := by unfold nxP; rw [if_pos h]
theorem nxP_f {l : List Spn} {p : Nat} (h : ¬ p < 2 * l.length) : nxP l p = (0, false) := by unfold nxP; rw [if_neg h]
theorem next_t {l : List Spn} {p : Nat} (h : p < 2 * l.length) (hl : l.length ≤ 1000000) : FnOK Try.prog 61 [.ip 3 (getA (sideC l p))] (.tup [.int .i64 ((flatS l).getD p default), .bool true], none) := by
  have := next_ok l p (by omega) hl
  rw [nxP_t h] at this; exact this
theorem next_f {l : List Spn} {p : Nat} (hp : p ≤ 2 * l.length) (h : ¬ p < 2 * l.length) (hl : l.length ≤ 1000000) : FnOK Try.prog 61 [.ip 3 (getA (sideC l p))] (.tup [.int .i64 0, .bool false], none) := by
  have := next_ok l p hp hl
  rw [nxP_f h] at this; exact this
theorem combM_bad {f : Bool → Bool → Bool} {a b : List Spn} (h : (chkS a != 0) = true ∨ (chkS b != 0) = true) : combM f a b = ([], 1) := by
  unfold combM; rw [if_pos (by rcases h with h | h <;> rw [h] <;> simp)]
theorem combM_go {f : Bool → Bool → Bool} {a b : List Spn} (h : (chkS a != 0) = false) (h' : (chkS b != 0) = false) : combM f a b = if (combL f a b).length > 1000 then ([], 4) else (combL f a b, 0) := by
  unfold combM; rw [if_neg (by rw [h, h']; simp)]
theorem half_odd {p n : Nat} (h : odd p = true) (hn : n ≤ 1000000) (hp : p ≤ 2 * n) : IntKind.i64.wrap (((p / 2 : Nat) : Int) + 1) = (((p + 1) / 2 : Nat) : Int) := by
  have : p % 2 = 1 := by simpa [odd] using h
  rw [wrap_i64 (by omega) (by omega)]; omega
theorem half_even {p : Nat} (h : odd p = false) : ((p / 2 : Nat) : Int) = (((p + 1) / 2 : Nat) : Int) := by
  have : ¬ p % 2 = 1 := by simpa [odd] using h
  omega
theorem not_odd (p : Nat) : (!odd p) = odd (p + 1) := (odd_s p).symm

theorem emit_app {o n : Bool} {t : Int} {r : List Int} (h : odd r.length = o) (hn : n = true) (ho : (!odd r.length) = true) : emit o n t r = r ++ [t] := by
  unfold emit; rw [← h, hn, not_t ho]; rfl
theorem emit_set {o n : Bool} {t : Int} {r : List Int} (h : odd r.length = o) (hn : n = false) (ho : odd r.length = true) : emit o n t r = r ++ [t] := by
  unfold emit; rw [← h, hn, ho]; rfl
theorem emit_same1 {o n : Bool} {t : Int} {r : List Int} (h : odd r.length = o) (hn : n = true) (ho : (!odd r.length) = false) : emit o n t r = r := by
  unfold emit; rw [← h, hn, not_f ho]; rfl
theorem emit_same0 {o n : Bool} {t : Int} {r : List Int} (h : odd r.length = o) (hn : n = false) (ho : odd r.length = false) : emit o n t r = r := by
  unfold emit; rw [← h, hn, ho]; rfl
theorem combineUnion_ok (a b : List Spn) : FnOK Try.prog 35 [slS a, slS b, .fn 36 []] (.tup [slS (combM fU a b).1, .int .i64 (combM fU a b).2], none) := by
  refine fn_ok CC rfl (by kernel_rfl) Try.func35 rfl ?_
  refine Sat.go (Eq.refl _) (NS.call (check_ok a) rfl ?_)
  refine Sat.go (Eq.refl _) (NS.ite (fun h0 => ?_) (fun h0 => ?_))
  · exact Sat.go (Eq.refl _) (NS.ret rfl rfl (nrm_le (l := []) (combM_bad (.inl h0)) (LeA.nil' rfl)))
  refine Sat.go (Eq.refl _) (NS.call (check_ok b) rfl ?_)
  refine Sat.go (Eq.refl _) (NS.ite (fun h1 => ?_) (fun h1 => ?_))
  · exact Sat.go (Eq.refl _) (NS.ret rfl rfl (nrm_le (l := []) (combM_bad (.inr h1)) (LeA.nil' rfl)))
  have ha := (chkS_none (chk_z h0)).2
  have hb := (chkS_none (chk_z h1)).2
  have hm := combM_go (f := fU) h0 h1
  refine Sat.go (Eq.refl _) (NS.call (points_ok a b) rfl ?_)
  refine Sat.go (Eq.refl _) (NS.chk (by kernel_rfl) ?_)
  refine Sat.go (Eq.refl _) ?_
  refine NS.loop (σ := { s : Nat × Nat × List Int // Inv fU a b s.1 s.2.1 s.2.2 }) (fun s => [(0, .yld 61), (4, .ptr 75 0), (5, .ptr 78 0)]) (fun s => [(8, .box [.own 62]), (9, .box [.bool (odd s.1.2.2.length)]), (62, .row 24 2 (pairS s.1.2.2).length (rowL Spn.cells (pairS s.1.2.2))), (75, .box (sideC a s.1.1)), (78, .box (sideC b s.1.2.1))]) (fun s => 2 * a.length + 2 * b.length - s.1.1 - s.1.2.1) ⟨(0, 0, []), Inv.start rfl a b⟩ ?_ ?_
  · exact (weak_promoteB 8 0 62 24 2 (rowL Spn.cells []) rfl rfl rfl).trans (weak_hd [] rfl ⟨rfl, rfl, rfl, trivial⟩ ⟨⟨_, rfl, _, _, rfl, rfl, rfl⟩, ⟨_, rfl, _, _, rfl, ren_kb rfl rfl, rfl⟩, ren_row rfl rfl fun _ _ _ _ => rfl, ⟨_, rfl, _, _, rfl, rfl, _, _, rfl, ren_int rfl (by simp), _, _, rfl, ren_bool rfl rfl, rfl⟩, ⟨_, rfl, _, _, rfl, rfl, _, _, rfl, ren_int rfl (by simp), _, _, rfl, ren_bool rfl rfl, rfl⟩, trivial⟩ (by repeat' (first | exact trivial | refine ⟨.inr rfl, ?_⟩ | refine ⟨.inl rfl, ?_⟩)) (by kernel_rfl))
  rintro ⟨⟨p, q, r⟩, inv⟩
  simp only at inv
  have hp := inv.hp
  have hq := inv.hq
  by_cases h2 : p < 2 * a.length
  · refine Sat.go (Eq.refl _) (NS.call (next_t h2 (by omega)) rfl ?_)
    by_cases h3 : q < 2 * b.length
    · refine Sat.go (Eq.refl _) (NS.call (next_t h3 (by omega)) rfl ?_)
      refine Sat.go (Eq.refl _) (NS.no rfl ?_)
      refine Sat.go (Eq.refl _) (NS.no rfl ?_)
      refine Sat.go (Eq.refl _) (NS.yes rfl ?_)
      refine Sat.go (Eq.refl _) (NS.ite (fun h4 => ?_) (fun h4 => ?_))
      · have h4 : ((flatS b).getD q default) < ((flatS a).getD p default) := of_decide_eq_true h4
        have i2 := inv.gt h2 h3 h4
        refine Sat.go (Eq.refl _) (NS.call (next_t h2 (by omega)) rfl ?_)
        refine Sat.go (Eq.refl _) (NS.no rfl ?_)
        refine Sat.go (Eq.refl _) (NS.yes (bne_iff_ne.2 (show ((flatS a).getD p default) ≠ ((flatS b).getD q default) by omega)) ?_)
        refine Sat.go (Eq.refl _) (NS.call (next_t h3 (by omega)) rfl ?_)
        refine Sat.go (Eq.refl _) (NS.no rfl ?_)
        refine Sat.go (Eq.refl _) (NS.no (bne_eq_false_iff_eq.2 rfl) ?_)
        refine Sat.go (Eq.refl _) (NS.ite (fun hy => ?_) (fun hy => ?_))
        · have hy : odd q = true := hy
          refine Sat.go (Eq.refl _) (NS.chk (by kernel_rfl) ?_)
          refine Sat.go (Eq.refl _) (NS.yes rfl ?_)
          refine Sat.go (Eq.refl _) (NS.no rfl ?_)
          refine Sat.go (Eq.refl _) (NS.yes rfl ?_)
          refine Sat.go (Eq.refl _) (NS.call (bUnion_ok (odd p) (!odd q)) rfl ?_)
          refine Sat.go (Eq.refl _) (NS.ite (fun n1 => ?_) (fun n1 => ?_))
          · refine Sat.go (Eq.refl _) (NS.ite (fun n2 => ?_) (fun n2 => ?_))
            · have n2 : (!odd r.length) = true := n2
              rw [emit_app inv.par n1 n2] at i2
              have hpar : fU (odd p) (!odd q) = odd (r ++ [((flatS b).getD q default)]).length := by rw [i2.par]; simp only [odd_s]
              refine Sat.go (Eq.refl _) (NS.need (decide_eq_true (by show ((pairS r).length + 1) * _ ≤ _; simp only [maxRow]; rw [pair_len]; have := inv.len; omega)) ?_)
              refine Sat.go (Eq.refl _) (NS.next ⟨(p, (q + 1), r ++ [((flatS b).getD q default)]), i2⟩ (by simp only; omega) ?_)
              refine weak_hd [(62, 168)] rfl ⟨rfl, rfl, rfl, trivial⟩ ⟨⟨_, rfl, _, _, rfl, rfl, rfl⟩, ⟨_, rfl, _, _, rfl, ren_bool rfl hpar, rfl⟩, ren_row rfl (by show (pairS r).length + 1 = (pairS (r ++ [((flatS b).getD q default)])).length; rw [pair_even r _ (not_t n2)]; simp) fun i hi j hj => ?_, ⟨_, rfl, _, _, rfl, rfl, _, _, rfl, ren_int rfl rfl, _, _, rfl, ren_bool rfl rfl, rfl⟩, ⟨_, rfl, _, _, rfl, rfl, _, _, rfl, ren_int rfl (half_odd hy (by omega) hq), _, _, rfl, ren_bool rfl (not_odd q), rfl⟩, trivial⟩ (by repeat' (first | exact trivial | refine ⟨.inr rfl, ?_⟩ | refine ⟨.inl rfl, ?_⟩)) (by kernel_rfl)
              have hi : i < (pairS (r ++ [((flatS b).getD q default)])).length := hi
              show _ = rowL Spn.cells (pairS (r ++ [((flatS b).getD q default)])) i j
              rw [pair_even r _ (not_t n2)] at hi ⊢
              exact row_snoc (cells := Spn.cells) (l := pairS r) (x := ⟨((flatS b).getD q default), 0⟩) rfl i (by simpa using hi) j hj
            · have n2 : (!odd r.length) = false := n2
              refine Sat.go (Eq.refl _) (NS.no (by rw [n1]; rfl) ?_)
              rw [emit_same1 inv.par n1 n2] at i2
              have hpar : fU (odd p) (!odd q) = odd (r).length := by rw [i2.par]; simp only [odd_s]
              refine Sat.go (Eq.refl _) (NS.next ⟨(p, (q + 1), r), i2⟩ (by simp only; omega) ?_)
              exact weak_hd [] rfl ⟨rfl, rfl, rfl, trivial⟩ ⟨⟨_, rfl, _, _, rfl, rfl, rfl⟩, ⟨_, rfl, _, _, rfl, ren_bool rfl hpar, rfl⟩, ren_row rfl rfl fun _ _ _ _ => rfl, ⟨_, rfl, _, _, rfl, rfl, _, _, rfl, ren_int rfl rfl, _, _, rfl, ren_bool rfl rfl, rfl⟩, ⟨_, rfl, _, _, rfl, rfl, _, _, rfl, ren_int rfl (half_odd hy (by omega) hq), _, _, rfl, ren_bool rfl (not_odd q), rfl⟩, trivial⟩ (by repeat' (first | exact trivial | refine ⟨.inr rfl, ?_⟩ | refine ⟨.inl rfl, ?_⟩)) (by kernel_rfl)
          · refine Sat.go (Eq.refl _) (NS.yes (by rw [n1]; rfl) ?_)
            refine Sat.go (Eq.refl _) (NS.ite (fun n2 => ?_) (fun n2 => ?_))
            · have n2 : odd r.length = true := n2
              rw [emit_set inv.par n1 n2] at i2
              have hpar : fU (odd p) (!odd q) = odd (r ++ [((flatS b).getD q default)]).length := by rw [i2.par]; simp only [odd_s]
              obtain ⟨hod, hlen⟩ := pair_odd r ((flatS b).getD q default) n2
              have e1 : IntKind.i64.wrap (((pairS r).length : Int) - 1) = (((pairS r).length - 1 : Nat) : Int) := by have := inv.len; have := pair_len r; rw [wrap_i64 (by omega) (by omega)]; omega
              refine Sat.go (Eq.refl _) (NS.need (by rw [e1]; simp; omega) ?_)
              rw [e1]
              refine Sat.go (Eq.refl _) (NS.need (by simp; omega) ?_)
              refine Sat.go (Eq.refl _) (NS.next ⟨(p, (q + 1), r ++ [((flatS b).getD q default)]), i2⟩ (by simp only; omega) ?_)
              refine weak_hd [] rfl ⟨rfl, rfl, rfl, trivial⟩ ⟨⟨_, rfl, _, _, rfl, rfl, rfl⟩, ⟨_, rfl, _, _, rfl, ren_bool rfl hpar, rfl⟩, ren_row rfl (by show (pairS r).length = (pairS (r ++ [((flatS b).getD q default)])).length; rw [hod]; simp) fun i hi j hj => ?_, ⟨_, rfl, _, _, rfl, rfl, _, _, rfl, ren_int rfl rfl, _, _, rfl, ren_bool rfl rfl, rfl⟩, ⟨_, rfl, _, _, rfl, rfl, _, _, rfl, ren_int rfl (half_odd hy (by omega) hq), _, _, rfl, ren_bool rfl (not_odd q), rfl⟩, trivial⟩ (by repeat' (first | exact trivial | refine ⟨.inr rfl, ?_⟩ | refine ⟨.inl rfl, ?_⟩)) (by kernel_rfl)
              show _ = rowL Spn.cells (pairS (r ++ [((flatS b).getD q default)])) i j
              rw [hod]
              exact row_hi (pairS r) (by omega) rfl i j hj
            · have n2 : odd r.length = false := n2
              rw [emit_same0 inv.par n1 n2] at i2
              have hpar : fU (odd p) (!odd q) = odd (r).length := by rw [i2.par]; simp only [odd_s]
              refine Sat.go (Eq.refl _) (NS.next ⟨(p, (q + 1), r), i2⟩ (by simp only; omega) ?_)
              exact weak_hd [] rfl ⟨rfl, rfl, rfl, trivial⟩ ⟨⟨_, rfl, _, _, rfl, rfl, rfl⟩, ⟨_, rfl, _, _, rfl, ren_bool rfl hpar, rfl⟩, ren_row rfl rfl fun _ _ _ _ => rfl, ⟨_, rfl, _, _, rfl, rfl, _, _, rfl, ren_int rfl rfl, _, _, rfl, ren_bool rfl rfl, rfl⟩, ⟨_, rfl, _, _, rfl, rfl, _, _, rfl, ren_int rfl (half_odd hy (by omega) hq), _, _, rfl, ren_bool rfl (not_odd q), rfl⟩, trivial⟩ (by repeat' (first | exact trivial | refine ⟨.inr rfl, ?_⟩ | refine ⟨.inl rfl, ?_⟩)) (by kernel_rfl)
        · have hy : odd q = false := hy
          refine Sat.go (Eq.refl _) (NS.chk (by kernel_rfl) ?_)
          refine Sat.go (Eq.refl _) (NS.yes rfl ?_)
          refine Sat.go (Eq.refl _) (NS.no rfl ?_)
          refine Sat.go (Eq.refl _) (NS.yes rfl ?_)
          refine Sat.go (Eq.refl _) (NS.call (bUnion_ok (odd p) (!odd q)) rfl ?_)
          refine Sat.go (Eq.refl _) (NS.ite (fun n1 => ?_) (fun n1 => ?_))
          · refine Sat.go (Eq.refl _) (NS.ite (fun n2 => ?_) (fun n2 => ?_))
            · have n2 : (!odd r.length) = true := n2
              rw [emit_app inv.par n1 n2] at i2
              have hpar : fU (odd p) (!odd q) = odd (r ++ [((flatS b).getD q default)]).length := by rw [i2.par]; simp only [odd_s]
              refine Sat.go (Eq.refl _) (NS.need (decide_eq_true (by show ((pairS r).length + 1) * _ ≤ _; simp only [maxRow]; rw [pair_len]; have := inv.len; omega)) ?_)
              refine Sat.go (Eq.refl _) (NS.next ⟨(p, (q + 1), r ++ [((flatS b).getD q default)]), i2⟩ (by simp only; omega) ?_)
              refine weak_hd [(62, 168)] rfl ⟨rfl, rfl, rfl, trivial⟩ ⟨⟨_, rfl, _, _, rfl, rfl, rfl⟩, ⟨_, rfl, _, _, rfl, ren_bool rfl hpar, rfl⟩, ren_row rfl (by show (pairS r).length + 1 = (pairS (r ++ [((flatS b).getD q default)])).length; rw [pair_even r _ (not_t n2)]; simp) fun i hi j hj => ?_, ⟨_, rfl, _, _, rfl, rfl, _, _, rfl, ren_int rfl rfl, _, _, rfl, ren_bool rfl rfl, rfl⟩, ⟨_, rfl, _, _, rfl, rfl, _, _, rfl, ren_int rfl (half_even hy), _, _, rfl, ren_bool rfl (not_odd q), rfl⟩, trivial⟩ (by repeat' (first | exact trivial | refine ⟨.inr rfl, ?_⟩ | refine ⟨.inl rfl, ?_⟩)) (by kernel_rfl)
              have hi : i < (pairS (r ++ [((flatS b).getD q default)])).length := hi
              show _ = rowL Spn.cells (pairS (r ++ [((flatS b).getD q default)])) i j
              rw [pair_even r _ (not_t n2)] at hi ⊢
              exact row_snoc (cells := Spn.cells) (l := pairS r) (x := ⟨((flatS b).getD q default), 0⟩) rfl i (by simpa using hi) j hj
            · have n2 : (!odd r.length) = false := n2
              refine Sat.go (Eq.refl _) (NS.no (by rw [n1]; rfl) ?_)
              rw [emit_same1 inv.par n1 n2] at i2
              have hpar : fU (odd p) (!odd q) = odd (r).length := by rw [i2.par]; simp only [odd_s]
              refine Sat.go (Eq.refl _) (NS.next ⟨(p, (q + 1), r), i2⟩ (by simp only; omega) ?_)
              exact weak_hd [] rfl ⟨rfl, rfl, rfl, trivial⟩ ⟨⟨_, rfl, _, _, rfl, rfl, rfl⟩, ⟨_, rfl, _, _, rfl, ren_bool rfl hpar, rfl⟩, ren_row rfl rfl fun _ _ _ _ => rfl, ⟨_, rfl, _, _, rfl, rfl, _, _, rfl, ren_int rfl rfl, _, _, rfl, ren_bool rfl rfl, rfl⟩, ⟨_, rfl, _, _, rfl, rfl, _, _, rfl, ren_int rfl (half_even hy), _, _, rfl, ren_bool rfl (not_odd q), rfl⟩, trivial⟩ (by repeat' (first | exact trivial | refine ⟨.inr rfl, ?_⟩ | refine ⟨.inl rfl, ?_⟩)) (by kernel_rfl)
          · refine Sat.go (Eq.refl _) (NS.yes (by rw [n1]; rfl) ?_)
            refine Sat.go (Eq.refl _) (NS.ite (fun n2 => ?_) (fun n2 => ?_))
            · have n2 : odd r.length = true := n2
              rw [emit_set inv.par n1 n2] at i2
              have hpar : fU (odd p) (!odd q) = odd (r ++ [((flatS b).getD q default)]).length := by rw [i2.par]; simp only [odd_s]
              obtain ⟨hod, hlen⟩ := pair_odd r ((flatS b).getD q default) n2
              have e1 : IntKind.i64.wrap (((pairS r).length : Int) - 1) = (((pairS r).length - 1 : Nat) : Int) := by have := inv.len; have := pair_len r; rw [wrap_i64 (by omega) (by omega)]; omega
              refine Sat.go (Eq.refl _) (NS.need (by rw [e1]; simp; omega) ?_)
              rw [e1]
              refine Sat.go (Eq.refl _) (NS.need (by simp; omega) ?_)
              refine Sat.go (Eq.refl _) (NS.next ⟨(p, (q + 1), r ++ [((flatS b).getD q default)]), i2⟩ (by simp only; omega) ?_)
              refine weak_hd [] rfl ⟨rfl, rfl, rfl, trivial⟩ ⟨⟨_, rfl, _, _, rfl, rfl, rfl⟩, ⟨_, rfl, _, _, rfl, ren_bool rfl hpar, rfl⟩, ren_row rfl (by show (pairS r).length = (pairS (r ++ [((flatS b).getD q default)])).length; rw [hod]; simp) fun i hi j hj => ?_, ⟨_, rfl, _, _, rfl, rfl, _, _, rfl, ren_int rfl rfl, _, _, rfl, ren_bool rfl rfl, rfl⟩, ⟨_, rfl, _, _, rfl, rfl, _, _, rfl, ren_int rfl (half_even hy), _, _, rfl, ren_bool rfl (not_odd q), rfl⟩, trivial⟩ (by repeat' (first | exact trivial | refine ⟨.inr rfl, ?_⟩ | refine ⟨.inl rfl, ?_⟩)) (by kernel_rfl)
              show _ = rowL Spn.cells (pairS (r ++ [((flatS b).getD q default)])) i j
              rw [hod]
              exact row_hi (pairS r) (by omega) rfl i j hj
            · have n2 : odd r.length = false := n2
              rw [emit_same0 inv.par n1 n2] at i2
              have hpar : fU (odd p) (!odd q) = odd (r).length := by rw [i2.par]; simp only [odd_s]
              refine Sat.go (Eq.refl _) (NS.next ⟨(p, (q + 1), r), i2⟩ (by simp only; omega) ?_)
              exact weak_hd [] rfl ⟨rfl, rfl, rfl, trivial⟩ ⟨⟨_, rfl, _, _, rfl, rfl, rfl⟩, ⟨_, rfl, _, _, rfl, ren_bool rfl hpar, rfl⟩, ren_row rfl rfl fun _ _ _ _ => rfl, ⟨_, rfl, _, _, rfl, rfl, _, _, rfl, ren_int rfl rfl, _, _, rfl, ren_bool rfl rfl, rfl⟩, ⟨_, rfl, _, _, rfl, rfl, _, _, rfl, ren_int rfl (half_even hy), _, _, rfl, ren_bool rfl (not_odd q), rfl⟩, trivial⟩ (by repeat' (first | exact trivial | refine ⟨.inr rfl, ?_⟩ | refine ⟨.inl rfl, ?_⟩)) (by kernel_rfl)
      · have h4 : ¬ ((flatS b).getD q default) < ((flatS a).getD p default) := of_decide_eq_false h4
        refine Sat.go (Eq.refl _) (NS.call (next_t h2 (by omega)) rfl ?_)
        refine Sat.go (Eq.refl _) (NS.no rfl ?_)
        refine Sat.go (Eq.refl _) (NS.no (bne_eq_false_iff_eq.2 rfl) ?_)
        refine Sat.go (Eq.refl _) (NS.ite (fun hx => ?_) (fun hx => ?_))
        · have hx : odd p = true := hx
          refine Sat.go (Eq.refl _) (NS.call (next_t h3 (by omega)) rfl ?_)
          refine Sat.go (Eq.refl _) (NS.no rfl ?_)
          refine Sat.go (Eq.refl _) (NS.ite (fun h5 => ?_) (fun h5 => ?_))
          · have h5 : ((flatS b).getD q default) ≠ ((flatS a).getD p default) := bne_iff_ne.1 h5
            have i2 := inv.lt h2 h3 (by omega)
            refine Sat.go (Eq.refl _) (NS.chk (by kernel_rfl) ?_)
            refine Sat.go (Eq.refl _) (NS.yes rfl ?_)
            refine Sat.go (Eq.refl _) (NS.no rfl ?_)
            refine Sat.go (Eq.refl _) (NS.yes rfl ?_)
            refine Sat.go (Eq.refl _) (NS.call (bUnion_ok (!odd p) (odd q)) rfl ?_)
            refine Sat.go (Eq.refl _) (NS.ite (fun n1 => ?_) (fun n1 => ?_))
            · refine Sat.go (Eq.refl _) (NS.ite (fun n2 => ?_) (fun n2 => ?_))
              · have n2 : (!odd r.length) = true := n2
                rw [emit_app inv.par n1 n2] at i2
                have hpar : fU (!odd p) (odd q) = odd (r ++ [((flatS a).getD p default)]).length := by rw [i2.par]; simp only [odd_s]
                refine Sat.go (Eq.refl _) (NS.need (decide_eq_true (by show ((pairS r).length + 1) * _ ≤ _; simp only [maxRow]; rw [pair_len]; have := inv.len; omega)) ?_)
                refine Sat.go (Eq.refl _) (NS.next ⟨((p + 1), q, r ++ [((flatS a).getD p default)]), i2⟩ (by simp only; omega) ?_)
                refine weak_hd [(62, 168)] rfl ⟨rfl, rfl, rfl, trivial⟩ ⟨⟨_, rfl, _, _, rfl, rfl, rfl⟩, ⟨_, rfl, _, _, rfl, ren_bool rfl hpar, rfl⟩, ren_row rfl (by show (pairS r).length + 1 = (pairS (r ++ [((flatS a).getD p default)])).length; rw [pair_even r _ (not_t n2)]; simp) fun i hi j hj => ?_, ⟨_, rfl, _, _, rfl, rfl, _, _, rfl, ren_int rfl (half_odd hx (by omega) hp), _, _, rfl, ren_bool rfl (not_odd p), rfl⟩, ⟨_, rfl, _, _, rfl, rfl, _, _, rfl, ren_int rfl rfl, _, _, rfl, ren_bool rfl rfl, rfl⟩, trivial⟩ (by repeat' (first | exact trivial | refine ⟨.inr rfl, ?_⟩ | refine ⟨.inl rfl, ?_⟩)) (by kernel_rfl)
                have hi : i < (pairS (r ++ [((flatS a).getD p default)])).length := hi
                show _ = rowL Spn.cells (pairS (r ++ [((flatS a).getD p default)])) i j
                rw [pair_even r _ (not_t n2)] at hi ⊢
                exact row_snoc (cells := Spn.cells) (l := pairS r) (x := ⟨((flatS a).getD p default), 0⟩) rfl i (by simpa using hi) j hj
              · have n2 : (!odd r.length) = false := n2
                refine Sat.go (Eq.refl _) (NS.no (by rw [n1]; rfl) ?_)
                rw [emit_same1 inv.par n1 n2] at i2
                have hpar : fU (!odd p) (odd q) = odd (r).length := by rw [i2.par]; simp only [odd_s]
                refine Sat.go (Eq.refl _) (NS.next ⟨((p + 1), q, r), i2⟩ (by simp only; omega) ?_)
                exact weak_hd [] rfl ⟨rfl, rfl, rfl, trivial⟩ ⟨⟨_, rfl, _, _, rfl, rfl, rfl⟩, ⟨_, rfl, _, _, rfl, ren_bool rfl hpar, rfl⟩, ren_row rfl rfl fun _ _ _ _ => rfl, ⟨_, rfl, _, _, rfl, rfl, _, _, rfl, ren_int rfl (half_odd hx (by omega) hp), _, _, rfl, ren_bool rfl (not_odd p), rfl⟩, ⟨_, rfl, _, _, rfl, rfl, _, _, rfl, ren_int rfl rfl, _, _, rfl, ren_bool rfl rfl, rfl⟩, trivial⟩ (by repeat' (first | exact trivial | refine ⟨.inr rfl, ?_⟩ | refine ⟨.inl rfl, ?_⟩)) (by kernel_rfl)
            · refine Sat.go (Eq.refl _) (NS.yes (by rw [n1]; rfl) ?_)
              refine Sat.go (Eq.refl _) (NS.ite (fun n2 => ?_) (fun n2 => ?_))
              · have n2 : odd r.length = true := n2
                rw [emit_set inv.par n1 n2] at i2
                have hpar : fU (!odd p) (odd q) = odd (r ++ [((flatS a).getD p default)]).length := by rw [i2.par]; simp only [odd_s]
                obtain ⟨hod, hlen⟩ := pair_odd r ((flatS a).getD p default) n2
                have e1 : IntKind.i64.wrap (((pairS r).length : Int) - 1) = (((pairS r).length - 1 : Nat) : Int) := by have := inv.len; have := pair_len r; rw [wrap_i64 (by omega) (by omega)]; omega
                refine Sat.go (Eq.refl _) (NS.need (by rw [e1]; simp; omega) ?_)
                rw [e1]
                refine Sat.go (Eq.refl _) (NS.need (by simp; omega) ?_)
                refine Sat.go (Eq.refl _) (NS.next ⟨((p + 1), q, r ++ [((flatS a).getD p default)]), i2⟩ (by simp only; omega) ?_)
                refine weak_hd [] rfl ⟨rfl, rfl, rfl, trivial⟩ ⟨⟨_, rfl, _, _, rfl, rfl, rfl⟩, ⟨_, rfl, _, _, rfl, ren_bool rfl hpar, rfl⟩, ren_row rfl (by show (pairS r).length = (pairS (r ++ [((flatS a).getD p default)])).length; rw [hod]; simp) fun i hi j hj => ?_, ⟨_, rfl, _, _, rfl, rfl, _, _, rfl, ren_int rfl (half_odd hx (by omega) hp), _, _, rfl, ren_bool rfl (not_odd p), rfl⟩, ⟨_, rfl, _, _, rfl, rfl, _, _, rfl, ren_int rfl rfl, _, _, rfl, ren_bool rfl rfl, rfl⟩, trivial⟩ (by repeat' (first | exact trivial | refine ⟨.inr rfl, ?_⟩ | refine ⟨.inl rfl, ?_⟩)) (by kernel_rfl)
                show _ = rowL Spn.cells (pairS (r ++ [((flatS a).getD p default)])) i j
                rw [hod]
                exact row_hi (pairS r) (by omega) rfl i j hj
              · have n2 : odd r.length = false := n2
                rw [emit_same0 inv.par n1 n2] at i2
                have hpar : fU (!odd p) (odd q) = odd (r).length := by rw [i2.par]; simp only [odd_s]
                refine Sat.go (Eq.refl _) (NS.next ⟨((p + 1), q, r), i2⟩ (by simp only; omega) ?_)
                exact weak_hd [] rfl ⟨rfl, rfl, rfl, trivial⟩ ⟨⟨_, rfl, _, _, rfl, rfl, rfl⟩, ⟨_, rfl, _, _, rfl, ren_bool rfl hpar, rfl⟩, ren_row rfl rfl fun _ _ _ _ => rfl, ⟨_, rfl, _, _, rfl, rfl, _, _, rfl, ren_int rfl (half_odd hx (by omega) hp), _, _, rfl, ren_bool rfl (not_odd p), rfl⟩, ⟨_, rfl, _, _, rfl, rfl, _, _, rfl, ren_int rfl rfl, _, _, rfl, ren_bool rfl rfl, rfl⟩, trivial⟩ (by repeat' (first | exact trivial | refine ⟨.inr rfl, ?_⟩ | refine ⟨.inl rfl, ?_⟩)) (by kernel_rfl)
          · have h5 : ((flatS b).getD q default) = ((flatS a).getD p default) := bne_eq_false_iff_eq.1 h5
            have i2 := inv.eq h2 h3 h5.symm
            refine Sat.go (Eq.refl _) (NS.ite (fun hy => ?_) (fun hy => ?_))
            · have hy : odd q = true := hy
              refine Sat.go (Eq.refl _) (NS.chk (by kernel_rfl) ?_)
              refine Sat.go (Eq.refl _) (NS.yes rfl ?_)
              refine Sat.go (Eq.refl _) (NS.no rfl ?_)
              refine Sat.go (Eq.refl _) (NS.yes rfl ?_)
              refine Sat.go (Eq.refl _) (NS.call (bUnion_ok (!odd p) (!odd q)) rfl ?_)
              refine Sat.go (Eq.refl _) (NS.ite (fun n1 => ?_) (fun n1 => ?_))
              · refine Sat.go (Eq.refl _) (NS.ite (fun n2 => ?_) (fun n2 => ?_))
                · have n2 : (!odd r.length) = true := n2
                  rw [emit_app inv.par n1 n2] at i2
                  have hpar : fU (!odd p) (!odd q) = odd (r ++ [((flatS a).getD p default)]).length := by rw [i2.par]; simp only [odd_s]
                  refine Sat.go (Eq.refl _) (NS.need (decide_eq_true (by show ((pairS r).length + 1) * _ ≤ _; simp only [maxRow]; rw [pair_len]; have := inv.len; omega)) ?_)
                  refine Sat.go (Eq.refl _) (NS.next ⟨((p + 1), (q + 1), r ++ [((flatS a).getD p default)]), i2⟩ (by simp only; omega) ?_)
                  refine weak_hd [(62, 168)] rfl ⟨rfl, rfl, rfl, trivial⟩ ⟨⟨_, rfl, _, _, rfl, rfl, rfl⟩, ⟨_, rfl, _, _, rfl, ren_bool rfl hpar, rfl⟩, ren_row rfl (by show (pairS r).length + 1 = (pairS (r ++ [((flatS a).getD p default)])).length; rw [pair_even r _ (not_t n2)]; simp) fun i hi j hj => ?_, ⟨_, rfl, _, _, rfl, rfl, _, _, rfl, ren_int rfl (half_odd hx (by omega) hp), _, _, rfl, ren_bool rfl (not_odd p), rfl⟩, ⟨_, rfl, _, _, rfl, rfl, _, _, rfl, ren_int rfl (half_odd hy (by omega) hq), _, _, rfl, ren_bool rfl (not_odd q), rfl⟩, trivial⟩ (by repeat' (first | exact trivial | refine ⟨.inr rfl, ?_⟩ | refine ⟨.inl rfl, ?_⟩)) (by kernel_rfl)
                  have hi : i < (pairS (r ++ [((flatS a).getD p default)])).length := hi
                  show _ = rowL Spn.cells (pairS (r ++ [((flatS a).getD p default)])) i j
                  rw [pair_even r _ (not_t n2)] at hi ⊢
                  exact row_snoc (cells := Spn.cells) (l := pairS r) (x := ⟨((flatS a).getD p default), 0⟩) rfl i (by simpa using hi) j hj
                · have n2 : (!odd r.length) = false := n2
                  refine Sat.go (Eq.refl _) (NS.no (by rw [n1]; rfl) ?_)
                  rw [emit_same1 inv.par n1 n2] at i2
                  have hpar : fU (!odd p) (!odd q) = odd (r).length := by rw [i2.par]; simp only [odd_s]
                  refine Sat.go (Eq.refl _) (NS.next ⟨((p + 1), (q + 1), r), i2⟩ (by simp only; omega) ?_)
                  exact weak_hd [] rfl ⟨rfl, rfl, rfl, trivial⟩ ⟨⟨_, rfl, _, _, rfl, rfl, rfl⟩, ⟨_, rfl, _, _, rfl, ren_bool rfl hpar, rfl⟩, ren_row rfl rfl fun _ _ _ _ => rfl, ⟨_, rfl, _, _, rfl, rfl, _, _, rfl, ren_int rfl (half_odd hx (by omega) hp), _, _, rfl, ren_bool rfl (not_odd p), rfl⟩, ⟨_, rfl, _, _, rfl, rfl, _, _, rfl, ren_int rfl (half_odd hy (by omega) hq), _, _, rfl, ren_bool rfl (not_odd q), rfl⟩, trivial⟩ (by repeat' (first | exact trivial | refine ⟨.inr rfl, ?_⟩ | refine ⟨.inl rfl, ?_⟩)) (by kernel_rfl)
              · refine Sat.go (Eq.refl _) (NS.yes (by rw [n1]; rfl) ?_)
                refine Sat.go (Eq.refl _) (NS.ite (fun n2 => ?_) (fun n2 => ?_))
                · have n2 : odd r.length = true := n2
                  rw [emit_set inv.par n1 n2] at i2
                  have hpar : fU (!odd p) (!odd q) = odd (r ++ [((flatS a).getD p default)]).length := by rw [i2.par]; simp only [odd_s]
                  obtain ⟨hod, hlen⟩ := pair_odd r ((flatS a).getD p default) n2
                  have e1 : IntKind.i64.wrap (((pairS r).length : Int) - 1) = (((pairS r).length - 1 : Nat) : Int) := by have := inv.len; have := pair_len r; rw [wrap_i64 (by omega) (by omega)]; omega
                  refine Sat.go (Eq.refl _) (NS.need (by rw [e1]; simp; omega) ?_)
                  rw [e1]
                  refine Sat.go (Eq.refl _) (NS.need (by simp; omega) ?_)
                  refine Sat.go (Eq.refl _) (NS.next ⟨((p + 1), (q + 1), r ++ [((flatS a).getD p default)]), i2⟩ (by simp only; omega) ?_)
                  refine weak_hd [] rfl ⟨rfl, rfl, rfl, trivial⟩ ⟨⟨_, rfl, _, _, rfl, rfl, rfl⟩, ⟨_, rfl, _, _, rfl, ren_bool rfl hpar, rfl⟩, ren_row rfl (by show (pairS r).length = (pairS (r ++ [((flatS a).getD p default)])).length; rw [hod]; simp) fun i hi j hj => ?_, ⟨_, rfl, _, _, rfl, rfl, _, _, rfl, ren_int rfl (half_odd hx (by omega) hp), _, _, rfl, ren_bool rfl (not_odd p), rfl⟩, ⟨_, rfl, _, _, rfl, rfl, _, _, rfl, ren_int rfl (half_odd hy (by omega) hq), _, _, rfl, ren_bool rfl (not_odd q), rfl⟩, trivial⟩ (by repeat' (first | exact trivial | refine ⟨.inr rfl, ?_⟩ | refine ⟨.inl rfl, ?_⟩)) (by kernel_rfl)
                  show _ = rowL Spn.cells (pairS (r ++ [((flatS a).getD p default)])) i j
                  rw [hod]
                  exact row_hi (pairS r) (by omega) rfl i j hj
                · have n2 : odd r.length = false := n2
                  rw [emit_same0 inv.par n1 n2] at i2
                  have hpar : fU (!odd p) (!odd q) = odd (r).length := by rw [i2.par]; simp only [odd_s]
                  refine Sat.go (Eq.refl _) (NS.next ⟨((p + 1), (q + 1), r), i2⟩ (by simp only; omega) ?_)
                  exact weak_hd [] rfl ⟨rfl, rfl, rfl, trivial⟩ ⟨⟨_, rfl, _, _, rfl, rfl, rfl⟩, ⟨_, rfl, _, _, rfl, ren_bool rfl hpar, rfl⟩, ren_row rfl rfl fun _ _ _ _ => rfl, ⟨_, rfl, _, _, rfl, rfl, _, _, rfl, ren_int rfl (half_odd hx (by omega) hp), _, _, rfl, ren_bool rfl (not_odd p), rfl⟩, ⟨_, rfl, _, _, rfl, rfl, _, _, rfl, ren_int rfl (half_odd hy (by omega) hq), _, _, rfl, ren_bool rfl (not_odd q), rfl⟩, trivial⟩ (by repeat' (first | exact trivial | refine ⟨.inr rfl, ?_⟩ | refine ⟨.inl rfl, ?_⟩)) (by kernel_rfl)
            · have hy : odd q = false := hy
              refine Sat.go (Eq.refl _) (NS.chk (by kernel_rfl) ?_)
              refine Sat.go (Eq.refl _) (NS.yes rfl ?_)
              refine Sat.go (Eq.refl _) (NS.no rfl ?_)
              refine Sat.go (Eq.refl _) (NS.yes rfl ?_)
              refine Sat.go (Eq.refl _) (NS.call (bUnion_ok (!odd p) (!odd q)) rfl ?_)
              refine Sat.go (Eq.refl _) (NS.ite (fun n1 => ?_) (fun n1 => ?_))
              · refine Sat.go (Eq.refl _) (NS.ite (fun n2 => ?_) (fun n2 => ?_))
                · have n2 : (!odd r.length) = true := n2
                  rw [emit_app inv.par n1 n2] at i2
                  have hpar : fU (!odd p) (!odd q) = odd (r ++ [((flatS a).getD p default)]).length := by rw [i2.par]; simp only [odd_s]
                  refine Sat.go (Eq.refl _) (NS.need (decide_eq_true (by show ((pairS r).length + 1) * _ ≤ _; simp only [maxRow]; rw [pair_len]; have := inv.len; omega)) ?_)
                  refine Sat.go (Eq.refl _) (NS.next ⟨((p + 1), (q + 1), r ++ [((flatS a).getD p default)]), i2⟩ (by simp only; omega) ?_)
                  refine weak_hd [(62, 168)] rfl ⟨rfl, rfl, rfl, trivial⟩ ⟨⟨_, rfl, _, _, rfl, rfl, rfl⟩, ⟨_, rfl, _, _, rfl, ren_bool rfl hpar, rfl⟩, ren_row rfl (by show (pairS r).length + 1 = (pairS (r ++ [((flatS a).getD p default)])).length; rw [pair_even r _ (not_t n2)]; simp) fun i hi j hj => ?_, ⟨_, rfl, _, _, rfl, rfl, _, _, rfl, ren_int rfl (half_odd hx (by omega) hp), _, _, rfl, ren_bool rfl (not_odd p), rfl⟩, ⟨_, rfl, _, _, rfl, rfl, _, _, rfl, ren_int rfl (half_even hy), _, _, rfl, ren_bool rfl (not_odd q), rfl⟩, trivial⟩ (by repeat' (first | exact trivial | refine ⟨.inr rfl, ?_⟩ | refine ⟨.inl rfl, ?_⟩)) (by kernel_rfl)
                  have hi : i < (pairS (r ++ [((flatS a).getD p default)])).length := hi
                  show _ = rowL Spn.cells (pairS (r ++ [((flatS a).getD p default)])) i j
                  rw [pair_even r _ (not_t n2)] at hi ⊢
                  exact row_snoc (cells := Spn.cells) (l := pairS r) (x := ⟨((flatS a).getD p default), 0⟩) rfl i (by simpa using hi) j hj
                · have n2 : (!odd r.length) = false := n2
                  refine Sat.go (Eq.refl _) (NS.no (by rw [n1]; rfl) ?_)
                  rw [emit_same1 inv.par n1 n2] at i2
                  have hpar : fU (!odd p) (!odd q) = odd (r).length := by rw [i2.par]; simp only [odd_s]
                  refine Sat.go (Eq.refl _) (NS.next ⟨((p + 1), (q + 1), r), i2⟩ (by simp only; omega) ?_)
                  exact weak_hd [] rfl ⟨rfl, rfl, rfl, trivial⟩ ⟨⟨_, rfl, _, _, rfl, rfl, rfl⟩, ⟨_, rfl, _, _, rfl, ren_bool rfl hpar, rfl⟩, ren_row rfl rfl fun _ _ _ _ => rfl, ⟨_, rfl, _, _, rfl, rfl, _, _, rfl, ren_int rfl (half_odd hx (by omega) hp), _, _, rfl, ren_bool rfl (not_odd p), rfl⟩, ⟨_, rfl, _, _, rfl, rfl, _, _, rfl, ren_int rfl (half_even hy), _, _, rfl, ren_bool rfl (not_odd q), rfl⟩, trivial⟩ (by repeat' (first | exact trivial | refine ⟨.inr rfl, ?_⟩ | refine ⟨.inl rfl, ?_⟩)) (by kernel_rfl)
              · refine Sat.go (Eq.refl _) (NS.yes (by rw [n1]; rfl) ?_)
                refine Sat.go (Eq.refl _) (NS.ite (fun n2 => ?_) (fun n2 => ?_))
                · have n2 : odd r.length = true := n2
                  rw [emit_set inv.par n1 n2] at i2
                  have hpar : fU (!odd p) (!odd q) = odd (r ++ [((flatS a).getD p default)]).length := by rw [i2.par]; simp only [odd_s]
                  obtain ⟨hod, hlen⟩ := pair_odd r ((flatS a).getD p default) n2
                  have e1 : IntKind.i64.wrap (((pairS r).length : Int) - 1) = (((pairS r).length - 1 : Nat) : Int) := by have := inv.len; have := pair_len r; rw [wrap_i64 (by omega) (by omega)]; omega
                  refine Sat.go (Eq.refl _) (NS.need (by rw [e1]; simp; omega) ?_)
                  rw [e1]
                  refine Sat.go (Eq.refl _) (NS.need (by simp; omega) ?_)
                  refine Sat.go (Eq.refl _) (NS.next ⟨((p + 1), (q + 1), r ++ [((flatS a).getD p default)]), i2⟩ (by simp only; omega) ?_)
                  refine weak_hd [] rfl ⟨rfl, rfl, rfl, trivial⟩ ⟨⟨_, rfl, _, _, rfl, rfl, rfl⟩, ⟨_, rfl, _, _, rfl, ren_bool rfl hpar, rfl⟩, ren_row rfl (by show (pairS r).length = (pairS (r ++ [((flatS a).getD p default)])).length; rw [hod]; simp) fun i hi j hj => ?_, ⟨_, rfl, _, _, rfl, rfl, _, _, rfl, ren_int rfl (half_odd hx (by omega) hp), _, _, rfl, ren_bool rfl (not_odd p), rfl⟩, ⟨_, rfl, _, _, rfl, rfl, _, _, rfl, ren_int rfl (half_even hy), _, _, rfl, ren_bool rfl (not_odd q), rfl⟩, trivial⟩ (by repeat' (first | exact trivial | refine ⟨.inr rfl, ?_⟩ | refine ⟨.inl rfl, ?_⟩)) (by kernel_rfl)
                  show _ = rowL Spn.cells (pairS (r ++ [((flatS a).getD p default)])) i j
                  rw [hod]
                  exact row_hi (pairS r) (by omega) rfl i j hj
                · have n2 : odd r.length = false := n2
                  rw [emit_same0 inv.par n1 n2] at i2
                  have hpar : fU (!odd p) (!odd q) = odd (r).length := by rw [i2.par]; simp only [odd_s]
                  refine Sat.go (Eq.refl _) (NS.next ⟨((p + 1), (q + 1), r), i2⟩ (by simp only; omega) ?_)
                  exact weak_hd [] rfl ⟨rfl, rfl, rfl, trivial⟩ ⟨⟨_, rfl, _, _, rfl, rfl, rfl⟩, ⟨_, rfl, _, _, rfl, ren_bool rfl hpar, rfl⟩, ren_row rfl rfl fun _ _ _ _ => rfl, ⟨_, rfl, _, _, rfl, rfl, _, _, rfl, ren_int rfl (half_odd hx (by omega) hp), _, _, rfl, ren_bool rfl (not_odd p), rfl⟩, ⟨_, rfl, _, _, rfl, rfl, _, _, rfl, ren_int rfl (half_even hy), _, _, rfl, ren_bool rfl (not_odd q), rfl⟩, trivial⟩ (by repeat' (first | exact trivial | refine ⟨.inr rfl, ?_⟩ | refine ⟨.inl rfl, ?_⟩)) (by kernel_rfl)
        · have hx : odd p = false := hx
          refine Sat.go (Eq.refl _) (NS.call (next_t h3 (by omega)) rfl ?_)
          refine Sat.go (Eq.refl _) (NS.no rfl ?_)
          refine Sat.go (Eq.refl _) (NS.ite (fun h5 => ?_) (fun h5 => ?_))
          · have h5 : ((flatS b).getD q default) ≠ ((flatS a).getD p default) := bne_iff_ne.1 h5
            have i2 := inv.lt h2 h3 (by omega)
            refine Sat.go (Eq.refl _) (NS.chk (by kernel_rfl) ?_)
            refine Sat.go (Eq.refl _) (NS.yes rfl ?_)
            refine Sat.go (Eq.refl _) (NS.no rfl ?_)
            refine Sat.go (Eq.refl _) (NS.yes rfl ?_)
            refine Sat.go (Eq.refl _) (NS.call (bUnion_ok (!odd p) (odd q)) rfl ?_)
            refine Sat.go (Eq.refl _) (NS.ite (fun n1 => ?_) (fun n1 => ?_))
            · refine Sat.go (Eq.refl _) (NS.ite (fun n2 => ?_) (fun n2 => ?_))
              · have n2 : (!odd r.length) = true := n2
                rw [emit_app inv.par n1 n2] at i2
                have hpar : fU (!odd p) (odd q) = odd (r ++ [((flatS a).getD p default)]).length := by rw [i2.par]; simp only [odd_s]
                refine Sat.go (Eq.refl _) (NS.need (decide_eq_true (by show ((pairS r).length + 1) * _ ≤ _; simp only [maxRow]; rw [pair_len]; have := inv.len; omega)) ?_)
                refine Sat.go (Eq.refl _) (NS.next ⟨((p + 1), q, r ++ [((flatS a).getD p default)]), i2⟩ (by simp only; omega) ?_)
                refine weak_hd [(62, 168)] rfl ⟨rfl, rfl, rfl, trivial⟩ ⟨⟨_, rfl, _, _, rfl, rfl, rfl⟩, ⟨_, rfl, _, _, rfl, ren_bool rfl hpar, rfl⟩, ren_row rfl (by show (pairS r).length + 1 = (pairS (r ++ [((flatS a).getD p default)])).length; rw [pair_even r _ (not_t n2)]; simp) fun i hi j hj => ?_, ⟨_, rfl, _, _, rfl, rfl, _, _, rfl, ren_int rfl (half_even hx), _, _, rfl, ren_bool rfl (not_odd p), rfl⟩, ⟨_, rfl, _, _, rfl, rfl, _, _, rfl, ren_int rfl rfl, _, _, rfl, ren_bool rfl rfl, rfl⟩, trivial⟩ (by repeat' (first | exact trivial | refine ⟨.inr rfl, ?_⟩ | refine ⟨.inl rfl, ?_⟩)) (by kernel_rfl)
                have hi : i < (pairS (r ++ [((flatS a).getD p default)])).length := hi
                show _ = rowL Spn.cells (pairS (r ++ [((flatS a).getD p default)])) i j
                rw [pair_even r _ (not_t n2)] at hi ⊢
                exact row_snoc (cells := Spn.cells) (l := pairS r) (x := ⟨((flatS a).getD p default), 0⟩) rfl i (by simpa using hi) j hj
              · have n2 : (!odd r.length) = false := n2
                refine Sat.go (Eq.refl _) (NS.no (by rw [n1]; rfl) ?_)
                rw [emit_same1 inv.par n1 n2] at i2
                have hpar : fU (!odd p) (odd q) = odd (r).length := by rw [i2.par]; simp only [odd_s]
                refine Sat.go (Eq.refl _) (NS.next ⟨((p + 1), q, r), i2⟩ (by simp only; omega) ?_)
                exact weak_hd [] rfl ⟨rfl, rfl, rfl, trivial⟩ ⟨⟨_, rfl, _, _, rfl, rfl, rfl⟩, ⟨_, rfl, _, _, rfl, ren_bool rfl hpar, rfl⟩, ren_row rfl rfl fun _ _ _ _ => rfl, ⟨_, rfl, _, _, rfl, rfl, _, _, rfl, ren_int rfl (half_even hx), _, _, rfl, ren_bool rfl (not_odd p), rfl⟩, ⟨_, rfl, _, _, rfl, rfl, _, _, rfl, ren_int rfl rfl, _, _, rfl, ren_bool rfl rfl, rfl⟩, trivial⟩ (by repeat' (first | exact trivial | refine ⟨.inr rfl, ?_⟩ | refine ⟨.inl rfl, ?_⟩)) (by kernel_rfl)
            · refine Sat.go (Eq.refl _) (NS.yes (by rw [n1]; rfl) ?_)
              refine Sat.go (Eq.refl _) (NS.ite (fun n2 => ?_) (fun n2 => ?_))
              · have n2 : odd r.length = true := n2
                rw [emit_set inv.par n1 n2] at i2
                have hpar : fU (!odd p) (odd q) = odd (r ++ [((flatS a).getD p default)]).length := by rw [i2.par]; simp only [odd_s]
                obtain ⟨hod, hlen⟩ := pair_odd r ((flatS a).getD p default) n2
                have e1 : IntKind.i64.wrap (((pairS r).length : Int) - 1) = (((pairS r).length - 1 : Nat) : Int) := by have := inv.len; have := pair_len r; rw [wrap_i64 (by omega) (by omega)]; omega
                refine Sat.go (Eq.refl _) (NS.need (by rw [e1]; simp; omega) ?_)
                rw [e1]
                refine Sat.go (Eq.refl _) (NS.need (by simp; omega) ?_)
                refine Sat.go (Eq.refl _) (NS.next ⟨((p + 1), q, r ++ [((flatS a).getD p default)]), i2⟩ (by simp only; omega) ?_)
                refine weak_hd [] rfl ⟨rfl, rfl, rfl, trivial⟩ ⟨⟨_, rfl, _, _, rfl, rfl, rfl⟩, ⟨_, rfl, _, _, rfl, ren_bool rfl hpar, rfl⟩, ren_row rfl (by show (pairS r).length = (pairS (r ++ [((flatS a).getD p default)])).length; rw [hod]; simp) fun i hi j hj => ?_, ⟨_, rfl, _, _, rfl, rfl, _, _, rfl, ren_int rfl (half_even hx), _, _, rfl, ren_bool rfl (not_odd p), rfl⟩, ⟨_, rfl, _, _, rfl, rfl, _, _, rfl, ren_int rfl rfl, _, _, rfl, ren_bool rfl rfl, rfl⟩, trivial⟩ (by repeat' (first | exact trivial | refine ⟨.inr rfl, ?_⟩ | refine ⟨.inl rfl, ?_⟩)) (by kernel_rfl)
                show _ = rowL Spn.cells (pairS (r ++ [((flatS a).getD p default)])) i j
                rw [hod]
                exact row_hi (pairS r) (by omega) rfl i j hj
              · have n2 : odd r.length = false := n2
                rw [emit_same0 inv.par n1 n2] at i2
                have hpar : fU (!odd p) (odd q) = odd (r).length := by rw [i2.par]; simp only [odd_s]
                refine Sat.go (Eq.refl _) (NS.next ⟨((p + 1), q, r), i2⟩ (by simp only; omega) ?_)
                exact weak_hd [] rfl ⟨rfl, rfl, rfl, trivial⟩ ⟨⟨_, rfl, _, _, rfl, rfl, rfl⟩, ⟨_, rfl, _, _, rfl, ren_bool rfl hpar, rfl⟩, ren_row rfl rfl fun _ _ _ _ => rfl, ⟨_, rfl, _, _, rfl, rfl, _, _, rfl, ren_int rfl (half_even hx), _, _, rfl, ren_bool rfl (not_odd p), rfl⟩, ⟨_, rfl, _, _, rfl, rfl, _, _, rfl, ren_int rfl rfl, _, _, rfl, ren_bool rfl rfl, rfl⟩, trivial⟩ (by repeat' (first | exact trivial | refine ⟨.inr rfl, ?_⟩ | refine ⟨.inl rfl, ?_⟩)) (by kernel_rfl)
          · have h5 : ((flatS b).getD q default) = ((flatS a).getD p default) := bne_eq_false_iff_eq.1 h5
            have i2 := inv.eq h2 h3 h5.symm
            refine Sat.go (Eq.refl _) (NS.ite (fun hy => ?_) (fun hy => ?_))
            · have hy : odd q = true := hy
              refine Sat.go (Eq.refl _) (NS.chk (by kernel_rfl) ?_)
              refine Sat.go (Eq.refl _) (NS.yes rfl ?_)
              refine Sat.go (Eq.refl _) (NS.no rfl ?_)
              refine Sat.go (Eq.refl _) (NS.yes rfl ?_)
              refine Sat.go (Eq.refl _) (NS.call (bUnion_ok (!odd p) (!odd q)) rfl ?_)
              refine Sat.go (Eq.refl _) (NS.ite (fun n1 => ?_) (fun n1 => ?_))
              · refine Sat.go (Eq.refl _) (NS.ite (fun n2 => ?_) (fun n2 => ?_))
                · have n2 : (!odd r.length) = true := n2
                  rw [emit_app inv.par n1 n2] at i2
                  have hpar : fU (!odd p) (!odd q) = odd (r ++ [((flatS a).getD p default)]).length := by rw [i2.par]; simp only [odd_s]
                  refine Sat.go (Eq.refl _) (NS.need (decide_eq_true (by show ((pairS r).length + 1) * _ ≤ _; simp only [maxRow]; rw [pair_len]; have := inv.len; omega)) ?_)
                  refine Sat.go (Eq.refl _) (NS.next ⟨((p + 1), (q + 1), r ++ [((flatS a).getD p default)]), i2⟩ (by simp only; omega) ?_)
                  refine weak_hd [(62, 168)] rfl ⟨rfl, rfl, rfl, trivial⟩ ⟨⟨_, rfl, _, _, rfl, rfl, rfl⟩, ⟨_, rfl, _, _, rfl, ren_bool rfl hpar, rfl⟩, ren_row rfl (by show (pairS r).length + 1 = (pairS (r ++ [((flatS a).getD p default)])).length; rw [pair_even r _ (not_t n2)]; simp) fun i hi j hj => ?_, ⟨_, rfl, _, _, rfl, rfl, _, _, rfl, ren_int rfl (half_even hx), _, _, rfl, ren_bool rfl (not_odd p), rfl⟩, ⟨_, rfl, _, _, rfl, rfl, _, _, rfl, ren_int rfl (half_odd hy (by omega) hq), _, _, rfl, ren_bool rfl (not_odd q), rfl⟩, trivial⟩ (by repeat' (first | exact trivial | refine ⟨.inr rfl, ?_⟩ | refine ⟨.inl rfl, ?_⟩)) (by kernel_rfl)
                  have hi : i < (pairS (r ++ [((flatS a).getD p default)])).length := hi
                  show _ = rowL Spn.cells (pairS (r ++ [((flatS a).getD p default)])) i j
                  rw [pair_even r _ (not_t n2)] at hi ⊢
                  exact row_snoc (cells := Spn.cells) (l := pairS r) (x := ⟨((flatS a).getD p default), 0⟩) rfl i (by simpa using hi) j hj
                · have n2 : (!odd r.length) = false := n2
                  refine Sat.go (Eq.refl _) (NS.no (by rw [n1]; rfl) ?_)
                  rw [emit_same1 inv.par n1 n2] at i2
                  have hpar : fU (!odd p) (!odd q) = odd (r).length := by rw [i2.par]; simp only [odd_s]
                  refine Sat.go (Eq.refl _) (NS.next ⟨((p + 1), (q + 1), r), i2⟩ (by simp only; omega) ?_)
                  exact weak_hd [] rfl ⟨rfl, rfl, rfl, trivial⟩ ⟨⟨_, rfl, _, _, rfl, rfl, rfl⟩, ⟨_, rfl, _, _, rfl, ren_bool rfl hpar, rfl⟩, ren_row rfl rfl fun _ _ _ _ => rfl, ⟨_, rfl, _, _, rfl, rfl, _, _, rfl, ren_int rfl (half_even hx), _, _, rfl, ren_bool rfl (not_odd p), rfl⟩, ⟨_, rfl, _, _, rfl, rfl, _, _, rfl, ren_int rfl (half_odd hy (by omega) hq), _, _, rfl, ren_bool rfl (not_odd q), rfl⟩, trivial⟩ (by repeat' (first | exact trivial | refine ⟨.inr rfl, ?_⟩ | refine ⟨.inl rfl, ?_⟩)) (by kernel_rfl)
              · refine Sat.go (Eq.refl _) (NS.yes (by rw [n1]; rfl) ?_)
                refine Sat.go (Eq.refl _) (NS.ite (fun n2 => ?_) (fun n2 => ?_))
                · have n2 : odd r.length = true := n2
                  rw [emit_set inv.par n1 n2] at i2
                  have hpar : fU (!odd p) (!odd q) = odd (r ++ [((flatS a).getD p default)]).length := by rw [i2.par]; simp only [odd_s]
                  obtain ⟨hod, hlen⟩ := pair_odd r ((flatS a).getD p default) n2
                  have e1 : IntKind.i64.wrap (((pairS r).length : Int) - 1) = (((pairS r).length - 1 : Nat) : Int) := by have := inv.len; have := pair_len r; rw [wrap_i64 (by omega) (by omega)]; omega
                  refine Sat.go (Eq.refl _) (NS.need (by rw [e1]; simp; omega) ?_)
                  rw [e1]
                  refine Sat.go (Eq.refl _) (NS.need (by simp; omega) ?_)
                  refine Sat.go (Eq.refl _) (NS.next ⟨((p + 1), (q + 1), r ++ [((flatS a).getD p default)]), i2⟩ (by simp only; omega) ?_)
                  refine weak_hd [] rfl ⟨rfl, rfl, rfl, trivial⟩ ⟨⟨_, rfl, _, _, rfl, rfl, rfl⟩, ⟨_, rfl, _, _, rfl, ren_bool rfl hpar, rfl⟩, ren_row rfl (by show (pairS r).length = (pairS (r ++ [((flatS a).getD p default)])).length; rw [hod]; simp) fun i hi j hj => ?_, ⟨_, rfl, _, _, rfl, rfl, _, _, rfl, ren_int rfl (half_even hx), _, _, rfl, ren_bool rfl (not_odd p), rfl⟩, ⟨_, rfl, _, _, rfl, rfl, _, _, rfl, ren_int rfl (half_odd hy (by omega) hq), _, _, rfl, ren_bool rfl (not_odd q), rfl⟩, trivial⟩ (by repeat' (first | exact trivial | refine ⟨.inr rfl, ?_⟩ | refine ⟨.inl rfl, ?_⟩)) (by kernel_rfl)
                  show _ = rowL Spn.cells (pairS (r ++ [((flatS a).getD p default)])) i j
                  rw [hod]
                  exact row_hi (pairS r) (by omega) rfl i j hj
                · have n2 : odd r.length = false := n2
                  rw [emit_same0 inv.par n1 n2] at i2
                  have hpar : fU (!odd p) (!odd q) = odd (r).length := by rw [i2.par]; simp only [odd_s]
                  refine Sat.go (Eq.refl _) (NS.next ⟨((p + 1), (q + 1), r), i2⟩ (by simp only; omega) ?_)
                  exact weak_hd [] rfl ⟨rfl, rfl, rfl, trivial⟩ ⟨⟨_, rfl, _, _, rfl, rfl, rfl⟩, ⟨_, rfl, _, _, rfl, ren_bool rfl hpar, rfl⟩, ren_row rfl rfl fun _ _ _ _ => rfl, ⟨_, rfl, _, _, rfl, rfl, _, _, rfl, ren_int rfl (half_even hx), _, _, rfl, ren_bool rfl (not_odd p), rfl⟩, ⟨_, rfl, _, _, rfl, rfl, _, _, rfl, ren_int rfl (half_odd hy (by omega) hq), _, _, rfl, ren_bool rfl (not_odd q), rfl⟩, trivial⟩ (by repeat' (first | exact trivial | refine ⟨.inr rfl, ?_⟩ | refine ⟨.inl rfl, ?_⟩)) (by kernel_rfl)
            · have hy : odd q = false := hy
              refine Sat.go (Eq.refl _) (NS.chk (by kernel_rfl) ?_)
              refine Sat.go (Eq.refl _) (NS.yes rfl ?_)
              refine Sat.go (Eq.refl _) (NS.no rfl ?_)
              refine Sat.go (Eq.refl _) (NS.yes rfl ?_)
              refine Sat.go (Eq.refl _) (NS.call (bUnion_ok (!odd p) (!odd q)) rfl ?_)
              refine Sat.go (Eq.refl _) (NS.ite (fun n1 => ?_) (fun n1 => ?_))
              · refine Sat.go (Eq.refl _) (NS.ite (fun n2 => ?_) (fun n2 => ?_))
                · have n2 : (!odd r.length) = true := n2
                  rw [emit_app inv.par n1 n2] at i2
                  have hpar : fU (!odd p) (!odd q) = odd (r ++ [((flatS a).getD p default)]).length := by rw [i2.par]; simp only [odd_s]
                  refine Sat.go (Eq.refl _) (NS.need (decide_eq_true (by show ((pairS r).length + 1) * _ ≤ _; simp only [maxRow]; rw [pair_len]; have := inv.len; omega)) ?_)
                  refine Sat.go (Eq.refl _) (NS.next ⟨((p + 1), (q + 1), r ++ [((flatS a).getD p default)]), i2⟩ (by simp only; omega) ?_)
                  refine weak_hd [(62, 168)] rfl ⟨rfl, rfl, rfl, trivial⟩ ⟨⟨_, rfl, _, _, rfl, rfl, rfl⟩, ⟨_, rfl, _, _, rfl, ren_bool rfl hpar, rfl⟩, ren_row rfl (by show (pairS r).length + 1 = (pairS (r ++ [((flatS a).getD p default)])).length; rw [pair_even r _ (not_t n2)]; simp) fun i hi j hj => ?_, ⟨_, rfl, _, _, rfl, rfl, _, _, rfl, ren_int rfl (half_even hx), _, _, rfl, ren_bool rfl (not_odd p), rfl⟩, ⟨_, rfl, _, _, rfl, rfl, _, _, rfl, ren_int rfl (half_even hy), _, _, rfl, ren_bool rfl (not_odd q), rfl⟩, trivial⟩ (by repeat' (first | exact trivial | refine ⟨.inr rfl, ?_⟩ | refine ⟨.inl rfl, ?_⟩)) (by kernel_rfl)
                  have hi : i < (pairS (r ++ [((flatS a).getD p default)])).length := hi
                  show _ = rowL Spn.cells (pairS (r ++ [((flatS a).getD p default)])) i j
                  rw [pair_even r _ (not_t n2)] at hi ⊢
                  exact row_snoc (cells := Spn.cells) (l := pairS r) (x := ⟨((flatS a).getD p default), 0⟩) rfl i (by simpa using hi) j hj
                · have n2 : (!odd r.length) = false := n2
                  refine Sat.go (Eq.refl _) (NS.no (by rw [n1]; rfl) ?_)
                  rw [emit_same1 inv.par n1 n2] at i2
                  have hpar : fU (!odd p) (!odd q) = odd (r).length := by rw [i2.par]; simp only [odd_s]
                  refine Sat.go (Eq.refl _) (NS.next ⟨((p + 1), (q + 1), r), i2⟩ (by simp only; omega) ?_)
                  exact weak_hd [] rfl ⟨rfl, rfl, rfl, trivial⟩ ⟨⟨_, rfl, _, _, rfl, rfl, rfl⟩, ⟨_, rfl, _, _, rfl, ren_bool rfl hpar, rfl⟩, ren_row rfl rfl fun _ _ _ _ => rfl, ⟨_, rfl, _, _, rfl, rfl, _, _, rfl, ren_int rfl (half_even hx), _, _, rfl, ren_bool rfl (not_odd p), rfl⟩, ⟨_, rfl, _, _, rfl, rfl, _, _, rfl, ren_int rfl (half_even hy), _, _, rfl, ren_bool rfl (not_odd q), rfl⟩, trivial⟩ (by repeat' (first | exact trivial | refine ⟨.inr rfl, ?_⟩ | refine ⟨.inl rfl, ?_⟩)) (by kernel_rfl)
              · refine Sat.go (Eq.refl _) (NS.yes (by rw [n1]; rfl) ?_)
                refine Sat.go (Eq.refl _) (NS.ite (fun n2 => ?_) (fun n2 => ?_))
                · have n2 : odd r.length = true := n2
                  rw [emit_set inv.par n1 n2] at i2
                  have hpar : fU (!odd p) (!odd q) = odd (r ++ [((flatS a).getD p default)]).length := by rw [i2.par]; simp only [odd_s]
                  obtain ⟨hod, hlen⟩ := pair_odd r ((flatS a).getD p default) n2
                  have e1 : IntKind.i64.wrap (((pairS r).length : Int) - 1) = (((pairS r).length - 1 : Nat) : Int) := by have := inv.len; have := pair_len r; rw [wrap_i64 (by omega) (by omega)]; omega
                  refine Sat.go (Eq.refl _) (NS.need (by rw [e1]; simp; omega) ?_)
                  rw [e1]
                  refine Sat.go (Eq.refl _) (NS.need (by simp; omega) ?_)
                  refine Sat.go (Eq.refl _) (NS.next ⟨((p + 1), (q + 1), r ++ [((flatS a).getD p default)]), i2⟩ (by simp only; omega) ?_)
                  refine weak_hd [] rfl ⟨rfl, rfl, rfl, trivial⟩ ⟨⟨_, rfl, _, _, rfl, rfl, rfl⟩, ⟨_, rfl, _, _, rfl, ren_bool rfl hpar, rfl⟩, ren_row rfl (by show (pairS r).length = (pairS (r ++ [((flatS a).getD p default)])).length; rw [hod]; simp) fun i hi j hj => ?_, ⟨_, rfl, _, _, rfl, rfl, _, _, rfl, ren_int rfl (half_even hx), _, _, rfl, ren_bool rfl (not_odd p), rfl⟩, ⟨_, rfl, _, _, rfl, rfl, _, _, rfl, ren_int rfl (half_even hy), _, _, rfl, ren_bool rfl (not_odd q), rfl⟩, trivial⟩ (by repeat' (first | exact trivial | refine ⟨.inr rfl, ?_⟩ | refine ⟨.inl rfl, ?_⟩)) (by kernel_rfl)
                  show _ = rowL Spn.cells (pairS (r ++ [((flatS a).getD p default)])) i j
                  rw [hod]
                  exact row_hi (pairS r) (by omega) rfl i j hj
                · have n2 : odd r.length = false := n2
                  rw [emit_same0 inv.par n1 n2] at i2
                  have hpar : fU (!odd p) (!odd q) = odd (r).length := by rw [i2.par]; simp only [odd_s]
                  refine Sat.go (Eq.refl _) (NS.next ⟨((p + 1), (q + 1), r), i2⟩ (by simp only; omega) ?_)
                  exact weak_hd [] rfl ⟨rfl, rfl, rfl, trivial⟩ ⟨⟨_, rfl, _, _, rfl, rfl, rfl⟩, ⟨_, rfl, _, _, rfl, ren_bool rfl hpar, rfl⟩, ren_row rfl rfl fun _ _ _ _ => rfl, ⟨_, rfl, _, _, rfl, rfl, _, _, rfl, ren_int rfl (half_even hx), _, _, rfl, ren_bool rfl (not_odd p), rfl⟩, ⟨_, rfl, _, _, rfl, rfl, _, _, rfl, ren_int rfl (half_even hy), _, _, rfl, ren_bool rfl (not_odd q), rfl⟩, trivial⟩ (by repeat' (first | exact trivial | refine ⟨.inr rfl, ?_⟩ | refine ⟨.inl rfl, ?_⟩)) (by kernel_rfl)
    · refine Sat.go (Eq.refl _) (NS.call (next_f hq h3 (by omega)) rfl ?_)
      have i2 := inv.x h2 h3
      refine Sat.go (Eq.refl _) (NS.no rfl ?_)
      refine Sat.go (Eq.refl _) (NS.no rfl ?_)
      refine Sat.go (Eq.refl _) (NS.no rfl ?_)
      refine Sat.go (Eq.refl _) (NS.call (next_t h2 (by omega)) rfl ?_)
      refine Sat.go (Eq.refl _) (NS.no rfl ?_)
      refine Sat.go (Eq.refl _) (NS.no (bne_eq_false_iff_eq.2 rfl) ?_)
      refine Sat.go (Eq.refl _) (NS.ite (fun hx => ?_) (fun hx => ?_))
      · have hx : odd p = true := hx
        refine Sat.go (Eq.refl _) (NS.call (next_f hq h3 (by omega)) rfl ?_)
        refine Sat.go (Eq.refl _) (NS.yes rfl ?_)
        refine Sat.go (Eq.refl _) (NS.chk (by kernel_rfl) ?_)
        refine Sat.go (Eq.refl _) (NS.yes rfl ?_)
        refine Sat.go (Eq.refl _) (NS.no rfl ?_)
        refine Sat.go (Eq.refl _) (NS.yes rfl ?_)
        refine Sat.go (Eq.refl _) (NS.call (bUnion_ok (!odd p) (odd q)) rfl ?_)
        refine Sat.go (Eq.refl _) (NS.ite (fun n1 => ?_) (fun n1 => ?_))
        · refine Sat.go (Eq.refl _) (NS.ite (fun n2 => ?_) (fun n2 => ?_))
          · have n2 : (!odd r.length) = true := n2
            rw [emit_app inv.par n1 n2] at i2
            have hpar : fU (!odd p) (odd q) = odd (r ++ [((flatS a).getD p default)]).length := by rw [i2.par]; simp only [odd_s]
            refine Sat.go (Eq.refl _) (NS.need (decide_eq_true (by show ((pairS r).length + 1) * _ ≤ _; simp only [maxRow]; rw [pair_len]; have := inv.len; omega)) ?_)
            refine Sat.go (Eq.refl _) (NS.next ⟨((p + 1), q, r ++ [((flatS a).getD p default)]), i2⟩ (by simp only; omega) ?_)
            refine weak_hd [(62, 168)] rfl ⟨rfl, rfl, rfl, trivial⟩ ⟨⟨_, rfl, _, _, rfl, rfl, rfl⟩, ⟨_, rfl, _, _, rfl, ren_bool rfl hpar, rfl⟩, ren_row rfl (by show (pairS r).length + 1 = (pairS (r ++ [((flatS a).getD p default)])).length; rw [pair_even r _ (not_t n2)]; simp) fun i hi j hj => ?_, ⟨_, rfl, _, _, rfl, rfl, _, _, rfl, ren_int rfl (half_odd hx (by omega) hp), _, _, rfl, ren_bool rfl (not_odd p), rfl⟩, ⟨_, rfl, _, _, rfl, rfl, _, _, rfl, ren_int rfl rfl, _, _, rfl, ren_bool rfl rfl, rfl⟩, trivial⟩ (by repeat' (first | exact trivial | refine ⟨.inr rfl, ?_⟩ | refine ⟨.inl rfl, ?_⟩)) (by kernel_rfl)
            have hi : i < (pairS (r ++ [((flatS a).getD p default)])).length := hi
            show _ = rowL Spn.cells (pairS (r ++ [((flatS a).getD p default)])) i j
            rw [pair_even r _ (not_t n2)] at hi ⊢
            exact row_snoc (cells := Spn.cells) (l := pairS r) (x := ⟨((flatS a).getD p default), 0⟩) rfl i (by simpa using hi) j hj
          · have n2 : (!odd r.length) = false := n2
            refine Sat.go (Eq.refl _) (NS.no (by rw [n1]; rfl) ?_)
            rw [emit_same1 inv.par n1 n2] at i2
            have hpar : fU (!odd p) (odd q) = odd (r).length := by rw [i2.par]; simp only [odd_s]
            refine Sat.go (Eq.refl _) (NS.next ⟨((p + 1), q, r), i2⟩ (by simp only; omega) ?_)
            exact weak_hd [] rfl ⟨rfl, rfl, rfl, trivial⟩ ⟨⟨_, rfl, _, _, rfl, rfl, rfl⟩, ⟨_, rfl, _, _, rfl, ren_bool rfl hpar, rfl⟩, ren_row rfl rfl fun _ _ _ _ => rfl, ⟨_, rfl, _, _, rfl, rfl, _, _, rfl, ren_int rfl (half_odd hx (by omega) hp), _, _, rfl, ren_bool rfl (not_odd p), rfl⟩, ⟨_, rfl, _, _, rfl, rfl, _, _, rfl, ren_int rfl rfl, _, _, rfl, ren_bool rfl rfl, rfl⟩, trivial⟩ (by repeat' (first | exact trivial | refine ⟨.inr rfl, ?_⟩ | refine ⟨.inl rfl, ?_⟩)) (by kernel_rfl)
        · refine Sat.go (Eq.refl _) (NS.yes (by rw [n1]; rfl) ?_)
          refine Sat.go (Eq.refl _) (NS.ite (fun n2 => ?_) (fun n2 => ?_))
          · have n2 : odd r.length = true := n2
            rw [emit_set inv.par n1 n2] at i2
            have hpar : fU (!odd p) (odd q) = odd (r ++ [((flatS a).getD p default)]).length := by rw [i2.par]; simp only [odd_s]
            obtain ⟨hod, hlen⟩ := pair_odd r ((flatS a).getD p default) n2
            have e1 : IntKind.i64.wrap (((pairS r).length : Int) - 1) = (((pairS r).length - 1 : Nat) : Int) := by have := inv.len; have := pair_len r; rw [wrap_i64 (by omega) (by omega)]; omega
            refine Sat.go (Eq.refl _) (NS.need (by rw [e1]; simp; omega) ?_)
            rw [e1]
            refine Sat.go (Eq.refl _) (NS.need (by simp; omega) ?_)
            refine Sat.go (Eq.refl _) (NS.next ⟨((p + 1), q, r ++ [((flatS a).getD p default)]), i2⟩ (by simp only; omega) ?_)
            refine weak_hd [] rfl ⟨rfl, rfl, rfl, trivial⟩ ⟨⟨_, rfl, _, _, rfl, rfl, rfl⟩, ⟨_, rfl, _, _, rfl, ren_bool rfl hpar, rfl⟩, ren_row rfl (by show (pairS r).length = (pairS (r ++ [((flatS a).getD p default)])).length; rw [hod]; simp) fun i hi j hj => ?_, ⟨_, rfl, _, _, rfl, rfl, _, _, rfl, ren_int rfl (half_odd hx (by omega) hp), _, _, rfl, ren_bool rfl (not_odd p), rfl⟩, ⟨_, rfl, _, _, rfl, rfl, _, _, rfl, ren_int rfl rfl, _, _, rfl, ren_bool rfl rfl, rfl⟩, trivial⟩ (by repeat' (first | exact trivial | refine ⟨.inr rfl, ?_⟩ | refine ⟨.inl rfl, ?_⟩)) (by kernel_rfl)
            show _ = rowL Spn.cells (pairS (r ++ [((flatS a).getD p default)])) i j
            rw [hod]
            exact row_hi (pairS r) (by omega) rfl i j hj
          · have n2 : odd r.length = false := n2
            rw [emit_same0 inv.par n1 n2] at i2
            have hpar : fU (!odd p) (odd q) = odd (r).length := by rw [i2.par]; simp only [odd_s]
            refine Sat.go (Eq.refl _) (NS.next ⟨((p + 1), q, r), i2⟩ (by simp only; omega) ?_)
            exact weak_hd [] rfl ⟨rfl, rfl, rfl, trivial⟩ ⟨⟨_, rfl, _, _, rfl, rfl, rfl⟩, ⟨_, rfl, _, _, rfl, ren_bool rfl hpar, rfl⟩, ren_row rfl rfl fun _ _ _ _ => rfl, ⟨_, rfl, _, _, rfl, rfl, _, _, rfl, ren_int rfl (half_odd hx (by omega) hp), _, _, rfl, ren_bool rfl (not_odd p), rfl⟩, ⟨_, rfl, _, _, rfl, rfl, _, _, rfl, ren_int rfl rfl, _, _, rfl, ren_bool rfl rfl, rfl⟩, trivial⟩ (by repeat' (first | exact trivial | refine ⟨.inr rfl, ?_⟩ | refine ⟨.inl rfl, ?_⟩)) (by kernel_rfl)
      · have hx : odd p = false := hx
        refine Sat.go (Eq.refl _) (NS.call (next_f hq h3 (by omega)) rfl ?_)
        refine Sat.go (Eq.refl _) (NS.yes rfl ?_)
        refine Sat.go (Eq.refl _) (NS.chk (by kernel_rfl) ?_)
        refine Sat.go (Eq.refl _) (NS.yes rfl ?_)
        refine Sat.go (Eq.refl _) (NS.no rfl ?_)
        refine Sat.go (Eq.refl _) (NS.yes rfl ?_)
        refine Sat.go (Eq.refl _) (NS.call (bUnion_ok (!odd p) (odd q)) rfl ?_)
        refine Sat.go (Eq.refl _) (NS.ite (fun n1 => ?_) (fun n1 => ?_))
        · refine Sat.go (Eq.refl _) (NS.ite (fun n2 => ?_) (fun n2 => ?_))
          · have n2 : (!odd r.length) = true := n2
            rw [emit_app inv.par n1 n2] at i2
            have hpar : fU (!odd p) (odd q) = odd (r ++ [((flatS a).getD p default)]).length := by rw [i2.par]; simp only [odd_s]
            refine Sat.go (Eq.refl _) (NS.need (decide_eq_true (by show ((pairS r).length + 1) * _ ≤ _; simp only [maxRow]; rw [pair_len]; have := inv.len; omega)) ?_)
            refine Sat.go (Eq.refl _) (NS.next ⟨((p + 1), q, r ++ [((flatS a).getD p default)]), i2⟩ (by simp only; omega) ?_)
            refine weak_hd [(62, 168)] rfl ⟨rfl, rfl, rfl, trivial⟩ ⟨⟨_, rfl, _, _, rfl, rfl, rfl⟩, ⟨_, rfl, _, _, rfl, ren_bool rfl hpar, rfl⟩, ren_row rfl (by show (pairS r).length + 1 = (pairS (r ++ [((flatS a).getD p default)])).length; rw [pair_even r _ (not_t n2)]; simp) fun i hi j hj => ?_, ⟨_, rfl, _, _, rfl, rfl, _, _, rfl, ren_int rfl (half_even hx), _, _, rfl, ren_bool rfl (not_odd p), rfl⟩, ⟨_, rfl, _, _, rfl, rfl, _, _, rfl, ren_int rfl rfl, _, _, rfl, ren_bool rfl rfl, rfl⟩, trivial⟩ (by repeat' (first | exact trivial | refine ⟨.inr rfl, ?_⟩ | refine ⟨.inl rfl, ?_⟩)) (by kernel_rfl)
            have hi : i < (pairS (r ++ [((flatS a).getD p default)])).length := hi
            show _ = rowL Spn.cells (pairS (r ++ [((flatS a).getD p default)])) i j
            rw [pair_even r _ (not_t n2)] at hi ⊢
            exact row_snoc (cells := Spn.cells) (l := pairS r) (x := ⟨((flatS a).getD p default), 0⟩) rfl i (by simpa using hi) j hj
          · have n2 : (!odd r.length) = false := n2
            refine Sat.go (Eq.refl _) (NS.no (by rw [n1]; rfl) ?_)
            rw [emit_same1 inv.par n1 n2] at i2
            have hpar : fU (!odd p) (odd q) = odd (r).length := by rw [i2.par]; simp only [odd_s]
            refine Sat.go (Eq.refl _) (NS.next ⟨((p + 1), q, r), i2⟩ (by simp only; omega) ?_)
            exact weak_hd [] rfl ⟨rfl, rfl, rfl, trivial⟩ ⟨⟨_, rfl, _, _, rfl, rfl, rfl⟩, ⟨_, rfl, _, _, rfl, ren_bool rfl hpar, rfl⟩, ren_row rfl rfl fun _ _ _ _ => rfl, ⟨_, rfl, _, _, rfl, rfl, _, _, rfl, ren_int rfl (half_even hx), _, _, rfl, ren_bool rfl (not_odd p), rfl⟩, ⟨_, rfl, _, _, rfl, rfl, _, _, rfl, ren_int rfl rfl, _, _, rfl, ren_bool rfl rfl, rfl⟩, trivial⟩ (by repeat' (first | exact trivial | refine ⟨.inr rfl, ?_⟩ | refine ⟨.inl rfl, ?_⟩)) (by kernel_rfl)
        · refine Sat.go (Eq.refl _) (NS.yes (by rw [n1]; rfl) ?_)
          refine Sat.go (Eq.refl _) (NS.ite (fun n2 => ?_) (fun n2 => ?_))
          · have n2 : odd r.length = true := n2
            rw [emit_set inv.par n1 n2] at i2
            have hpar : fU (!odd p) (odd q) = odd (r ++ [((flatS a).getD p default)]).length := by rw [i2.par]; simp only [odd_s]
            obtain ⟨hod, hlen⟩ := pair_odd r ((flatS a).getD p default) n2
            have e1 : IntKind.i64.wrap (((pairS r).length : Int) - 1) = (((pairS r).length - 1 : Nat) : Int) := by have := inv.len; have := pair_len r; rw [wrap_i64 (by omega) (by omega)]; omega
            refine Sat.go (Eq.refl _) (NS.need (by rw [e1]; simp; omega) ?_)
            rw [e1]
            refine Sat.go (Eq.refl _) (NS.need (by simp; omega) ?_)
            refine Sat.go (Eq.refl _) (NS.next ⟨((p + 1), q, r ++ [((flatS a).getD p default)]), i2⟩ (by simp only; omega) ?_)
            refine weak_hd [] rfl ⟨rfl, rfl, rfl, trivial⟩ ⟨⟨_, rfl, _, _, rfl, rfl, rfl⟩, ⟨_, rfl, _, _, rfl, ren_bool rfl hpar, rfl⟩, ren_row rfl (by show (pairS r).length = (pairS (r ++ [((flatS a).getD p default)])).length; rw [hod]; simp) fun i hi j hj => ?_, ⟨_, rfl, _, _, rfl, rfl, _, _, rfl, ren_int rfl (half_even hx), _, _, rfl, ren_bool rfl (not_odd p), rfl⟩, ⟨_, rfl, _, _, rfl, rfl, _, _, rfl, ren_int rfl rfl, _, _, rfl, ren_bool rfl rfl, rfl⟩, trivial⟩ (by repeat' (first | exact trivial | refine ⟨.inr rfl, ?_⟩ | refine ⟨.inl rfl, ?_⟩)) (by kernel_rfl)
            show _ = rowL Spn.cells (pairS (r ++ [((flatS a).getD p default)])) i j
            rw [hod]
            exact row_hi (pairS r) (by omega) rfl i j hj
          · have n2 : odd r.length = false := n2
            rw [emit_same0 inv.par n1 n2] at i2
            have hpar : fU (!odd p) (odd q) = odd (r).length := by rw [i2.par]; simp only [odd_s]
            refine Sat.go (Eq.refl _) (NS.next ⟨((p + 1), q, r), i2⟩ (by simp only; omega) ?_)
            exact weak_hd [] rfl ⟨rfl, rfl, rfl, trivial⟩ ⟨⟨_, rfl, _, _, rfl, rfl, rfl⟩, ⟨_, rfl, _, _, rfl, ren_bool rfl hpar, rfl⟩, ren_row rfl rfl fun _ _ _ _ => rfl, ⟨_, rfl, _, _, rfl, rfl, _, _, rfl, ren_int rfl (half_even hx), _, _, rfl, ren_bool rfl (not_odd p), rfl⟩, ⟨_, rfl, _, _, rfl, rfl, _, _, rfl, ren_int rfl rfl, _, _, rfl, ren_bool rfl rfl, rfl⟩, trivial⟩ (by repeat' (first | exact trivial | refine ⟨.inr rfl, ?_⟩ | refine ⟨.inl rfl, ?_⟩)) (by kernel_rfl)
  · refine Sat.go (Eq.refl _) (NS.call (next_f hp h2 (by omega)) rfl ?_)
    by_cases h3 : q < 2 * b.length
    · refine Sat.go (Eq.refl _) (NS.call (next_t h3 (by omega)) rfl ?_)
      have i2 := inv.y h2 h3
      refine Sat.go (Eq.refl _) (NS.yes rfl ?_)
      refine Sat.go (Eq.refl _) (NS.no rfl ?_)
      refine Sat.go (Eq.refl _) (NS.yes rfl ?_)
      refine Sat.go (Eq.refl _) (NS.call (next_f hp h2 (by omega)) rfl ?_)
      refine Sat.go (Eq.refl _) (NS.yes rfl ?_)
      refine Sat.go (Eq.refl _) (NS.call (next_t h3 (by omega)) rfl ?_)
      refine Sat.go (Eq.refl _) (NS.no rfl ?_)
      refine Sat.go (Eq.refl _) (NS.no (bne_eq_false_iff_eq.2 rfl) ?_)
      refine Sat.go (Eq.refl _) (NS.ite (fun hy => ?_) (fun hy => ?_))
      · have hy : odd q = true := hy
        refine Sat.go (Eq.refl _) (NS.chk (by kernel_rfl) ?_)
        refine Sat.go (Eq.refl _) (NS.yes rfl ?_)
        refine Sat.go (Eq.refl _) (NS.no rfl ?_)
        refine Sat.go (Eq.refl _) (NS.yes rfl ?_)
        refine Sat.go (Eq.refl _) (NS.call (bUnion_ok (odd p) (!odd q)) rfl ?_)
        refine Sat.go (Eq.refl _) (NS.ite (fun n1 => ?_) (fun n1 => ?_))
        · refine Sat.go (Eq.refl _) (NS.ite (fun n2 => ?_) (fun n2 => ?_))
          · have n2 : (!odd r.length) = true := n2
            rw [emit_app inv.par n1 n2] at i2
            have hpar : fU (odd p) (!odd q) = odd (r ++ [((flatS b).getD q default)]).length := by rw [i2.par]; simp only [odd_s]
            refine Sat.go (Eq.refl _) (NS.need (decide_eq_true (by show ((pairS r).length + 1) * _ ≤ _; simp only [maxRow]; rw [pair_len]; have := inv.len; omega)) ?_)
            refine Sat.go (Eq.refl _) (NS.next ⟨(p, (q + 1), r ++ [((flatS b).getD q default)]), i2⟩ (by simp only; omega) ?_)
            refine weak_hd [(62, 168)] rfl ⟨rfl, rfl, rfl, trivial⟩ ⟨⟨_, rfl, _, _, rfl, rfl, rfl⟩, ⟨_, rfl, _, _, rfl, ren_bool rfl hpar, rfl⟩, ren_row rfl (by show (pairS r).length + 1 = (pairS (r ++ [((flatS b).getD q default)])).length; rw [pair_even r _ (not_t n2)]; simp) fun i hi j hj => ?_, ⟨_, rfl, _, _, rfl, rfl, _, _, rfl, ren_int rfl rfl, _, _, rfl, ren_bool rfl rfl, rfl⟩, ⟨_, rfl, _, _, rfl, rfl, _, _, rfl, ren_int rfl (half_odd hy (by omega) hq), _, _, rfl, ren_bool rfl (not_odd q), rfl⟩, trivial⟩ (by repeat' (first | exact trivial | refine ⟨.inr rfl, ?_⟩ | refine ⟨.inl rfl, ?_⟩)) (by kernel_rfl)
            have hi : i < (pairS (r ++ [((flatS b).getD q default)])).length := hi
            show _ = rowL Spn.cells (pairS (r ++ [((flatS b).getD q default)])) i j
            rw [pair_even r _ (not_t n2)] at hi ⊢
            exact row_snoc (cells := Spn.cells) (l := pairS r) (x := ⟨((flatS b).getD q default), 0⟩) rfl i (by simpa using hi) j hj
          · have n2 : (!odd r.length) = false := n2
            refine Sat.go (Eq.refl _) (NS.no (by rw [n1]; rfl) ?_)
            rw [emit_same1 inv.par n1 n2] at i2
            have hpar : fU (odd p) (!odd q) = odd (r).length := by rw [i2.par]; simp only [odd_s]
            refine Sat.go (Eq.refl _) (NS.next ⟨(p, (q + 1), r), i2⟩ (by simp only; omega) ?_)
            exact weak_hd [] rfl ⟨rfl, rfl, rfl, trivial⟩ ⟨⟨_, rfl, _, _, rfl, rfl, rfl⟩, ⟨_, rfl, _, _, rfl, ren_bool rfl hpar, rfl⟩, ren_row rfl rfl fun _ _ _ _ => rfl, ⟨_, rfl, _, _, rfl, rfl, _, _, rfl, ren_int rfl rfl, _, _, rfl, ren_bool rfl rfl, rfl⟩, ⟨_, rfl, _, _, rfl, rfl, _, _, rfl, ren_int rfl (half_odd hy (by omega) hq), _, _, rfl, ren_bool rfl (not_odd q), rfl⟩, trivial⟩ (by repeat' (first | exact trivial | refine ⟨.inr rfl, ?_⟩ | refine ⟨.inl rfl, ?_⟩)) (by kernel_rfl)
        · refine Sat.go (Eq.refl _) (NS.yes (by rw [n1]; rfl) ?_)
          refine Sat.go (Eq.refl _) (NS.ite (fun n2 => ?_) (fun n2 => ?_))
          · have n2 : odd r.length = true := n2
            rw [emit_set inv.par n1 n2] at i2
            have hpar : fU (odd p) (!odd q) = odd (r ++ [((flatS b).getD q default)]).length := by rw [i2.par]; simp only [odd_s]
            obtain ⟨hod, hlen⟩ := pair_odd r ((flatS b).getD q default) n2
            have e1 : IntKind.i64.wrap (((pairS r).length : Int) - 1) = (((pairS r).length - 1 : Nat) : Int) := by have := inv.len; have := pair_len r; rw [wrap_i64 (by omega) (by omega)]; omega
            refine Sat.go (Eq.refl _) (NS.need (by rw [e1]; simp; omega) ?_)
            rw [e1]
            refine Sat.go (Eq.refl _) (NS.need (by simp; omega) ?_)
            refine Sat.go (Eq.refl _) (NS.next ⟨(p, (q + 1), r ++ [((flatS b).getD q default)]), i2⟩ (by simp only; omega) ?_)
            refine weak_hd [] rfl ⟨rfl, rfl, rfl, trivial⟩ ⟨⟨_, rfl, _, _, rfl, rfl, rfl⟩, ⟨_, rfl, _, _, rfl, ren_bool rfl hpar, rfl⟩, ren_row rfl (by show (pairS r).length = (pairS (r ++ [((flatS b).getD q default)])).length; rw [hod]; simp) fun i hi j hj => ?_, ⟨_, rfl, _, _, rfl, rfl, _, _, rfl, ren_int rfl rfl, _, _, rfl, ren_bool rfl rfl, rfl⟩, ⟨_, rfl, _, _, rfl, rfl, _, _, rfl, ren_int rfl (half_odd hy (by omega) hq), _, _, rfl, ren_bool rfl (not_odd q), rfl⟩, trivial⟩ (by repeat' (first | exact trivial | refine ⟨.inr rfl, ?_⟩ | refine ⟨.inl rfl, ?_⟩)) (by kernel_rfl)
            show _ = rowL Spn.cells (pairS (r ++ [((flatS b).getD q default)])) i j
            rw [hod]
            exact row_hi (pairS r) (by omega) rfl i j hj
          · have n2 : odd r.length = false := n2
            rw [emit_same0 inv.par n1 n2] at i2
            have hpar : fU (odd p) (!odd q) = odd (r).length := by rw [i2.par]; simp only [odd_s]
            refine Sat.go (Eq.refl _) (NS.next ⟨(p, (q + 1), r), i2⟩ (by simp only; omega) ?_)
            exact weak_hd [] rfl ⟨rfl, rfl, rfl, trivial⟩ ⟨⟨_, rfl, _, _, rfl, rfl, rfl⟩, ⟨_, rfl, _, _, rfl, ren_bool rfl hpar, rfl⟩, ren_row rfl rfl fun _ _ _ _ => rfl, ⟨_, rfl, _, _, rfl, rfl, _, _, rfl, ren_int rfl rfl, _, _, rfl, ren_bool rfl rfl, rfl⟩, ⟨_, rfl, _, _, rfl, rfl, _, _, rfl, ren_int rfl (half_odd hy (by omega) hq), _, _, rfl, ren_bool rfl (not_odd q), rfl⟩, trivial⟩ (by repeat' (first | exact trivial | refine ⟨.inr rfl, ?_⟩ | refine ⟨.inl rfl, ?_⟩)) (by kernel_rfl)
      · have hy : odd q = false := hy
        refine Sat.go (Eq.refl _) (NS.chk (by kernel_rfl) ?_)
        refine Sat.go (Eq.refl _) (NS.yes rfl ?_)
        refine Sat.go (Eq.refl _) (NS.no rfl ?_)
        refine Sat.go (Eq.refl _) (NS.yes rfl ?_)
        refine Sat.go (Eq.refl _) (NS.call (bUnion_ok (odd p) (!odd q)) rfl ?_)
        refine Sat.go (Eq.refl _) (NS.ite (fun n1 => ?_) (fun n1 => ?_))
        · refine Sat.go (Eq.refl _) (NS.ite (fun n2 => ?_) (fun n2 => ?_))
          · have n2 : (!odd r.length) = true := n2
            rw [emit_app inv.par n1 n2] at i2
            have hpar : fU (odd p) (!odd q) = odd (r ++ [((flatS b).getD q default)]).length := by rw [i2.par]; simp only [odd_s]
            refine Sat.go (Eq.refl _) (NS.need (decide_eq_true (by show ((pairS r).length + 1) * _ ≤ _; simp only [maxRow]; rw [pair_len]; have := inv.len; omega)) ?_)
            refine Sat.go (Eq.refl _) (NS.next ⟨(p, (q + 1), r ++ [((flatS b).getD q default)]), i2⟩ (by simp only; omega) ?_)
            refine weak_hd [(62, 168)] rfl ⟨rfl, rfl, rfl, trivial⟩ ⟨⟨_, rfl, _, _, rfl, rfl, rfl⟩, ⟨_, rfl, _, _, rfl, ren_bool rfl hpar, rfl⟩, ren_row rfl (by show (pairS r).length + 1 = (pairS (r ++ [((flatS b).getD q default)])).length; rw [pair_even r _ (not_t n2)]; simp) fun i hi j hj => ?_, ⟨_, rfl, _, _, rfl, rfl, _, _, rfl, ren_int rfl rfl, _, _, rfl, ren_bool rfl rfl, rfl⟩, ⟨_, rfl, _, _, rfl, rfl, _, _, rfl, ren_int rfl (half_even hy), _, _, rfl, ren_bool rfl (not_odd q), rfl⟩, trivial⟩ (by repeat' (first | exact trivial | refine ⟨.inr rfl, ?_⟩ | refine ⟨.inl rfl, ?_⟩)) (by kernel_rfl)
            have hi : i < (pairS (r ++ [((flatS b).getD q default)])).length := hi
            show _ = rowL Spn.cells (pairS (r ++ [((flatS b).getD q default)])) i j
            rw [pair_even r _ (not_t n2)] at hi ⊢
            exact row_snoc (cells := Spn.cells) (l := pairS r) (x := ⟨((flatS b).getD q default), 0⟩) rfl i (by simpa using hi) j hj
          · have n2 : (!odd r.length) = false := n2
            refine Sat.go (Eq.refl _) (NS.no (by rw [n1]; rfl) ?_)
            rw [emit_same1 inv.par n1 n2] at i2
            have hpar : fU (odd p) (!odd q) = odd (r).length := by rw [i2.par]; simp only [odd_s]
            refine Sat.go (Eq.refl _) (NS.next ⟨(p, (q + 1), r), i2⟩ (by simp only; omega) ?_)
            exact weak_hd [] rfl ⟨rfl, rfl, rfl, trivial⟩ ⟨⟨_, rfl, _, _, rfl, rfl, rfl⟩, ⟨_, rfl, _, _, rfl, ren_bool rfl hpar, rfl⟩, ren_row rfl rfl fun _ _ _ _ => rfl, ⟨_, rfl, _, _, rfl, rfl, _, _, rfl, ren_int rfl rfl, _, _, rfl, ren_bool rfl rfl, rfl⟩, ⟨_, rfl, _, _, rfl, rfl, _, _, rfl, ren_int rfl (half_even hy), _, _, rfl, ren_bool rfl (not_odd q), rfl⟩, trivial⟩ (by repeat' (first | exact trivial | refine ⟨.inr rfl, ?_⟩ | refine ⟨.inl rfl, ?_⟩)) (by kernel_rfl)
        · refine Sat.go (Eq.refl _) (NS.yes (by rw [n1]; rfl) ?_)
          refine Sat.go (Eq.refl _) (NS.ite (fun n2 => ?_) (fun n2 => ?_))
          · have n2 : odd r.length = true := n2
            rw [emit_set inv.par n1 n2] at i2
            have hpar : fU (odd p) (!odd q) = odd (r ++ [((flatS b).getD q default)]).length := by rw [i2.par]; simp only [odd_s]
            obtain ⟨hod, hlen⟩ := pair_odd r ((flatS b).getD q default) n2
            have e1 : IntKind.i64.wrap (((pairS r).length : Int) - 1) = (((pairS r).length - 1 : Nat) : Int) := by have := inv.len; have := pair_len r; rw [wrap_i64 (by omega) (by omega)]; omega
            refine Sat.go (Eq.refl _) (NS.need (by rw [e1]; simp; omega) ?_)
            rw [e1]
            refine Sat.go (Eq.refl _) (NS.need (by simp; omega) ?_)
            refine Sat.go (Eq.refl _) (NS.next ⟨(p, (q + 1), r ++ [((flatS b).getD q default)]), i2⟩ (by simp only; omega) ?_)
            refine weak_hd [] rfl ⟨rfl, rfl, rfl, trivial⟩ ⟨⟨_, rfl, _, _, rfl, rfl, rfl⟩, ⟨_, rfl, _, _, rfl, ren_bool rfl hpar, rfl⟩, ren_row rfl (by show (pairS r).length = (pairS (r ++ [((flatS b).getD q default)])).length; rw [hod]; simp) fun i hi j hj => ?_, ⟨_, rfl, _, _, rfl, rfl, _, _, rfl, ren_int rfl rfl, _, _, rfl, ren_bool rfl rfl, rfl⟩, ⟨_, rfl, _, _, rfl, rfl, _, _, rfl, ren_int rfl (half_even hy), _, _, rfl, ren_bool rfl (not_odd q), rfl⟩, trivial⟩ (by repeat' (first | exact trivial | refine ⟨.inr rfl, ?_⟩ | refine ⟨.inl rfl, ?_⟩)) (by kernel_rfl)
            show _ = rowL Spn.cells (pairS (r ++ [((flatS b).getD q default)])) i j
            rw [hod]
            exact row_hi (pairS r) (by omega) rfl i j hj
          · have n2 : odd r.length = false := n2
            rw [emit_same0 inv.par n1 n2] at i2
            have hpar : fU (odd p) (!odd q) = odd (r).length := by rw [i2.par]; simp only [odd_s]
            refine Sat.go (Eq.refl _) (NS.next ⟨(p, (q + 1), r), i2⟩ (by simp only; omega) ?_)
            exact weak_hd [] rfl ⟨rfl, rfl, rfl, trivial⟩ ⟨⟨_, rfl, _, _, rfl, rfl, rfl⟩, ⟨_, rfl, _, _, rfl, ren_bool rfl hpar, rfl⟩, ren_row rfl rfl fun _ _ _ _ => rfl, ⟨_, rfl, _, _, rfl, rfl, _, _, rfl, ren_int rfl rfl, _, _, rfl, ren_bool rfl rfl, rfl⟩, ⟨_, rfl, _, _, rfl, rfl, _, _, rfl, ren_int rfl (half_even hy), _, _, rfl, ren_bool rfl (not_odd q), rfl⟩, trivial⟩ (by repeat' (first | exact trivial | refine ⟨.inr rfl, ?_⟩ | refine ⟨.inl rfl, ?_⟩)) (by kernel_rfl)
    · refine Sat.go (Eq.refl _) (NS.call (next_f hq h3 (by omega)) rfl ?_)
      have hf := inv.fin h2 h3
      rw [← hf] at hm
      refine Sat.go (Eq.refl _) (NS.yes rfl ?_)
      refine Sat.go (Eq.refl _) (NS.yes rfl ?_)
      refine Sat.go (Eq.refl _) (NS.leave rfl (Eq.refl _) ?_)
      refine Sat.go (Eq.refl _) (NS.ite (fun h6 => ?_) (fun h6 => ?_))
      · have h6 : ((pairS r).length : Int) > 1000 := of_decide_eq_true h6
        rw [if_pos (by omega)] at hm
        exact Sat.go (Eq.refl _) (NS.ret rfl rfl (nrm_le (l := []) hm (LeA.nil' rfl)))
      · have h6 : ¬ ((pairS r).length : Int) > 1000 := of_decide_eq_false h6
        rw [if_neg (by omega)] at hm
        exact Sat.go (Eq.refl _) (NS.ret rfl rfl (nrm_le hm (LeA.refl _)))
theorem combineIntersect_ok (a b : List Spn) : FnOK Try.prog 35 [slS a, slS b, .fn 43 []] (.tup [slS (combM fI a b).1, .int .i64 (combM fI a b).2], none) := by
  refine fn_ok CC rfl (by kernel_rfl) Try.func35 rfl ?_
  refine Sat.go (Eq.refl _) (NS.call (check_ok a) rfl ?_)
  refine Sat.go (Eq.refl _) (NS.ite (fun h0 => ?_) (fun h0 => ?_))
  · exact Sat.go (Eq.refl _) (NS.ret rfl rfl (nrm_le (l := []) (combM_bad (.inl h0)) (LeA.nil' rfl)))
  refine Sat.go (Eq.refl _) (NS.call (check_ok b) rfl ?_)
  refine Sat.go (Eq.refl _) (NS.ite (fun h1 => ?_) (fun h1 => ?_))
  · exact Sat.go (Eq.refl _) (NS.ret rfl rfl (nrm_le (l := []) (combM_bad (.inr h1)) (LeA.nil' rfl)))
  have ha := (chkS_none (chk_z h0)).2
  have hb := (chkS_none (chk_z h1)).2
  have hm := combM_go (f := fI) h0 h1
  refine Sat.go (Eq.refl _) (NS.call (points_ok a b) rfl ?_)
  refine Sat.go (Eq.refl _) (NS.chk (by kernel_rfl) ?_)
  refine Sat.go (Eq.refl _) ?_
  refine NS.loop (σ := { s : Nat × Nat × List Int // Inv fI a b s.1 s.2.1 s.2.2 }) (fun s => [(0, .yld 61), (4, .ptr 75 0), (5, .ptr 78 0)]) (fun s => [(8, .box [.own 62]), (9, .box [.bool (odd s.1.2.2.length)]), (62, .row 24 2 (pairS s.1.2.2).length (rowL Spn.cells (pairS s.1.2.2))), (75, .box (sideC a s.1.1)), (78, .box (sideC b s.1.2.1))]) (fun s => 2 * a.length + 2 * b.length - s.1.1 - s.1.2.1) ⟨(0, 0, []), Inv.start rfl a b⟩ ?_ ?_
  · exact (weak_promoteB 8 0 62 24 2 (rowL Spn.cells []) rfl rfl rfl).trans (weak_hd [] rfl ⟨rfl, rfl, rfl, trivial⟩ ⟨⟨_, rfl, _, _, rfl, rfl, rfl⟩, ⟨_, rfl, _, _, rfl, ren_kb rfl rfl, rfl⟩, ren_row rfl rfl fun _ _ _ _ => rfl, ⟨_, rfl, _, _, rfl, rfl, _, _, rfl, ren_int rfl (by simp), _, _, rfl, ren_bool rfl rfl, rfl⟩, ⟨_, rfl, _, _, rfl, rfl, _, _, rfl, ren_int rfl (by simp), _, _, rfl, ren_bool rfl rfl, rfl⟩, trivial⟩ (by repeat' (first | exact trivial | refine ⟨.inr rfl, ?_⟩ | refine ⟨.inl rfl, ?_⟩)) (by kernel_rfl))
  rintro ⟨⟨p, q, r⟩, inv⟩
  simp only at inv
  have hp := inv.hp
  have hq := inv.hq
  by_cases h2 : p < 2 * a.length
  · refine Sat.go (Eq.refl _) (NS.call (next_t h2 (by omega)) rfl ?_)
    by_cases h3 : q < 2 * b.length
    · refine Sat.go (Eq.refl _) (NS.call (next_t h3 (by omega)) rfl ?_)
      refine Sat.go (Eq.refl _) (NS.no rfl ?_)
      refine Sat.go (Eq.refl _) (NS.no rfl ?_)
      refine Sat.go (Eq.refl _) (NS.yes rfl ?_)
      refine Sat.go (Eq.refl _) (NS.ite (fun h4 => ?_) (fun h4 => ?_))
      · have h4 : ((flatS b).getD q default) < ((flatS a).getD p default) := of_decide_eq_true h4
        have i2 := inv.gt h2 h3 h4
        refine Sat.go (Eq.refl _) (NS.call (next_t h2 (by omega)) rfl ?_)
        refine Sat.go (Eq.refl _) (NS.no rfl ?_)
        refine Sat.go (Eq.refl _) (NS.yes (bne_iff_ne.2 (show ((flatS a).getD p default) ≠ ((flatS b).getD q default) by omega)) ?_)
        refine Sat.go (Eq.refl _) (NS.call (next_t h3 (by omega)) rfl ?_)
        refine Sat.go (Eq.refl _) (NS.no rfl ?_)
        refine Sat.go (Eq.refl _) (NS.no (bne_eq_false_iff_eq.2 rfl) ?_)
        refine Sat.go (Eq.refl _) (NS.ite (fun hy => ?_) (fun hy => ?_))
        · have hy : odd q = true := hy
          refine Sat.go (Eq.refl _) (NS.chk (by kernel_rfl) ?_)
          refine Sat.go (Eq.refl _) (NS.yes rfl ?_)
          refine Sat.go (Eq.refl _) (NS.no rfl ?_)
          refine Sat.go (Eq.refl _) (NS.yes rfl ?_)
          refine Sat.go (Eq.refl _) (NS.call (bIntersect_ok (odd p) (!odd q)) rfl ?_)
          refine Sat.go (Eq.refl _) (NS.ite (fun n1 => ?_) (fun n1 => ?_))
          · refine Sat.go (Eq.refl _) (NS.ite (fun n2 => ?_) (fun n2 => ?_))
            · have n2 : (!odd r.length) = true := n2
              rw [emit_app inv.par n1 n2] at i2
              have hpar : fI (odd p) (!odd q) = odd (r ++ [((flatS b).getD q default)]).length := by rw [i2.par]; simp only [odd_s]
              refine Sat.go (Eq.refl _) (NS.need (decide_eq_true (by show ((pairS r).length + 1) * _ ≤ _; simp only [maxRow]; rw [pair_len]; have := inv.len; omega)) ?_)
              refine Sat.go (Eq.refl _) (NS.next ⟨(p, (q + 1), r ++ [((flatS b).getD q default)]), i2⟩ (by simp only; omega) ?_)
              refine weak_hd [(62, 168)] rfl ⟨rfl, rfl, rfl, trivial⟩ ⟨⟨_, rfl, _, _, rfl, rfl, rfl⟩, ⟨_, rfl, _, _, rfl, ren_bool rfl hpar, rfl⟩, ren_row rfl (by show (pairS r).length + 1 = (pairS (r ++ [((flatS b).getD q default)])).length; rw [pair_even r _ (not_t n2)]; simp) fun i hi j hj => ?_, ⟨_, rfl, _, _, rfl, rfl, _, _, rfl, ren_int rfl rfl, _, _, rfl, ren_bool rfl rfl, rfl⟩, ⟨_, rfl, _, _, rfl, rfl, _, _, rfl, ren_int rfl (half_odd hy (by omega) hq), _, _, rfl, ren_bool rfl (not_odd q), rfl⟩, trivial⟩ (by repeat' (first | exact trivial | refine ⟨.inr rfl, ?_⟩ | refine ⟨.inl rfl, ?_⟩)) (by kernel_rfl)
              have hi : i < (pairS (r ++ [((flatS b).getD q default)])).length := hi
              show _ = rowL Spn.cells (pairS (r ++ [((flatS b).getD q default)])) i j
              rw [pair_even r _ (not_t n2)] at hi ⊢
              exact row_snoc (cells := Spn.cells) (l := pairS r) (x := ⟨((flatS b).getD q default), 0⟩) rfl i (by simpa using hi) j hj
            · have n2 : (!odd r.length) = false := n2
              refine Sat.go (Eq.refl _) (NS.no (by rw [n1]; rfl) ?_)
              rw [emit_same1 inv.par n1 n2] at i2
              have hpar : fI (odd p) (!odd q) = odd (r).length := by rw [i2.par]; simp only [odd_s]
              refine Sat.go (Eq.refl _) (NS.next ⟨(p, (q + 1), r), i2⟩ (by simp only; omega) ?_)
              exact weak_hd [] rfl ⟨rfl, rfl, rfl, trivial⟩ ⟨⟨_, rfl, _, _, rfl, rfl, rfl⟩, ⟨_, rfl, _, _, rfl, ren_bool rfl hpar, rfl⟩, ren_row rfl rfl fun _ _ _ _ => rfl, ⟨_, rfl, _, _, rfl, rfl, _, _, rfl, ren_int rfl rfl, _, _, rfl, ren_bool rfl rfl, rfl⟩, ⟨_, rfl, _, _, rfl, rfl, _, _, rfl, ren_int rfl (half_odd hy (by omega) hq), _, _, rfl, ren_bool rfl (not_odd q), rfl⟩, trivial⟩ (by repeat' (first | exact trivial | refine ⟨.inr rfl, ?_⟩ | refine ⟨.inl rfl, ?_⟩)) (by kernel_rfl)
          · refine Sat.go (Eq.refl _) (NS.yes (by rw [n1]; rfl) ?_)
            refine Sat.go (Eq.refl _) (NS.ite (fun n2 => ?_) (fun n2 => ?_))
            · have n2 : odd r.length = true := n2
              rw [emit_set inv.par n1 n2] at i2
              have hpar : fI (odd p) (!odd q) = odd (r ++ [((flatS b).getD q default)]).length := by rw [i2.par]; simp only [odd_s]
              obtain ⟨hod, hlen⟩ := pair_odd r ((flatS b).getD q default) n2
              have e1 : IntKind.i64.wrap (((pairS r).length : Int) - 1) = (((pairS r).length - 1 : Nat) : Int) := by have := inv.len; have := pair_len r; rw [wrap_i64 (by omega) (by omega)]; omega
              refine Sat.go (Eq.refl _) (NS.need (by rw [e1]; simp; omega) ?_)
              rw [e1]
              refine Sat.go (Eq.refl _) (NS.need (by simp; omega) ?_)
              refine Sat.go (Eq.refl _) (NS.next ⟨(p, (q + 1), r ++ [((flatS b).getD q default)]), i2⟩ (by simp only; omega) ?_)
              refine weak_hd [] rfl ⟨rfl, rfl, rfl, trivial⟩ ⟨⟨_, rfl, _, _, rfl, rfl, rfl⟩, ⟨_, rfl, _, _, rfl, ren_bool rfl hpar, rfl⟩, ren_row rfl (by show (pairS r).length = (pairS (r ++ [((flatS b).getD q default)])).length; rw [hod]; simp) fun i hi j hj => ?_, ⟨_, rfl, _, _, rfl, rfl, _, _, rfl, ren_int rfl rfl, _, _, rfl, ren_bool rfl rfl, rfl⟩, ⟨_, rfl, _, _, rfl, rfl, _, _, rfl, ren_int rfl (half_odd hy (by omega) hq), _, _, rfl, ren_bool rfl (not_odd q), rfl⟩, trivial⟩ (by repeat' (first | exact trivial | refine ⟨.inr rfl, ?_⟩ | refine ⟨.inl rfl, ?_⟩)) (by kernel_rfl)
              show _ = rowL Spn.cells (pairS (r ++ [((flatS b).getD q default)])) i j
              rw [hod]
              exact row_hi (pairS r) (by omega) rfl i j hj
            · have n2 : odd r.length = false := n2
              rw [emit_same0 inv.par n1 n2] at i2
              have hpar : fI (odd p) (!odd q) = odd (r).length := by rw [i2.par]; simp only [odd_s]
              refine Sat.go (Eq.refl _) (NS.next ⟨(p, (q + 1), r), i2⟩ (by simp only; omega) ?_)
              exact weak_hd [] rfl ⟨rfl, rfl, rfl, trivial⟩ ⟨⟨_, rfl, _, _, rfl, rfl, rfl⟩, ⟨_, rfl, _, _, rfl, ren_bool rfl hpar, rfl⟩, ren_row rfl rfl fun _ _ _ _ => rfl, ⟨_, rfl, _, _, rfl, rfl, _, _, rfl, ren_int rfl rfl, _, _, rfl, ren_bool rfl rfl, rfl⟩, ⟨_, rfl, _, _, rfl, rfl, _, _, rfl, ren_int rfl (half_odd hy (by omega) hq), _, _, rfl, ren_bool rfl (not_odd q), rfl⟩, trivial⟩ (by repeat' (first | exact trivial | refine ⟨.inr rfl, ?_⟩ | refine ⟨.inl rfl, ?_⟩)) (by kernel_rfl)
        · have hy : odd q = false := hy
          refine Sat.go (Eq.refl _) (NS.chk (by kernel_rfl) ?_)
          refine Sat.go (Eq.refl _) (NS.yes rfl ?_)
          refine Sat.go (Eq.refl _) (NS.no rfl ?_)
          refine Sat.go (Eq.refl _) (NS.yes rfl ?_)
          refine Sat.go (Eq.refl _) (NS.call (bIntersect_ok (odd p) (!odd q)) rfl ?_)
          refine Sat.go (Eq.refl _) (NS.ite (fun n1 => ?_) (fun n1 => ?_))
          · refine Sat.go (Eq.refl _) (NS.ite (fun n2 => ?_) (fun n2 => ?_))
            · have n2 : (!odd r.length) = true := n2
              rw [emit_app inv.par n1 n2] at i2
              have hpar : fI (odd p) (!odd q) = odd (r ++ [((flatS b).getD q default)]).length := by rw [i2.par]; simp only [odd_s]
              refine Sat.go (Eq.refl _) (NS.need (decide_eq_true (by show ((pairS r).length + 1) * _ ≤ _; simp only [maxRow]; rw [pair_len]; have := inv.len; omega)) ?_)
              refine Sat.go (Eq.refl _) (NS.next ⟨(p, (q + 1), r ++ [((flatS b).getD q default)]), i2⟩ (by simp only; omega) ?_)
              refine weak_hd [(62, 168)] rfl ⟨rfl, rfl, rfl, trivial⟩ ⟨⟨_, rfl, _, _, rfl, rfl, rfl⟩, ⟨_, rfl, _, _, rfl, ren_bool rfl hpar, rfl⟩, ren_row rfl (by show (pairS r).length + 1 = (pairS (r ++ [((flatS b).getD q default)])).length; rw [pair_even r _ (not_t n2)]; simp) fun i hi j hj => ?_, ⟨_, rfl, _, _, rfl, rfl, _, _, rfl, ren_int rfl rfl, _, _, rfl, ren_bool rfl rfl, rfl⟩, ⟨_, rfl, _, _, rfl, rfl, _, _, rfl, ren_int rfl (half_even hy), _, _, rfl, ren_bool rfl (not_odd q), rfl⟩, trivial⟩ (by repeat' (first | exact trivial | refine ⟨.inr rfl, ?_⟩ | refine ⟨.inl rfl, ?_⟩)) (by kernel_rfl)
              have hi : i < (pairS (r ++ [((flatS b).getD q default)])).length := hi
              show _ = rowL Spn.cells (pairS (r ++ [((flatS b).getD q default)])) i j
              rw [pair_even r _ (not_t n2)] at hi ⊢
              exact row_snoc (cells := Spn.cells) (l := pairS r) (x := ⟨((flatS b).getD q default), 0⟩) rfl i (by simpa using hi) j hj
            · have n2 : (!odd r.length) = false := n2
              refine Sat.go (Eq.refl _) (NS.no (by rw [n1]; rfl) ?_)
              rw [emit_same1 inv.par n1 n2] at i2
              have hpar : fI (odd p) (!odd q) = odd (r).length := by rw [i2.par]; simp only [odd_s]
              refine Sat.go (Eq.refl _) (NS.next ⟨(p, (q + 1), r), i2⟩ (by simp only; omega) ?_)
              exact weak_hd [] rfl ⟨rfl, rfl, rfl, trivial⟩ ⟨⟨_, rfl, _, _, rfl, rfl, rfl⟩, ⟨_, rfl, _, _, rfl, ren_bool rfl hpar, rfl⟩, ren_row rfl rfl fun _ _ _ _ => rfl, ⟨_, rfl, _, _, rfl, rfl, _, _, rfl, ren_int rfl rfl, _, _, rfl, ren_bool rfl rfl, rfl⟩, ⟨_, rfl, _, _, rfl, rfl, _, _, rfl, ren_int rfl (half_even hy), _, _, rfl, ren_bool rfl (not_odd q), rfl⟩, trivial⟩ (by repeat' (first | exact trivial | refine ⟨.inr rfl, ?_⟩ | refine ⟨.inl rfl, ?_⟩)) (by kernel_rfl)
          · refine Sat.go (Eq.refl _) (NS.yes (by rw [n1]; rfl) ?_)
            refine Sat.go (Eq.refl _) (NS.ite (fun n2 => ?_) (fun n2 => ?_))
            · have n2 : odd r.length = true := n2
              rw [emit_set inv.par n1 n2] at i2
              have hpar : fI (odd p) (!odd q) = odd (r ++ [((flatS b).getD q default)]).length := by rw [i2.par]; simp only [odd_s]
              obtain ⟨hod, hlen⟩ := pair_odd r ((flatS b).getD q default) n2
              have e1 : IntKind.i64.wrap (((pairS r).length : Int) - 1) = (((pairS r).length - 1 : Nat) : Int) := by have := inv.len; have := pair_len r; rw [wrap_i64 (by omega) (by omega)]; omega
              refine Sat.go (Eq.refl _) (NS.need (by rw [e1]; simp; omega) ?_)
              rw [e1]
              refine Sat.go (Eq.refl _) (NS.need (by simp; omega) ?_)
              refine Sat.go (Eq.refl _) (NS.next ⟨(p, (q + 1), r ++ [((flatS b).getD q default)]), i2⟩ (by simp only; omega) ?_)
              refine weak_hd [] rfl ⟨rfl, rfl, rfl, trivial⟩ ⟨⟨_, rfl, _, _, rfl, rfl, rfl⟩, ⟨_, rfl, _, _, rfl, ren_bool rfl hpar, rfl⟩, ren_row rfl (by show (pairS r).length = (pairS (r ++ [((flatS b).getD q default)])).length; rw [hod]; simp) fun i hi j hj => ?_, ⟨_, rfl, _, _, rfl, rfl, _, _, rfl, ren_int rfl rfl, _, _, rfl, ren_bool rfl rfl, rfl⟩, ⟨_, rfl, _, _, rfl, rfl, _, _, rfl, ren_int rfl (half_even hy), _, _, rfl, ren_bool rfl (not_odd q), rfl⟩, trivial⟩ (by repeat' (first | exact trivial | refine ⟨.inr rfl, ?_⟩ | refine ⟨.inl rfl, ?_⟩)) (by kernel_rfl)
              show _ = rowL Spn.cells (pairS (r ++ [((flatS b).getD q default)])) i j
              rw [hod]
              exact row_hi (pairS r) (by omega) rfl i j hj
            · have n2 : odd r.length = false := n2
              rw [emit_same0 inv.par n1 n2] at i2
              have hpar : fI (odd p) (!odd q) = odd (r).length := by rw [i2.par]; simp only [odd_s]
              refine Sat.go (Eq.refl _) (NS.next ⟨(p, (q + 1), r), i2⟩ (by simp only; omega) ?_)
              exact weak_hd [] rfl ⟨rfl, rfl, rfl, trivial⟩ ⟨⟨_, rfl, _, _, rfl, rfl, rfl⟩, ⟨_, rfl, _, _, rfl, ren_bool rfl hpar, rfl⟩, ren_row rfl rfl fun _ _ _ _ => rfl, ⟨_, rfl, _, _, rfl, rfl, _, _, rfl, ren_int rfl rfl, _, _, rfl, ren_bool rfl rfl, rfl⟩, ⟨_, rfl, _, _, rfl, rfl, _, _, rfl, ren_int rfl (half_even hy), _, _, rfl, ren_bool rfl (not_odd q), rfl⟩, trivial⟩ (by repeat' (first | exact trivial | refine ⟨.inr rfl, ?_⟩ | refine ⟨.inl rfl, ?_⟩)) (by kernel_rfl)
      · have h4 : ¬ ((flatS b).getD q default) < ((flatS a).getD p default) := of_decide_eq_false h4
        refine Sat.go (Eq.refl _) (NS.call (next_t h2 (by omega)) rfl ?_)
        refine Sat.go (Eq.refl _) (NS.no rfl ?_)
        refine Sat.go (Eq.refl _) (NS.no (bne_eq_false_iff_eq.2 rfl) ?_)
        refine Sat.go (Eq.refl _) (NS.ite (fun hx => ?_) (fun hx => ?_))
        · have hx : odd p = true := hx
          refine Sat.go (Eq.refl _) (NS.call (next_t h3 (by omega)) rfl ?_)
          refine Sat.go (Eq.refl _) (NS.no rfl ?_)
          refine Sat.go (Eq.refl _) (NS.ite (fun h5 => ?_) (fun h5 => ?_))
          · have h5 : ((flatS b).getD q default) ≠ ((flatS a).getD p default) := bne_iff_ne.1 h5
            have i2 := inv.lt h2 h3 (by omega)
            refine Sat.go (Eq.refl _) (NS.chk (by kernel_rfl) ?_)
            refine Sat.go (Eq.refl _) (NS.yes rfl ?_)
            refine Sat.go (Eq.refl _) (NS.no rfl ?_)
            refine Sat.go (Eq.refl _) (NS.yes rfl ?_)
            refine Sat.go (Eq.refl _) (NS.call (bIntersect_ok (!odd p) (odd q)) rfl ?_)
            refine Sat.go (Eq.refl _) (NS.ite (fun n1 => ?_) (fun n1 => ?_))
            · refine Sat.go (Eq.refl _) (NS.ite (fun n2 => ?_) (fun n2 => ?_))
              · have n2 : (!odd r.length) = true := n2
                rw [emit_app inv.par n1 n2] at i2
                have hpar : fI (!odd p) (odd q) = odd (r ++ [((flatS a).getD p default)]).length := by rw [i2.par]; simp only [odd_s]
                refine Sat.go (Eq.refl _) (NS.need (decide_eq_true (by show ((pairS r).length + 1) * _ ≤ _; simp only [maxRow]; rw [pair_len]; have := inv.len; omega)) ?_)
                refine Sat.go (Eq.refl _) (NS.next ⟨((p + 1), q, r ++ [((flatS a).getD p default)]), i2⟩ (by simp only; omega) ?_)
                refine weak_hd [(62, 168)] rfl ⟨rfl, rfl, rfl, trivial⟩ ⟨⟨_, rfl, _, _, rfl, rfl, rfl⟩, ⟨_, rfl, _, _, rfl, ren_bool rfl hpar, rfl⟩, ren_row rfl (by show (pairS r).length + 1 = (pairS (r ++ [((flatS a).getD p default)])).length; rw [pair_even r _ (not_t n2)]; simp) fun i hi j hj => ?_, ⟨_, rfl, _, _, rfl, rfl, _, _, rfl, ren_int rfl (half_odd hx (by omega) hp), _, _, rfl, ren_bool rfl (not_odd p), rfl⟩, ⟨_, rfl, _, _, rfl, rfl, _, _, rfl, ren_int rfl rfl, _, _, rfl, ren_bool rfl rfl, rfl⟩, trivial⟩ (by repeat' (first | exact trivial | refine ⟨.inr rfl, ?_⟩ | refine ⟨.inl rfl, ?_⟩)) (by kernel_rfl)
                have hi : i < (pairS (r ++ [((flatS a).getD p default)])).length := hi
                show _ = rowL Spn.cells (pairS (r ++ [((flatS a).getD p default)])) i j
                rw [pair_even r _ (not_t n2)] at hi ⊢
                exact row_snoc (cells := Spn.cells) (l := pairS r) (x := ⟨((flatS a).getD p default), 0⟩) rfl i (by simpa using hi) j hj
              · have n2 : (!odd r.length) = false := n2
                refine Sat.go (Eq.refl _) (NS.no (by rw [n1]; rfl) ?_)
                rw [emit_same1 inv.par n1 n2] at i2
                have hpar : fI (!odd p) (odd q) = odd (r).length := by rw [i2.par]; simp only [odd_s]
                refine Sat.go (Eq.refl _) (NS.next ⟨((p + 1), q, r), i2⟩ (by simp only; omega) ?_)
                exact weak_hd [] rfl ⟨rfl, rfl, rfl, trivial⟩ ⟨⟨_, rfl, _, _, rfl, rfl, rfl⟩, ⟨_, rfl, _, _, rfl, ren_bool rfl hpar, rfl⟩, ren_row rfl rfl fun _ _ _ _ => rfl, ⟨_, rfl, _, _, rfl, rfl, _, _, rfl, ren_int rfl (half_odd hx (by omega) hp), _, _, rfl, ren_bool rfl (not_odd p), rfl⟩, ⟨_, rfl, _, _, rfl, rfl, _, _, rfl, ren_int rfl rfl, _, _, rfl, ren_bool rfl rfl, rfl⟩, trivial⟩ (by repeat' (first | exact trivial | refine ⟨.inr rfl, ?_⟩ | refine ⟨.inl rfl, ?_⟩)) (by kernel_rfl)
            · refine Sat.go (Eq.refl _) (NS.yes (by rw [n1]; rfl) ?_)
              refine Sat.go (Eq.refl _) (NS.ite (fun n2 => ?_) (fun n2 => ?_))
              · have n2 : odd r.length = true := n2
                rw [emit_set inv.par n1 n2] at i2
                have hpar : fI (!odd p) (odd q) = odd (r ++ [((flatS a).getD p default)]).length := by rw [i2.par]; simp only [odd_s]
                obtain ⟨hod, hlen⟩ := pair_odd r ((flatS a).getD p default) n2
                have e1 : IntKind.i64.wrap (((pairS r).length : Int) - 1) = (((pairS r).length - 1 : Nat) : Int) := by have := inv.len; have := pair_len r; rw [wrap_i64 (by omega) (by omega)]; omega
                refine Sat.go (Eq.refl _) (NS.need (by rw [e1]; simp; omega) ?_)
                rw [e1]
                refine Sat.go (Eq.refl _) (NS.need (by simp; omega) ?_)
                refine Sat.go (Eq.refl _) (NS.next ⟨((p + 1), q, r ++ [((flatS a).getD p default)]), i2⟩ (by simp only; omega) ?_)
                refine weak_hd [] rfl ⟨rfl, rfl, rfl, trivial⟩ ⟨⟨_, rfl, _, _, rfl, rfl, rfl⟩, ⟨_, rfl, _, _, rfl, ren_bool rfl hpar, rfl⟩, ren_row rfl (by show (pairS r).length = (pairS (r ++ [((flatS a).getD p default)])).length; rw [hod]; simp) fun i hi j hj => ?_, ⟨_, rfl, _, _, rfl, rfl, _, _, rfl, ren_int rfl (half_odd hx (by omega) hp), _, _, rfl, ren_bool rfl (not_odd p), rfl⟩, ⟨_, rfl, _, _, rfl, rfl, _, _, rfl, ren_int rfl rfl, _, _, rfl, ren_bool rfl rfl, rfl⟩, trivial⟩ (by repeat' (first | exact trivial | refine ⟨.inr rfl, ?_⟩ | refine ⟨.inl rfl, ?_⟩)) (by kernel_rfl)
                show _ = rowL Spn.cells (pairS (r ++ [((flatS a).getD p default)])) i j
                rw [hod]
                exact row_hi (pairS r) (by omega) rfl i j hj
              · have n2 : odd r.length = false := n2
                rw [emit_same0 inv.par n1 n2] at i2
                have hpar : fI (!odd p) (odd q) = odd (r).length := by rw [i2.par]; simp only [odd_s]
                refine Sat.go (Eq.refl _) (NS.next ⟨((p + 1), q, r), i2⟩ (by simp only; omega) ?_)
                exact weak_hd [] rfl ⟨rfl, rfl, rfl, trivial⟩ ⟨⟨_, rfl, _, _, rfl, rfl, rfl⟩, ⟨_, rfl, _, _, rfl, ren_bool rfl hpar, rfl⟩, ren_row rfl rfl fun _ _ _ _ => rfl, ⟨_, rfl, _, _, rfl, rfl, _, _, rfl, ren_int rfl (half_odd hx (by omega) hp), _, _, rfl, ren_bool rfl (not_odd p), rfl⟩, ⟨_, rfl, _, _, rfl, rfl, _, _, rfl, ren_int rfl rfl, _, _, rfl, ren_bool rfl rfl, rfl⟩, trivial⟩ (by repeat' (first | exact trivial | refine ⟨.inr rfl, ?_⟩ | refine ⟨.inl rfl, ?_⟩)) (by kernel_rfl)
          · have h5 : ((flatS b).getD q default) = ((flatS a).getD p default) := bne_eq_false_iff_eq.1 h5
            have i2 := inv.eq h2 h3 h5.symm
            refine Sat.go (Eq.refl _) (NS.ite (fun hy => ?_) (fun hy => ?_))
            · have hy : odd q = true := hy
              refine Sat.go (Eq.refl _) (NS.chk (by kernel_rfl) ?_)
              refine Sat.go (Eq.refl _) (NS.yes rfl ?_)
              refine Sat.go (Eq.refl _) (NS.no rfl ?_)
              refine Sat.go (Eq.refl _) (NS.yes rfl ?_)
              refine Sat.go (Eq.refl _) (NS.call (bIntersect_ok (!odd p) (!odd q)) rfl ?_)
              refine Sat.go (Eq.refl _) (NS.ite (fun n1 => ?_) (fun n1 => ?_))
              · refine Sat.go (Eq.refl _) (NS.ite (fun n2 => ?_) (fun n2 => ?_))
                · have n2 : (!odd r.length) = true := n2
                  rw [emit_app inv.par n1 n2] at i2
                  have hpar : fI (!odd p) (!odd q) = odd (r ++ [((flatS a).getD p default)]).length := by rw [i2.par]; simp only [odd_s]
                  refine Sat.go (Eq.refl _) (NS.need (decide_eq_true (by show ((pairS r).length + 1) * _ ≤ _; simp only [maxRow]; rw [pair_len]; have := inv.len; omega)) ?_)
                  refine Sat.go (Eq.refl _) (NS.next ⟨((p + 1), (q + 1), r ++ [((flatS a).getD p default)]), i2⟩ (by simp only; omega) ?_)
                  refine weak_hd [(62, 168)] rfl ⟨rfl, rfl, rfl, trivial⟩ ⟨⟨_, rfl, _, _, rfl, rfl, rfl⟩, ⟨_, rfl, _, _, rfl, ren_bool rfl hpar, rfl⟩, ren_row rfl (by show (pairS r).length + 1 = (pairS (r ++ [((flatS a).getD p default)])).length; rw [pair_even r _ (not_t n2)]; simp) fun i hi j hj => ?_, ⟨_, rfl, _, _, rfl, rfl, _, _, rfl, ren_int rfl (half_odd hx (by omega) hp), _, _, rfl, ren_bool rfl (not_odd p), rfl⟩, ⟨_, rfl, _, _, rfl, rfl, _, _, rfl, ren_int rfl (half_odd hy (by omega) hq), _, _, rfl, ren_bool rfl (not_odd q), rfl⟩, trivial⟩ (by repeat' (first | exact trivial | refine ⟨.inr rfl, ?_⟩ | refine ⟨.inl rfl, ?_⟩)) (by kernel_rfl)
                  have hi : i < (pairS (r ++ [((flatS a).getD p default)])).length := hi
                  show _ = rowL Spn.cells (pairS (r ++ [((flatS a).getD p default)])) i j
                  rw [pair_even r _ (not_t n2)] at hi ⊢
                  exact row_snoc (cells := Spn.cells) (l := pairS r) (x := ⟨((flatS a).getD p default), 0⟩) rfl i (by simpa using hi) j hj
                · have n2 : (!odd r.length) = false := n2
                  refine Sat.go (Eq.refl _) (NS.no (by rw [n1]; rfl) ?_)
                  rw [emit_same1 inv.par n1 n2] at i2
                  have hpar : fI (!odd p) (!odd q) = odd (r).length := by rw [i2.par]; simp only [odd_s]
                  refine Sat.go (Eq.refl _) (NS.next ⟨((p + 1), (q + 1), r), i2⟩ (by simp only; omega) ?_)
                  exact weak_hd [] rfl ⟨rfl, rfl, rfl, trivial⟩ ⟨⟨_, rfl, _, _, rfl, rfl, rfl⟩, ⟨_, rfl, _, _, rfl, ren_bool rfl hpar, rfl⟩, ren_row rfl rfl fun _ _ _ _ => rfl, ⟨_, rfl, _, _, rfl, rfl, _, _, rfl, ren_int rfl (half_odd hx (by omega) hp), _, _, rfl, ren_bool rfl (not_odd p), rfl⟩, ⟨_, rfl, _, _, rfl, rfl, _, _, rfl, ren_int rfl (half_odd hy (by omega) hq), _, _, rfl, ren_bool rfl (not_odd q), rfl⟩, trivial⟩ (by repeat' (first | exact trivial | refine ⟨.inr rfl, ?_⟩ | refine ⟨.inl rfl, ?_⟩)) (by kernel_rfl)
              · refine Sat.go (Eq.refl _) (NS.yes (by rw [n1]; rfl) ?_)
                refine Sat.go (Eq.refl _) (NS.ite (fun n2 => ?_) (fun n2 => ?_))
                · have n2 : odd r.length = true := n2
                  rw [emit_set inv.par n1 n2] at i2
                  have hpar : fI (!odd p) (!odd q) = odd (r ++ [((flatS a).getD p default)]).length := by rw [i2.par]; simp only [odd_s]
                  obtain ⟨hod, hlen⟩ := pair_odd r ((flatS a).getD p default) n2
                  have e1 : IntKind.i64.wrap (((pairS r).length : Int) - 1) = (((pairS r).length - 1 : Nat) : Int) := by have := inv.len; have := pair_len r; rw [wrap_i64 (by omega) (by omega)]; omega
                  refine Sat.go (Eq.refl _) (NS.need (by rw [e1]; simp; omega) ?_)
                  rw [e1]
                  refine Sat.go (Eq.refl _) (NS.need (by simp; omega) ?_)
                  refine Sat.go (Eq.refl _) (NS.next ⟨((p + 1), (q + 1), r ++ [((flatS a).getD p default)]), i2⟩ (by simp only; omega) ?_)
                  refine weak_hd [] rfl ⟨rfl, rfl, rfl, trivial⟩ ⟨⟨_, rfl, _, _, rfl, rfl, rfl⟩, ⟨_, rfl, _, _, rfl, ren_bool rfl hpar, rfl⟩, ren_row rfl (by show (pairS r).length = (pairS (r ++ [((flatS a).getD p default)])).length; rw [hod]; simp) fun i hi j hj => ?_, ⟨_, rfl, _, _, rfl, rfl, _, _, rfl, ren_int rfl (half_odd hx (by omega) hp), _, _, rfl, ren_bool rfl (not_odd p), rfl⟩, ⟨_, rfl, _, _, rfl, rfl, _, _, rfl, ren_int rfl (half_odd hy (by omega) hq), _, _, rfl, ren_bool rfl (not_odd q), rfl⟩, trivial⟩ (by repeat' (first | exact trivial | refine ⟨.inr rfl, ?_⟩ | refine ⟨.inl rfl, ?_⟩)) (by kernel_rfl)
                  show _ = rowL Spn.cells (pairS (r ++ [((flatS a).getD p default)])) i j
                  rw [hod]
                  exact row_hi (pairS r) (by omega) rfl i j hj
                · have n2 : odd r.length = false := n2
                  rw [emit_same0 inv.par n1 n2] at i2
                  have hpar : fI (!odd p) (!odd q) = odd (r).length := by rw [i2.par]; simp only [odd_s]
                  refine Sat.go (Eq.refl _) (NS.next ⟨((p + 1), (q + 1), r), i2⟩ (by simp only; omega) ?_)
                  exact weak_hd [] rfl ⟨rfl, rfl, rfl, trivial⟩ ⟨⟨_, rfl, _, _, rfl, rfl, rfl⟩, ⟨_, rfl, _, _, rfl, ren_bool rfl hpar, rfl⟩, ren_row rfl rfl fun _ _ _ _ => rfl, ⟨_, rfl, _, _, rfl, rfl, _, _, rfl, ren_int rfl (half_odd hx (by omega) hp), _, _, rfl, ren_bool rfl (not_odd p), rfl⟩, ⟨_, rfl, _, _, rfl, rfl, _, _, rfl, ren_int rfl (half_odd hy (by omega) hq), _, _, rfl, ren_bool rfl (not_odd q), rfl⟩, trivial⟩ (by repeat' (first | exact trivial | refine ⟨.inr rfl, ?_⟩ | refine ⟨.inl rfl, ?_⟩)) (by kernel_rfl)
            · have hy : odd q = false := hy
              refine Sat.go (Eq.refl _) (NS.chk (by kernel_rfl) ?_)
              refine Sat.go (Eq.refl _) (NS.yes rfl ?_)
              refine Sat.go (Eq.refl _) (NS.no rfl ?_)
              refine Sat.go (Eq.refl _) (NS.yes rfl ?_)
              refine Sat.go (Eq.refl _) (NS.call (bIntersect_ok (!odd p) (!odd q)) rfl ?_)
              refine Sat.go (Eq.refl _) (NS.ite (fun n1 => ?_) (fun n1 => ?_))
              · refine Sat.go (Eq.refl _) (NS.ite (fun n2 => ?_) (fun n2 => ?_))
                · have n2 : (!odd r.length) = true := n2
                  rw [emit_app inv.par n1 n2] at i2
                  have hpar : fI (!odd p) (!odd q) = odd (r ++ [((flatS a).getD p default)]).length := by rw [i2.par]; simp only [odd_s]
                  refine Sat.go (Eq.refl _) (NS.need (decide_eq_true (by show ((pairS r).length + 1) * _ ≤ _; simp only [maxRow]; rw [pair_len]; have := inv.len; omega)) ?_)
                  refine Sat.go (Eq.refl _) (NS.next ⟨((p + 1), (q + 1), r ++ [((flatS a).getD p default)]), i2⟩ (by simp only; omega) ?_)
                  refine weak_hd [(62, 168)] rfl ⟨rfl, rfl, rfl, trivial⟩ ⟨⟨_, rfl, _, _, rfl, rfl, rfl⟩, ⟨_, rfl, _, _, rfl, ren_bool rfl hpar, rfl⟩, ren_row rfl (by show (pairS r).length + 1 = (pairS (r ++ [((flatS a).getD p default)])).length; rw [pair_even r _ (not_t n2)]; simp) fun i hi j hj => ?_, ⟨_, rfl, _, _, rfl, rfl, _, _, rfl, ren_int rfl (half_odd hx (by omega) hp), _, _, rfl, ren_bool rfl (not_odd p), rfl⟩, ⟨_, rfl, _, _, rfl, rfl, _, _, rfl, ren_int rfl (half_even hy), _, _, rfl, ren_bool rfl (not_odd q), rfl⟩, trivial⟩ (by repeat' (first | exact trivial | refine ⟨.inr rfl, ?_⟩ | refine ⟨.inl rfl, ?_⟩)) (by kernel_rfl)
                  have hi : i < (pairS (r ++ [((flatS a).getD p default)])).length := hi
                  show _ = rowL Spn.cells (pairS (r ++ [((flatS a).getD p default)])) i j
                  rw [pair_even r _ (not_t n2)] at hi ⊢
                  exact row_snoc (cells := Spn.cells) (l := pairS r) (x := ⟨((flatS a).getD p default), 0⟩) rfl i (by simpa using hi) j hj
                · have n2 : (!odd r.length) = false := n2
                  refine Sat.go (Eq.refl _) (NS.no (by rw [n1]; rfl) ?_)
                  rw [emit_same1 inv.par n1 n2] at i2
                  have hpar : fI (!odd p) (!odd q) = odd (r).length := by rw [i2.par]; simp only [odd_s]
                  refine Sat.go (Eq.refl _) (NS.next ⟨((p + 1), (q + 1), r), i2⟩ (by simp only; omega) ?_)
                  exact weak_hd [] rfl ⟨rfl, rfl, rfl, trivial⟩ ⟨⟨_, rfl, _, _, rfl, rfl, rfl⟩, ⟨_, rfl, _, _, rfl, ren_bool rfl hpar, rfl⟩, ren_row rfl rfl fun _ _ _ _ => rfl, ⟨_, rfl, _, _, rfl, rfl, _, _, rfl, ren_int rfl (half_odd hx (by omega) hp), _, _, rfl, ren_bool rfl (not_odd p), rfl⟩, ⟨_, rfl, _, _, rfl, rfl, _, _, rfl, ren_int rfl (half_even hy), _, _, rfl, ren_bool rfl (not_odd q), rfl⟩, trivial⟩ (by repeat' (first | exact trivial | refine ⟨.inr rfl, ?_⟩ | refine ⟨.inl rfl, ?_⟩)) (by kernel_rfl)
              · refine Sat.go (Eq.refl _) (NS.yes (by rw [n1]; rfl) ?_)
                refine Sat.go (Eq.refl _) (NS.ite (fun n2 => ?_) (fun n2 => ?_))
                · have n2 : odd r.length = true := n2
                  rw [emit_set inv.par n1 n2] at i2
                  have hpar : fI (!odd p) (!odd q) = odd (r ++ [((flatS a).getD p default)]).length := by rw [i2.par]; simp only [odd_s]
                  obtain ⟨hod, hlen⟩ := pair_odd r ((flatS a).getD p default) n2
                  have e1 : IntKind.i64.wrap (((pairS r).length : Int) - 1) = (((pairS r).length - 1 : Nat) : Int) := by have := inv.len; have := pair_len r; rw [wrap_i64 (by omega) (by omega)]; omega
                  refine Sat.go (Eq.refl _) (NS.need (by rw [e1]; simp; omega) ?_)
                  rw [e1]
                  refine Sat.go (Eq.refl _) (NS.need (by simp; omega) ?_)
                  refine Sat.go (Eq.refl _) (NS.next ⟨((p + 1), (q + 1), r ++ [((flatS a).getD p default)]), i2⟩ (by simp only; omega) ?_)
                  refine weak_hd [] rfl ⟨rfl, rfl, rfl, trivial⟩ ⟨⟨_, rfl, _, _, rfl, rfl, rfl⟩, ⟨_, rfl, _, _, rfl, ren_bool rfl hpar, rfl⟩, ren_row rfl (by show (pairS r).length = (pairS (r ++ [((flatS a).getD p default)])).length; rw [hod]; simp) fun i hi j hj => ?_, ⟨_, rfl, _, _, rfl, rfl, _, _, rfl, ren_int rfl (half_odd hx (by omega) hp), _, _, rfl, ren_bool rfl (not_odd p), rfl⟩, ⟨_, rfl, _, _, rfl, rfl, _, _, rfl, ren_int rfl (half_even hy), _, _, rfl, ren_bool rfl (not_odd q), rfl⟩, trivial⟩ (by repeat' (first | exact trivial | refine ⟨.inr rfl, ?_⟩ | refine ⟨.inl rfl, ?_⟩)) (by kernel_rfl)
                  show _ = rowL Spn.cells (pairS (r ++ [((flatS a).getD p default)])) i j
                  rw [hod]
                  exact row_hi (pairS r) (by omega) rfl i j hj
                · have n2 : odd r.length = false := n2
                  rw [emit_same0 inv.par n1 n2] at i2
                  have hpar : fI (!odd p) (!odd q) = odd (r).length := by rw [i2.par]; simp only [odd_s]
                  refine Sat.go (Eq.refl _) (NS.next ⟨((p + 1), (q + 1), r), i2⟩ (by simp only; omega) ?_)
                  exact weak_hd [] rfl ⟨rfl, rfl, rfl, trivial⟩ ⟨⟨_, rfl, _, _, rfl, rfl, rfl⟩, ⟨_, rfl, _, _, rfl, ren_bool rfl hpar, rfl⟩, ren_row rfl rfl fun _ _ _ _ => rfl, ⟨_, rfl, _, _, rfl, rfl, _, _, rfl, ren_int rfl (half_odd hx (by omega) hp), _, _, rfl, ren_bool rfl (not_odd p), rfl⟩, ⟨_, rfl, _, _, rfl, rfl, _, _, rfl, ren_int rfl (half_even hy), _, _, rfl, ren_bool rfl (not_odd q), rfl⟩, trivial⟩ (by repeat' (first | exact trivial | refine ⟨.inr rfl, ?_⟩ | refine ⟨.inl rfl, ?_⟩)) (by kernel_rfl)
        · have hx : odd p = false := hx
          refine Sat.go (Eq.refl _) (NS.call (next_t h3 (by omega)) rfl ?_)
          refine Sat.go (Eq.refl _) (NS.no rfl ?_)
          refine Sat.go (Eq.refl _) (NS.ite (fun h5 => ?_) (fun h5 => ?_))
          · have h5 : ((flatS b).getD q default) ≠ ((flatS a).getD p default) := bne_iff_ne.1 h5
            have i2 := inv.lt h2 h3 (by omega)
            refine Sat.go (Eq.refl _) (NS.chk (by kernel_rfl) ?_)
            refine Sat.go (Eq.refl _) (NS.yes rfl ?_)
            refine Sat.go (Eq.refl _) (NS.no rfl ?_)
            refine Sat.go (Eq.refl _) (NS.yes rfl ?_)
            refine Sat.go (Eq.refl _) (NS.call (bIntersect_ok (!odd p) (odd q)) rfl ?_)
            refine Sat.go (Eq.refl _) (NS.ite (fun n1 => ?_) (fun n1 => ?_))
            · refine Sat.go (Eq.refl _) (NS.ite (fun n2 => ?_) (fun n2 => ?_))
              · have n2 : (!odd r.length) = true := n2
                rw [emit_app inv.par n1 n2] at i2
                have hpar : fI (!odd p) (odd q) = odd (r ++ [((flatS a).getD p default)]).length := by rw [i2.par]; simp only [odd_s]
                refine Sat.go (Eq.refl _) (NS.need (decide_eq_true (by show ((pairS r).length + 1) * _ ≤ _; simp only [maxRow]; rw [pair_len]; have := inv.len; omega)) ?_)
                refine Sat.go (Eq.refl _) (NS.next ⟨((p + 1), q, r ++ [((flatS a).getD p default)]), i2⟩ (by simp only; omega) ?_)
                refine weak_hd [(62, 168)] rfl ⟨rfl, rfl, rfl, trivial⟩ ⟨⟨_, rfl, _, _, rfl, rfl, rfl⟩, ⟨_, rfl, _, _, rfl, ren_bool rfl hpar, rfl⟩, ren_row rfl (by show (pairS r).length + 1 = (pairS (r ++ [((flatS a).getD p default)])).length; rw [pair_even r _ (not_t n2)]; simp) fun i hi j hj => ?_, ⟨_, rfl, _, _, rfl, rfl, _, _, rfl, ren_int rfl (half_even hx), _, _, rfl, ren_bool rfl (not_odd p), rfl⟩, ⟨_, rfl, _, _, rfl, rfl, _, _, rfl, ren_int rfl rfl, _, _, rfl, ren_bool rfl rfl, rfl⟩, trivial⟩ (by repeat' (first | exact trivial | refine ⟨.inr rfl, ?_⟩ | refine ⟨.inl rfl, ?_⟩)) (by kernel_rfl)
                have hi : i < (pairS (r ++ [((flatS a).getD p default)])).length := hi
                show _ = rowL Spn.cells (pairS (r ++ [((flatS a).getD p default)])) i j
                rw [pair_even r _ (not_t n2)] at hi ⊢
                exact row_snoc (cells := Spn.cells) (l := pairS r) (x := ⟨((flatS a).getD p default), 0⟩) rfl i (by simpa using hi) j hj
              · have n2 : (!odd r.length) = false := n2
                refine Sat.go (Eq.refl _) (NS.no (by rw [n1]; rfl) ?_)
                rw [emit_same1 inv.par n1 n2] at i2
                have hpar : fI (!odd p) (odd q) = odd (r).length := by rw [i2.par]; simp only [odd_s]
                refine Sat.go (Eq.refl _) (NS.next ⟨((p + 1), q, r), i2⟩ (by simp only; omega) ?_)
                exact weak_hd [] rfl ⟨rfl, rfl, rfl, trivial⟩ ⟨⟨_, rfl, _, _, rfl, rfl, rfl⟩, ⟨_, rfl, _, _, rfl, ren_bool rfl hpar, rfl⟩, ren_row rfl rfl fun _ _ _ _ => rfl, ⟨_, rfl, _, _, rfl, rfl, _, _, rfl, ren_int rfl (half_even hx), _, _, rfl, ren_bool rfl (not_odd p), rfl⟩, ⟨_, rfl, _, _, rfl, rfl, _, _, rfl, ren_int rfl rfl, _, _, rfl, ren_bool rfl rfl, rfl⟩, trivial⟩ (by repeat' (first | exact trivial | refine ⟨.inr rfl, ?_⟩ | refine ⟨.inl rfl, ?_⟩)) (by kernel_rfl)
            · refine Sat.go (Eq.refl _) (NS.yes (by rw [n1]; rfl) ?_)
              refine Sat.go (Eq.refl _) (NS.ite (fun n2 => ?_) (fun n2 => ?_))
              · have n2 : odd r.length = true := n2
                rw [emit_set inv.par n1 n2] at i2
                have hpar : fI (!odd p) (odd q) = odd (r ++ [((flatS a).getD p default)]).length := by rw [i2.par]; simp only [odd_s]
                obtain ⟨hod, hlen⟩ := pair_odd r ((flatS a).getD p default) n2
                have e1 : IntKind.i64.wrap (((pairS r).length : Int) - 1) = (((pairS r).length - 1 : Nat) : Int) := by have := inv.len; have := pair_len r; rw [wrap_i64 (by omega) (by omega)]; omega
                refine Sat.go (Eq.refl _) (NS.need (by rw [e1]; simp; omega) ?_)
                rw [e1]
                refine Sat.go (Eq.refl _) (NS.need (by simp; omega) ?_)
                refine Sat.go (Eq.refl _) (NS.next ⟨((p + 1), q, r ++ [((flatS a).getD p default)]), i2⟩ (by simp only; omega) ?_)
                refine weak_hd [] rfl ⟨rfl, rfl, rfl, trivial⟩ ⟨⟨_, rfl, _, _, rfl, rfl, rfl⟩, ⟨_, rfl, _, _, rfl, ren_bool rfl hpar, rfl⟩, ren_row rfl (by show (pairS r).length = (pairS (r ++ [((flatS a).getD p default)])).length; rw [hod]; simp) fun i hi j hj => ?_, ⟨_, rfl, _, _, rfl, rfl, _, _, rfl, ren_int rfl (half_even hx), _, _, rfl, ren_bool rfl (not_odd p), rfl⟩, ⟨_, rfl, _, _, rfl, rfl, _, _, rfl, ren_int rfl rfl, _, _, rfl, ren_bool rfl rfl, rfl⟩, trivial⟩ (by repeat' (first | exact trivial | refine ⟨.inr rfl, ?_⟩ | refine ⟨.inl rfl, ?_⟩)) (by kernel_rfl)
                show _ = rowL Spn.cells (pairS (r ++ [((flatS a).getD p default)])) i j
                rw [hod]
                exact row_hi (pairS r) (by omega) rfl i j hj
              · have n2 : odd r.length = false := n2
                rw [emit_same0 inv.par n1 n2] at i2
                have hpar : fI (!odd p) (odd q) = odd (r).length := by rw [i2.par]; simp only [odd_s]
                refine Sat.go (Eq.refl _) (NS.next ⟨((p + 1), q, r), i2⟩ (by simp only; omega) ?_)
                exact weak_hd [] rfl ⟨rfl, rfl, rfl, trivial⟩ ⟨⟨_, rfl, _, _, rfl, rfl, rfl⟩, ⟨_, rfl, _, _, rfl, ren_bool rfl hpar, rfl⟩, ren_row rfl rfl fun _ _ _ _ => rfl, ⟨_, rfl, _, _, rfl, rfl, _, _, rfl, ren_int rfl (half_even hx), _, _, rfl, ren_bool rfl (not_odd p), rfl⟩, ⟨_, rfl, _, _, rfl, rfl, _, _, rfl, ren_int rfl rfl, _, _, rfl, ren_bool rfl rfl, rfl⟩, trivial⟩ (by repeat' (first | exact trivial | refine ⟨.inr rfl, ?_⟩ | refine ⟨.inl rfl, ?_⟩)) (by kernel_rfl)
          · have h5 : ((flatS b).getD q default) = ((flatS a).getD p default) := bne_eq_false_iff_eq.1 h5
            have i2 := inv.eq h2 h3 h5.symm
            refine Sat.go (Eq.refl _) (NS.ite (fun hy => ?_) (fun hy => ?_))
            · have hy : odd q = true := hy
              refine Sat.go (Eq.refl _) (NS.chk (by kernel_rfl) ?_)
              refine Sat.go (Eq.refl _) (NS.yes rfl ?_)
              refine Sat.go (Eq.refl _) (NS.no rfl ?_)
              refine Sat.go (Eq.refl _) (NS.yes rfl ?_)
              refine Sat.go (Eq.refl _) (NS.call (bIntersect_ok (!odd p) (!odd q)) rfl ?_)
              refine Sat.go (Eq.refl _) (NS.ite (fun n1 => ?_) (fun n1 => ?_))
              · refine Sat.go (Eq.refl _) (NS.ite (fun n2 => ?_) (fun n2 => ?_))
                · have n2 : (!odd r.length) = true := n2
                  rw [emit_app inv.par n1 n2] at i2
                  have hpar : fI (!odd p) (!odd q) = odd (r ++ [((flatS a).getD p default)]).length := by rw [i2.par]; simp only [odd_s]
                  refine Sat.go (Eq.refl _) (NS.need (decide_eq_true (by show ((pairS r).length + 1) * _ ≤ _; simp only [maxRow]; rw [pair_len]; have := inv.len; omega)) ?_)
                  refine Sat.go (Eq.refl _) (NS.next ⟨((p + 1), (q + 1), r ++ [((flatS a).getD p default)]), i2⟩ (by simp only; omega) ?_)
                  refine weak_hd [(62, 168)] rfl ⟨rfl, rfl, rfl, trivial⟩ ⟨⟨_, rfl, _, _, rfl, rfl, rfl⟩, ⟨_, rfl, _, _, rfl, ren_bool rfl hpar, rfl⟩, ren_row rfl (by show (pairS r).length + 1 = (pairS (r ++ [((flatS a).getD p default)])).length; rw [pair_even r _ (not_t n2)]; simp) fun i hi j hj => ?_, ⟨_, rfl, _, _, rfl, rfl, _, _, rfl, ren_int rfl (half_even hx), _, _, rfl, ren_bool rfl (not_odd p), rfl⟩, ⟨_, rfl, _, _, rfl, rfl, _, _, rfl, ren_int rfl (half_odd hy (by omega) hq), _, _, rfl, ren_bool rfl (not_odd q), rfl⟩, trivial⟩ (by repeat' (first | exact trivial | refine ⟨.inr rfl, ?_⟩ | refine ⟨.inl rfl, ?_⟩)) (by kernel_rfl)
                  have hi : i < (pairS (r ++ [((flatS a).getD p default)])).length := hi
                  show _ = rowL Spn.cells (pairS (r ++ [((flatS a).getD p default)])) i j
                  rw [pair_even r _ (not_t n2)] at hi ⊢
                  exact row_snoc (cells := Spn.cells) (l := pairS r) (x := ⟨((flatS a).getD p default), 0⟩) rfl i (by simpa using hi) j hj
                · have n2 : (!odd r.length) = false := n2
                  refine Sat.go (Eq.refl _) (NS.no (by rw [n1]; rfl) ?_)
                  rw [emit_same1 inv.par n1 n2] at i2
                  have hpar : fI (!odd p) (!odd q) = odd (r).length := by rw [i2.par]; simp only [odd_s]
                  refine Sat.go (Eq.refl _) (NS.next ⟨((p + 1), (q + 1), r), i2⟩ (by simp only; omega) ?_)
                  exact weak_hd [] rfl ⟨rfl, rfl, rfl, trivial⟩ ⟨⟨_, rfl, _, _, rfl, rfl, rfl⟩, ⟨_, rfl, _, _, rfl, ren_bool rfl hpar, rfl⟩, ren_row rfl rfl fun _ _ _ _ => rfl, ⟨_, rfl, _, _, rfl, rfl, _, _, rfl, ren_int rfl (half_even hx), _, _, rfl, ren_bool rfl (not_odd p), rfl⟩, ⟨_, rfl, _, _, rfl, rfl, _, _, rfl, ren_int rfl (half_odd hy (by omega) hq), _, _, rfl, ren_bool rfl (not_odd q), rfl⟩, trivial⟩ (by repeat' (first | exact trivial | refine ⟨.inr rfl, ?_⟩ | refine ⟨.inl rfl, ?_⟩)) (by kernel_rfl)
              · refine Sat.go (Eq.refl _) (NS.yes (by rw [n1]; rfl) ?_)
                refine Sat.go (Eq.refl _) (NS.ite (fun n2 => ?_) (fun n2 => ?_))
                · have n2 : odd r.length = true := n2
                  rw [emit_set inv.par n1 n2] at i2
                  have hpar : fI (!odd p) (!odd q) = odd (r ++ [((flatS a).getD p default)]).length := by rw [i2.par]; simp only [odd_s]
                  obtain ⟨hod, hlen⟩ := pair_odd r ((flatS a).getD p default) n2
                  have e1 : IntKind.i64.wrap (((pairS r).length : Int) - 1) = (((pairS r).length - 1 : Nat) : Int) := by have := inv.len; have := pair_len r; rw [wrap_i64 (by omega) (by omega)]; omega
                  refine Sat.go (Eq.refl _) (NS.need (by rw [e1]; simp; omega) ?_)
                  rw [e1]
                  refine Sat.go (Eq.refl _) (NS.need (by simp; omega) ?_)
                  refine Sat.go (Eq.refl _) (NS.next ⟨((p + 1), (q + 1), r ++ [((flatS a).getD p default)]), i2⟩ (by simp only; omega) ?_)
                  refine weak_hd [] rfl ⟨rfl, rfl, rfl, trivial⟩ ⟨⟨_, rfl, _, _, rfl, rfl, rfl⟩, ⟨_, rfl, _, _, rfl, ren_bool rfl hpar, rfl⟩, ren_row rfl (by show (pairS r).length = (pairS (r ++ [((flatS a).getD p default)])).length; rw [hod]; simp) fun i hi j hj => ?_, ⟨_, rfl, _, _, rfl, rfl, _, _, rfl, ren_int rfl (half_even hx), _, _, rfl, ren_bool rfl (not_odd p), rfl⟩, ⟨_, rfl, _, _, rfl, rfl, _, _, rfl, ren_int rfl (half_odd hy (by omega) hq), _, _, rfl, ren_bool rfl (not_odd q), rfl⟩, trivial⟩ (by repeat' (first | exact trivial | refine ⟨.inr rfl, ?_⟩ | refine ⟨.inl rfl, ?_⟩)) (by kernel_rfl)
                  show _ = rowL Spn.cells (pairS (r ++ [((flatS a).getD p default)])) i j
                  rw [hod]
                  exact row_hi (pairS r) (by omega) rfl i j hj
                · have n2 : odd r.length = false := n2
                  rw [emit_same0 inv.par n1 n2] at i2
                  have hpar : fI (!odd p) (!odd q) = odd (r).length := by rw [i2.par]; simp only [odd_s]
                  refine Sat.go (Eq.refl _) (NS.next ⟨((p + 1), (q + 1), r), i2⟩ (by simp only; omega) ?_)
                  exact weak_hd [] rfl ⟨rfl, rfl, rfl, trivial⟩ ⟨⟨_, rfl, _, _, rfl, rfl, rfl⟩, ⟨_, rfl, _, _, rfl, ren_bool rfl hpar, rfl⟩, ren_row rfl rfl fun _ _ _ _ => rfl, ⟨_, rfl, _, _, rfl, rfl, _, _, rfl, ren_int rfl (half_even hx), _, _, rfl, ren_bool rfl (not_odd p), rfl⟩, ⟨_, rfl, _, _, rfl, rfl, _, _, rfl, ren_int rfl (half_odd hy (by omega) hq), _, _, rfl, ren_bool rfl (not_odd q), rfl⟩, trivial⟩ (by repeat' (first | exact trivial | refine ⟨.inr rfl, ?_⟩ | refine ⟨.inl rfl, ?_⟩)) (by kernel_rfl)
            · have hy : odd q = false := hy
              refine Sat.go (Eq.refl _) (NS.chk (by kernel_rfl) ?_)
              refine Sat.go (Eq.refl _) (NS.yes rfl ?_)
              refine Sat.go (Eq.refl _) (NS.no rfl ?_)
              refine Sat.go (Eq.refl _) (NS.yes rfl ?_)
              refine Sat.go (Eq.refl _) (NS.call (bIntersect_ok (!odd p) (!odd q)) rfl ?_)
              refine Sat.go (Eq.refl _) (NS.ite (fun n1 => ?_) (fun n1 => ?_))
              · refine Sat.go (Eq.refl _) (NS.ite (fun n2 => ?_) (fun n2 => ?_))
                · have n2 : (!odd r.length) = true := n2
                  rw [emit_app inv.par n1 n2] at i2
                  have hpar : fI (!odd p) (!odd q) = odd (r ++ [((flatS a).getD p default)]).length := by rw [i2.par]; simp only [odd_s]
                  refine Sat.go (Eq.refl _) (NS.need (decide_eq_true (by show ((pairS r).length + 1) * _ ≤ _; simp only [maxRow]; rw [pair_len]; have := inv.len; omega)) ?_)
                  refine Sat.go (Eq.refl _) (NS.next ⟨((p + 1), (q + 1), r ++ [((flatS a).getD p default)]), i2⟩ (by simp only; omega) ?_)
                  refine weak_hd [(62, 168)] rfl ⟨rfl, rfl, rfl, trivial⟩ ⟨⟨_, rfl, _, _, rfl, rfl, rfl⟩, ⟨_, rfl, _, _, rfl, ren_bool rfl hpar, rfl⟩, ren_row rfl (by show (pairS r).length + 1 = (pairS (r ++ [((flatS a).getD p default)])).length; rw [pair_even r _ (not_t n2)]; simp) fun i hi j hj => ?_, ⟨_, rfl, _, _, rfl, rfl, _, _, rfl, ren_int rfl (half_even hx), _, _, rfl, ren_bool rfl (not_odd p), rfl⟩, ⟨_, rfl, _, _, rfl, rfl, _, _, rfl, ren_int rfl (half_even hy), _, _, rfl, ren_bool rfl (not_odd q), rfl⟩, trivial⟩ (by repeat' (first | exact trivial | refine ⟨.inr rfl, ?_⟩ | refine ⟨.inl rfl, ?_⟩)) (by kernel_rfl)
                  have hi : i < (pairS (r ++ [((flatS a).getD p default)])).length := hi
                  show _ = rowL Spn.cells (pairS (r ++ [((flatS a).getD p default)])) i j
                  rw [pair_even r _ (not_t n2)] at hi ⊢
                  exact row_snoc (cells := Spn.cells) (l := pairS r) (x := ⟨((flatS a).getD p default), 0⟩) rfl i (by simpa using hi) j hj
                · have n2 : (!odd r.length) = false := n2
                  refine Sat.go (Eq.refl _) (NS.no (by rw [n1]; rfl) ?_)
                  rw [emit_same1 inv.par n1 n2] at i2
                  have hpar : fI (!odd p) (!odd q) = odd (r).length := by rw [i2.par]; simp only [odd_s]
                  refine Sat.go (Eq.refl _) (NS.next ⟨((p + 1), (q + 1), r), i2⟩ (by simp only; omega) ?_)
                  exact weak_hd [] rfl ⟨rfl, rfl, rfl, trivial⟩ ⟨⟨_, rfl, _, _, rfl, rfl, rfl⟩, ⟨_, rfl, _, _, rfl, ren_bool rfl hpar, rfl⟩, ren_row rfl rfl fun _ _ _ _ => rfl, ⟨_, rfl, _, _, rfl, rfl, _, _, rfl, ren_int rfl (half_even hx), _, _, rfl, ren_bool rfl (not_odd p), rfl⟩, ⟨_, rfl, _, _, rfl, rfl, _, _, rfl, ren_int rfl (half_even hy), _, _, rfl, ren_bool rfl (not_odd q), rfl⟩, trivial⟩ (by repeat' (first | exact trivial | refine ⟨.inr rfl, ?_⟩ | refine ⟨.inl rfl, ?_⟩)) (by kernel_rfl)
              · refine Sat.go (Eq.refl _) (NS.yes (by rw [n1]; rfl) ?_)
                refine Sat.go (Eq.refl _) (NS.ite (fun n2 => ?_) (fun n2 => ?_))
                · have n2 : odd r.length = true := n2
                  rw [emit_set inv.par n1 n2] at i2
                  have hpar : fI (!odd p) (!odd q) = odd (r ++ [((flatS a).getD p default)]).length := by rw [i2.par]; simp only [odd_s]
                  obtain ⟨hod, hlen⟩ := pair_odd r ((flatS a).getD p default) n2
                  have e1 : IntKind.i64.wrap (((pairS r).length : Int) - 1) = (((pairS r).length - 1 : Nat) : Int) := by have := inv.len; have := pair_len r; rw [wrap_i64 (by omega) (by omega)]; omega
                  refine Sat.go (Eq.refl _) (NS.need (by rw [e1]; simp; omega) ?_)
                  rw [e1]
                  refine Sat.go (Eq.refl _) (NS.need (by simp; omega) ?_)
                  refine Sat.go (Eq.refl _) (NS.next ⟨((p + 1), (q + 1), r ++ [((flatS a).getD p default)]), i2⟩ (by simp only; omega) ?_)
                  refine weak_hd [] rfl ⟨rfl, rfl, rfl, trivial⟩ ⟨⟨_, rfl, _, _, rfl, rfl, rfl⟩, ⟨_, rfl, _, _, rfl, ren_bool rfl hpar, rfl⟩, ren_row rfl (by show (pairS r).length = (pairS (r ++ [((flatS a).getD p default)])).length; rw [hod]; simp) fun i hi j hj => ?_, ⟨_, rfl, _, _, rfl, rfl, _, _, rfl, ren_int rfl (half_even hx), _, _, rfl, ren_bool rfl (not_odd p), rfl⟩, ⟨_, rfl, _, _, rfl, rfl, _, _, rfl, ren_int rfl (half_even hy), _, _, rfl, ren_bool rfl (not_odd q), rfl⟩, trivial⟩ (by repeat' (first | exact trivial | refine ⟨.inr rfl, ?_⟩ | refine ⟨.inl rfl, ?_⟩)) (by kernel_rfl)
                  show _ = rowL Spn.cells (pairS (r ++ [((flatS a).getD p default)])) i j
                  rw [hod]
                  exact row_hi (pairS r) (by omega) rfl i j hj
                · have n2 : odd r.length = false := n2
                  rw [emit_same0 inv.par n1 n2] at i2
                  have hpar : fI (!odd p) (!odd q) = odd (r).length := by rw [i2.par]; simp only [odd_s]
                  refine Sat.go (Eq.refl _) (NS.next ⟨((p + 1), (q + 1), r), i2⟩ (by simp only; omega) ?_)
                  exact weak_hd [] rfl ⟨rfl, rfl, rfl, trivial⟩ ⟨⟨_, rfl, _, _, rfl, rfl, rfl⟩, ⟨_, rfl, _, _, rfl, ren_bool rfl hpar, rfl⟩, ren_row rfl rfl fun _ _ _ _ => rfl, ⟨_, rfl, _, _, rfl, rfl, _, _, rfl, ren_int rfl (half_even hx), _, _, rfl, ren_bool rfl (not_odd p), rfl⟩, ⟨_, rfl, _, _, rfl, rfl, _, _, rfl, ren_int rfl (half_even hy), _, _, rfl, ren_bool rfl (not_odd q), rfl⟩, trivial⟩ (by repeat' (first | exact trivial | refine ⟨.inr rfl, ?_⟩ | refine ⟨.inl rfl, ?_⟩)) (by kernel_rfl)
    · refine Sat.go (Eq.refl _) (NS.call (next_f hq h3 (by omega)) rfl ?_)
      have i2 := inv.x h2 h3
      refine Sat.go (Eq.refl _) (NS.no rfl ?_)
      refine Sat.go (Eq.refl _) (NS.no rfl ?_)
      refine Sat.go (Eq.refl _) (NS.no rfl ?_)
      refine Sat.go (Eq.refl _) (NS.call (next_t h2 (by omega)) rfl ?_)
      refine Sat.go (Eq.refl _) (NS.no rfl ?_)
      refine Sat.go (Eq.refl _) (NS.no (bne_eq_false_iff_eq.2 rfl) ?_)
      refine Sat.go (Eq.refl _) (NS.ite (fun hx => ?_) (fun hx => ?_))
      · have hx : odd p = true := hx
        refine Sat.go (Eq.refl _) (NS.call (next_f hq h3 (by omega)) rfl ?_)
        refine Sat.go (Eq.refl _) (NS.yes rfl ?_)
        refine Sat.go (Eq.refl _) (NS.chk (by kernel_rfl) ?_)
        refine Sat.go (Eq.refl _) (NS.yes rfl ?_)
        refine Sat.go (Eq.refl _) (NS.no rfl ?_)
        refine Sat.go (Eq.refl _) (NS.yes rfl ?_)
        refine Sat.go (Eq.refl _) (NS.call (bIntersect_ok (!odd p) (odd q)) rfl ?_)
        refine Sat.go (Eq.refl _) (NS.ite (fun n1 => ?_) (fun n1 => ?_))
        · refine Sat.go (Eq.refl _) (NS.ite (fun n2 => ?_) (fun n2 => ?_))
          · have n2 : (!odd r.length) = true := n2
            rw [emit_app inv.par n1 n2] at i2
            have hpar : fI (!odd p) (odd q) = odd (r ++ [((flatS a).getD p default)]).length := by rw [i2.par]; simp only [odd_s]
            refine Sat.go (Eq.refl _) (NS.need (decide_eq_true (by show ((pairS r).length + 1) * _ ≤ _; simp only [maxRow]; rw [pair_len]; have := inv.len; omega)) ?_)
            refine Sat.go (Eq.refl _) (NS.next ⟨((p + 1), q, r ++ [((flatS a).getD p default)]), i2⟩ (by simp only; omega) ?_)
            refine weak_hd [(62, 168)] rfl ⟨rfl, rfl, rfl, trivial⟩ ⟨⟨_, rfl, _, _, rfl, rfl, rfl⟩, ⟨_, rfl, _, _, rfl, ren_bool rfl hpar, rfl⟩, ren_row rfl (by show (pairS r).length + 1 = (pairS (r ++ [((flatS a).getD p default)])).length; rw [pair_even r _ (not_t n2)]; simp) fun i hi j hj => ?_, ⟨_, rfl, _, _, rfl, rfl, _, _, rfl, ren_int rfl (half_odd hx (by omega) hp), _, _, rfl, ren_bool rfl (not_odd p), rfl⟩, ⟨_, rfl, _, _, rfl, rfl, _, _, rfl, ren_int rfl rfl, _, _, rfl, ren_bool rfl rfl, rfl⟩, trivial⟩ (by repeat' (first | exact trivial | refine ⟨.inr rfl, ?_⟩ | refine ⟨.inl rfl, ?_⟩)) (by kernel_rfl)
            have hi : i < (pairS (r ++ [((flatS a).getD p default)])).length := hi
            show _ = rowL Spn.cells (pairS (r ++ [((flatS a).getD p default)])) i j
            rw [pair_even r _ (not_t n2)] at hi ⊢
            exact row_snoc (cells := Spn.cells) (l := pairS r) (x := ⟨((flatS a).getD p default), 0⟩) rfl i (by simpa using hi) j hj
          · have n2 : (!odd r.length) = false := n2
            refine Sat.go (Eq.refl _) (NS.no (by rw [n1]; rfl) ?_)
            rw [emit_same1 inv.par n1 n2] at i2
            have hpar : fI (!odd p) (odd q) = odd (r).length := by rw [i2.par]; simp only [odd_s]
            refine Sat.go (Eq.refl _) (NS.next ⟨((p + 1), q, r), i2⟩ (by simp only; omega) ?_)
            exact weak_hd [] rfl ⟨rfl, rfl, rfl, trivial⟩ ⟨⟨_, rfl, _, _, rfl, rfl, rfl⟩, ⟨_, rfl, _, _, rfl, ren_bool rfl hpar, rfl⟩, ren_row rfl rfl fun _ _ _ _ => rfl, ⟨_, rfl, _, _, rfl, rfl, _, _, rfl, ren_int rfl (half_odd hx (by omega) hp), _, _, rfl, ren_bool rfl (not_odd p), rfl⟩, ⟨_, rfl, _, _, rfl, rfl, _, _, rfl, ren_int rfl rfl, _, _, rfl, ren_bool rfl rfl, rfl⟩, trivial⟩ (by repeat' (first | exact trivial | refine ⟨.inr rfl, ?_⟩ | refine ⟨.inl rfl, ?_⟩)) (by kernel_rfl)
        · refine Sat.go (Eq.refl _) (NS.yes (by rw [n1]; rfl) ?_)
          refine Sat.go (Eq.refl _) (NS.ite (fun n2 => ?_) (fun n2 => ?_))
          · have n2 : odd r.length = true := n2
            rw [emit_set inv.par n1 n2] at i2
            have hpar : fI (!odd p) (odd q) = odd (r ++ [((flatS a).getD p default)]).length := by rw [i2.par]; simp only [odd_s]
            obtain ⟨hod, hlen⟩ := pair_odd r ((flatS a).getD p default) n2
            have e1 : IntKind.i64.wrap (((pairS r).length : Int) - 1) = (((pairS r).length - 1 : Nat) : Int) := by have := inv.len; have := pair_len r; rw [wrap_i64 (by omega) (by omega)]; omega
            refine Sat.go (Eq.refl _) (NS.need (by rw [e1]; simp; omega) ?_)
            rw [e1]
            refine Sat.go (Eq.refl _) (NS.need (by simp; omega) ?_)
            refine Sat.go (Eq.refl _) (NS.next ⟨((p + 1), q, r ++ [((flatS a).getD p default)]), i2⟩ (by simp only; omega) ?_)
            refine weak_hd [] rfl ⟨rfl, rfl, rfl, trivial⟩ ⟨⟨_, rfl, _, _, rfl, rfl, rfl⟩, ⟨_, rfl, _, _, rfl, ren_bool rfl hpar, rfl⟩, ren_row rfl (by show (pairS r).length = (pairS (r ++ [((flatS a).getD p default)])).length; rw [hod]; simp) fun i hi j hj => ?_, ⟨_, rfl, _, _, rfl, rfl, _, _, rfl, ren_int rfl (half_odd hx (by omega) hp), _, _, rfl, ren_bool rfl (not_odd p), rfl⟩, ⟨_, rfl, _, _, rfl, rfl, _, _, rfl, ren_int rfl rfl, _, _, rfl, ren_bool rfl rfl, rfl⟩, trivial⟩ (by repeat' (first | exact trivial | refine ⟨.inr rfl, ?_⟩ | refine ⟨.inl rfl, ?_⟩)) (by kernel_rfl)
            show _ = rowL Spn.cells (pairS (r ++ [((flatS a).getD p default)])) i j
            rw [hod]
            exact row_hi (pairS r) (by omega) rfl i j hj
          · have n2 : odd r.length = false := n2
            rw [emit_same0 inv.par n1 n2] at i2
            have hpar : fI (!odd p) (odd q) = odd (r).length := by rw [i2.par]; simp only [odd_s]
            refine Sat.go (Eq.refl _) (NS.next ⟨((p + 1), q, r), i2⟩ (by simp only; omega) ?_)
            exact weak_hd [] rfl ⟨rfl, rfl, rfl, trivial⟩ ⟨⟨_, rfl, _, _, rfl, rfl, rfl⟩, ⟨_, rfl, _, _, rfl, ren_bool rfl hpar, rfl⟩, ren_row rfl rfl fun _ _ _ _ => rfl, ⟨_, rfl, _, _, rfl, rfl, _, _, rfl, ren_int rfl (half_odd hx (by omega) hp), _, _, rfl, ren_bool rfl (not_odd p), rfl⟩, ⟨_, rfl, _, _, rfl, rfl, _, _, rfl, ren_int rfl rfl, _, _, rfl, ren_bool rfl rfl, rfl⟩, trivial⟩ (by repeat' (first | exact trivial | refine ⟨.inr rfl, ?_⟩ | refine ⟨.inl rfl, ?_⟩)) (by kernel_rfl)
      · have hx : odd p = false := hx
        refine Sat.go (Eq.refl _) (NS.call (next_f hq h3 (by omega)) rfl ?_)
        refine Sat.go (Eq.refl _) (NS.yes rfl ?_)
        refine Sat.go (Eq.refl _) (NS.chk (by kernel_rfl) ?_)
        refine Sat.go (Eq.refl _) (NS.yes rfl ?_)
        refine Sat.go (Eq.refl _) (NS.no rfl ?_)
        refine Sat.go (Eq.refl _) (NS.yes rfl ?_)
        refine Sat.go (Eq.refl _) (NS.call (bIntersect_ok (!odd p) (odd q)) rfl ?_)
        refine Sat.go (Eq.refl _) (NS.ite (fun n1 => ?_) (fun n1 => ?_))
        · refine Sat.go (Eq.refl _) (NS.ite (fun n2 => ?_) (fun n2 => ?_))
          · have n2 : (!odd r.length) = true := n2
            rw [emit_app inv.par n1 n2] at i2
            have hpar : fI (!odd p) (odd q) = odd (r ++ [((flatS a).getD p default)]).length := by rw [i2.par]; simp only [odd_s]
            refine Sat.go (Eq.refl _) (NS.need (decide_eq_true (by show ((pairS r).length + 1) * _ ≤ _; simp only [maxRow]; rw [pair_len]; have := inv.len; omega)) ?_)
            refine Sat.go (Eq.refl _) (NS.next ⟨((p + 1), q, r ++ [((flatS a).getD p default)]), i2⟩ (by simp only; omega) ?_)
            refine weak_hd [(62, 168)] rfl ⟨rfl, rfl, rfl, trivial⟩ ⟨⟨_, rfl, _, _, rfl, rfl, rfl⟩, ⟨_, rfl, _, _, rfl, ren_bool rfl hpar, rfl⟩, ren_row rfl (by show (pairS r).length + 1 = (pairS (r ++ [((flatS a).getD p default)])).length; rw [pair_even r _ (not_t n2)]; simp) fun i hi j hj => ?_, ⟨_, rfl, _, _, rfl, rfl, _, _, rfl, ren_int rfl (half_even hx), _, _, rfl, ren_bool rfl (not_odd p), rfl⟩, ⟨_, rfl, _, _, rfl, rfl, _, _, rfl, ren_int rfl rfl, _, _, rfl, ren_bool rfl rfl, rfl⟩, trivial⟩ (by repeat' (first | exact trivial | refine ⟨.inr rfl, ?_⟩ | refine ⟨.inl rfl, ?_⟩)) (by kernel_rfl)
            have hi : i < (pairS (r ++ [((flatS a).getD p default)])).length := hi
            show _ = rowL Spn.cells (pairS (r ++ [((flatS a).getD p default)])) i j
            rw [pair_even r _ (not_t n2)] at hi ⊢
            exact row_snoc (cells := Spn.cells) (l := pairS r) (x := ⟨((flatS a).getD p default), 0⟩) rfl i (by simpa using hi) j hj
          · have n2 : (!odd r.length) = false := n2
            refine Sat.go (Eq.refl _) (NS.no (by rw [n1]; rfl) ?_)
            rw [emit_same1 inv.par n1 n2] at i2
            have hpar : fI (!odd p) (odd q) = odd (r).length := by rw [i2.par]; simp only [odd_s]
            refine Sat.go (Eq.refl _) (NS.next ⟨((p + 1), q, r), i2⟩ (by simp only; omega) ?_)
            exact weak_hd [] rfl ⟨rfl, rfl, rfl, trivial⟩ ⟨⟨_, rfl, _, _, rfl, rfl, rfl⟩, ⟨_, rfl, _, _, rfl, ren_bool rfl hpar, rfl⟩, ren_row rfl rfl fun _ _ _ _ => rfl, ⟨_, rfl, _, _, rfl, rfl, _, _, rfl, ren_int rfl (half_even hx), _, _, rfl, ren_bool rfl (not_odd p), rfl⟩, ⟨_, rfl, _, _, rfl, rfl, _, _, rfl, ren_int rfl rfl, _, _, rfl, ren_bool rfl rfl, rfl⟩, trivial⟩ (by repeat' (first | exact trivial | refine ⟨.inr rfl, ?_⟩ | refine ⟨.inl rfl, ?_⟩)) (by kernel_rfl)
        · refine Sat.go (Eq.refl _) (NS.yes (by rw [n1]; rfl) ?_)
          refine Sat.go (Eq.refl _) (NS.ite (fun n2 => ?_) (fun n2 => ?_))
          · have n2 : odd r.length = true := n2
            rw [emit_set inv.par n1 n2] at i2
            have hpar : fI (!odd p) (odd q) = odd (r ++ [((flatS a).getD p default)]).length := by rw [i2.par]; simp only [odd_s]
            obtain ⟨hod, hlen⟩ := pair_odd r ((flatS a).getD p default) n2
            have e1 : IntKind.i64.wrap (((pairS r).length : Int) - 1) = (((pairS r).length - 1 : Nat) : Int) := by have := inv.len; have := pair_len r; rw [wrap_i64 (by omega) (by omega)]; omega
            refine Sat.go (Eq.refl _) (NS.need (by rw [e1]; simp; omega) ?_)
            rw [e1]
            refine Sat.go (Eq.refl _) (NS.need (by simp; omega) ?_)
            refine Sat.go (Eq.refl _) (NS.next ⟨((p + 1), q, r ++ [((flatS a).getD p default)]), i2⟩ (by simp only; omega) ?_)
            refine weak_hd [] rfl ⟨rfl, rfl, rfl, trivial⟩ ⟨⟨_, rfl, _, _, rfl, rfl, rfl⟩, ⟨_, rfl, _, _, rfl, ren_bool rfl hpar, rfl⟩, ren_row rfl (by show (pairS r).length = (pairS (r ++ [((flatS a).getD p default)])).length; rw [hod]; simp) fun i hi j hj => ?_, ⟨_, rfl, _, _, rfl, rfl, _, _, rfl, ren_int rfl (half_even hx), _, _, rfl, ren_bool rfl (not_odd p), rfl⟩, ⟨_, rfl, _, _, rfl, rfl, _, _, rfl, ren_int rfl rfl, _, _, rfl, ren_bool rfl rfl, rfl⟩, trivial⟩ (by repeat' (first | exact trivial | refine ⟨.inr rfl, ?_⟩ | refine ⟨.inl rfl, ?_⟩)) (by kernel_rfl)
            show _ = rowL Spn.cells (pairS (r ++ [((flatS a).getD p default)])) i j
            rw [hod]
            exact row_hi (pairS r) (by omega) rfl i j hj
          · have n2 : odd r.length = false := n2
            rw [emit_same0 inv.par n1 n2] at i2
            have hpar : fI (!odd p) (odd q) = odd (r).length := by rw [i2.par]; simp only [odd_s]
            refine Sat.go (Eq.refl _) (NS.next ⟨((p + 1), q, r), i2⟩ (by simp only; omega) ?_)
            exact weak_hd [] rfl ⟨rfl, rfl, rfl, trivial⟩ ⟨⟨_, rfl, _, _, rfl, rfl, rfl⟩, ⟨_, rfl, _, _, rfl, ren_bool rfl hpar, rfl⟩, ren_row rfl rfl fun _ _ _ _ => rfl, ⟨_, rfl, _, _, rfl, rfl, _, _, rfl, ren_int rfl (half_even hx), _, _, rfl, ren_bool rfl (not_odd p), rfl⟩, ⟨_, rfl, _, _, rfl, rfl, _, _, rfl, ren_int rfl rfl, _, _, rfl, ren_bool rfl rfl, rfl⟩, trivial⟩ (by repeat' (first | exact trivial | refine ⟨.inr rfl, ?_⟩ | refine ⟨.inl rfl, ?_⟩)) (by kernel_rfl)
  · refine Sat.go (Eq.refl _) (NS.call (next_f hp h2 (by omega)) rfl ?_)
    by_cases h3 : q < 2 * b.length
    · refine Sat.go (Eq.refl _) (NS.call (next_t h3 (by omega)) rfl ?_)
      have i2 := inv.y h2 h3
      refine Sat.go (Eq.refl _) (NS.yes rfl ?_)
      refine Sat.go (Eq.refl _) (NS.no rfl ?_)
      refine Sat.go (Eq.refl _) (NS.yes rfl ?_)
      refine Sat.go (Eq.refl _) (NS.call (next_f hp h2 (by omega)) rfl ?_)
      refine Sat.go (Eq.refl _) (NS.yes rfl ?_)
      refine Sat.go (Eq.refl _) (NS.call (next_t h3 (by omega)) rfl ?_)
      refine Sat.go (Eq.refl _) (NS.no rfl ?_)
      refine Sat.go (Eq.refl _) (NS.no (bne_eq_false_iff_eq.2 rfl) ?_)
      refine Sat.go (Eq.refl _) (NS.ite (fun hy => ?_) (fun hy => ?_))
      · have hy : odd q = true := hy
        refine Sat.go (Eq.refl _) (NS.chk (by kernel_rfl) ?_)
        refine Sat.go (Eq.refl _) (NS.yes rfl ?_)
        refine Sat.go (Eq.refl _) (NS.no rfl ?_)
        refine Sat.go (Eq.refl _) (NS.yes rfl ?_)
        refine Sat.go (Eq.refl _) (NS.call (bIntersect_ok (odd p) (!odd q)) rfl ?_)
        refine Sat.go (Eq.refl _) (NS.ite (fun n1 => ?_) (fun n1 => ?_))
        · refine Sat.go (Eq.refl _) (NS.ite (fun n2 => ?_) (fun n2 => ?_))
          · have n2 : (!odd r.length) = true := n2
            rw [emit_app inv.par n1 n2] at i2
            have hpar : fI (odd p) (!odd q) = odd (r ++ [((flatS b).getD q default)]).length := by rw [i2.par]; simp only [odd_s]
            refine Sat.go (Eq.refl _) (NS.need (decide_eq_true (by show ((pairS r).length + 1) * _ ≤ _; simp only [maxRow]; rw [pair_len]; have := inv.len; omega)) ?_)
            refine Sat.go (Eq.refl _) (NS.next ⟨(p, (q + 1), r ++ [((flatS b).getD q default)]), i2⟩ (by simp only; omega) ?_)
            refine weak_hd [(62, 168)] rfl ⟨rfl, rfl, rfl, trivial⟩ ⟨⟨_, rfl, _, _, rfl, rfl, rfl⟩, ⟨_, rfl, _, _, rfl, ren_bool rfl hpar, rfl⟩, ren_row rfl (by show (pairS r).length + 1 = (pairS (r ++ [((flatS b).getD q default)])).length; rw [pair_even r _ (not_t n2)]; simp) fun i hi j hj => ?_, ⟨_, rfl, _, _, rfl, rfl, _, _, rfl, ren_int rfl rfl, _, _, rfl, ren_bool rfl rfl, rfl⟩, ⟨_, rfl, _, _, rfl, rfl, _, _, rfl, ren_int rfl (half_odd hy (by omega) hq), _, _, rfl, ren_bool rfl (not_odd q), rfl⟩, trivial⟩ (by repeat' (first | exact trivial | refine ⟨.inr rfl, ?_⟩ | refine ⟨.inl rfl, ?_⟩)) (by kernel_rfl)
            have hi : i < (pairS (r ++ [((flatS b).getD q default)])).length := hi
            show _ = rowL Spn.cells (pairS (r ++ [((flatS b).getD q default)])) i j
            rw [pair_even r _ (not_t n2)] at hi ⊢
            exact row_snoc (cells := Spn.cells) (l := pairS r) (x := ⟨((flatS b).getD q default), 0⟩) rfl i (by simpa using hi) j hj
          · have n2 : (!odd r.length) = false := n2
            refine Sat.go (Eq.refl _) (NS.no (by rw [n1]; rfl) ?_)
            rw [emit_same1 inv.par n1 n2] at i2
            have hpar : fI (odd p) (!odd q) = odd (r).length := by rw [i2.par]; simp only [odd_s]
            refine Sat.go (Eq.refl _) (NS.next ⟨(p, (q + 1), r), i2⟩ (by simp only; omega) ?_)
            exact weak_hd [] rfl ⟨rfl, rfl, rfl, trivial⟩ ⟨⟨_, rfl, _, _, rfl, rfl, rfl⟩, ⟨_, rfl, _, _, rfl, ren_bool rfl hpar, rfl⟩, ren_row rfl rfl fun _ _ _ _ => rfl, ⟨_, rfl, _, _, rfl, rfl, _, _, rfl, ren_int rfl rfl, _, _, rfl, ren_bool rfl rfl, rfl⟩, ⟨_, rfl, _, _, rfl, rfl, _, _, rfl, ren_int rfl (half_odd hy (by omega) hq), _, _, rfl, ren_bool rfl (not_odd q), rfl⟩, trivial⟩ (by repeat' (first | exact trivial | refine ⟨.inr rfl, ?_⟩ | refine ⟨.inl rfl, ?_⟩)) (by kernel_rfl)
        · refine Sat.go (Eq.refl _) (NS.yes (by rw [n1]; rfl) ?_)
          refine Sat.go (Eq.refl _) (NS.ite (fun n2 => ?_) (fun n2 => ?_))
          · have n2 : odd r.length = true := n2
            rw [emit_set inv.par n1 n2] at i2
            have hpar : fI (odd p) (!odd q) = odd (r ++ [((flatS b).getD q default)]).length := by rw [i2.par]; simp only [odd_s]
            obtain ⟨hod, hlen⟩ := pair_odd r ((flatS b).getD q default) n2
            have e1 : IntKind.i64.wrap (((pairS r).length : Int) - 1) = (((pairS r).length - 1 : Nat) : Int) := by have := inv.len; have := pair_len r; rw [wrap_i64 (by omega) (by omega)]; omega
            refine Sat.go (Eq.refl _) (NS.need (by rw [e1]; simp; omega) ?_)
            rw [e1]
            refine Sat.go (Eq.refl _) (NS.need (by simp; omega) ?_)
            refine Sat.go (Eq.refl _) (NS.next ⟨(p, (q + 1), r ++ [((flatS b).getD q default)]), i2⟩ (by simp only; omega) ?_)
            refine weak_hd [] rfl ⟨rfl, rfl, rfl, trivial⟩ ⟨⟨_, rfl, _, _, rfl, rfl, rfl⟩, ⟨_, rfl, _, _, rfl, ren_bool rfl hpar, rfl⟩, ren_row rfl (by show (pairS r).length = (pairS (r ++ [((flatS b).getD q default)])).length; rw [hod]; simp) fun i hi j hj => ?_, ⟨_, rfl, _, _, rfl, rfl, _, _, rfl, ren_int rfl rfl, _, _, rfl, ren_bool rfl rfl, rfl⟩, ⟨_, rfl, _, _, rfl, rfl, _, _, rfl, ren_int rfl (half_odd hy (by omega) hq), _, _, rfl, ren_bool rfl (not_odd q), rfl⟩, trivial⟩ (by repeat' (first | exact trivial | refine ⟨.inr rfl, ?_⟩ | refine ⟨.inl rfl, ?_⟩)) (by kernel_rfl)
            show _ = rowL Spn.cells (pairS (r ++ [((flatS b).getD q default)])) i j
            rw [hod]
            exact row_hi (pairS r) (by omega) rfl i j hj
          · have n2 : odd r.length = false := n2
            rw [emit_same0 inv.par n1 n2] at i2
            have hpar : fI (odd p) (!odd q) = odd (r).length := by rw [i2.par]; simp only [odd_s]
            refine Sat.go (Eq.refl _) (NS.next ⟨(p, (q + 1), r), i2⟩ (by simp only; omega) ?_)
            exact weak_hd [] rfl ⟨rfl, rfl, rfl, trivial⟩ ⟨⟨_, rfl, _, _, rfl, rfl, rfl⟩, ⟨_, rfl, _, _, rfl, ren_bool rfl hpar, rfl⟩, ren_row rfl rfl fun _ _ _ _ => rfl, ⟨_, rfl, _, _, rfl, rfl, _, _, rfl, ren_int rfl rfl, _, _, rfl, ren_bool rfl rfl, rfl⟩, ⟨_, rfl, _, _, rfl, rfl, _, _, rfl, ren_int rfl (half_odd hy (by omega) hq), _, _, rfl, ren_bool rfl (not_odd q), rfl⟩, trivial⟩ (by repeat' (first | exact trivial | refine ⟨.inr rfl, ?_⟩ | refine ⟨.inl rfl, ?_⟩)) (by kernel_rfl)
      · have hy : odd q = false := hy
        refine Sat.go (Eq.refl _) (NS.chk (by kernel_rfl) ?_)
        refine Sat.go (Eq.refl _) (NS.yes rfl ?_)
        refine Sat.go (Eq.refl _) (NS.no rfl ?_)
        refine Sat.go (Eq.refl _) (NS.yes rfl ?_)
        refine Sat.go (Eq.refl _) (NS.call (bIntersect_ok (odd p) (!odd q)) rfl ?_)
        refine Sat.go (Eq.refl _) (NS.ite (fun n1 => ?_) (fun n1 => ?_))
        · refine Sat.go (Eq.refl _) (NS.ite (fun n2 => ?_) (fun n2 => ?_))
          · have n2 : (!odd r.length) = true := n2
            rw [emit_app inv.par n1 n2] at i2
            have hpar : fI (odd p) (!odd q) = odd (r ++ [((flatS b).getD q default)]).length := by rw [i2.par]; simp only [odd_s]
            refine Sat.go (Eq.refl _) (NS.need (decide_eq_true (by show ((pairS r).length + 1) * _ ≤ _; simp only [maxRow]; rw [pair_len]; have := inv.len; omega)) ?_)
            refine Sat.go (Eq.refl _) (NS.next ⟨(p, (q + 1), r ++ [((flatS b).getD q default)]), i2⟩ (by simp only; omega) ?_)
            refine weak_hd [(62, 168)] rfl ⟨rfl, rfl, rfl, trivial⟩ ⟨⟨_, rfl, _, _, rfl, rfl, rfl⟩, ⟨_, rfl, _, _, rfl, ren_bool rfl hpar, rfl⟩, ren_row rfl (by show (pairS r).length + 1 = (pairS (r ++ [((flatS b).getD q default)])).length; rw [pair_even r _ (not_t n2)]; simp) fun i hi j hj => ?_, ⟨_, rfl, _, _, rfl, rfl, _, _, rfl, ren_int rfl rfl, _, _, rfl, ren_bool rfl rfl, rfl⟩, ⟨_, rfl, _, _, rfl, rfl, _, _, rfl, ren_int rfl (half_even hy), _, _, rfl, ren_bool rfl (not_odd q), rfl⟩, trivial⟩ (by repeat' (first | exact trivial | refine ⟨.inr rfl, ?_⟩ | refine ⟨.inl rfl, ?_⟩)) (by kernel_rfl)
            have hi : i < (pairS (r ++ [((flatS b).getD q default)])).length := hi
            show _ = rowL Spn.cells (pairS (r ++ [((flatS b).getD q default)])) i j
            rw [pair_even r _ (not_t n2)] at hi ⊢
            exact row_snoc (cells := Spn.cells) (l := pairS r) (x := ⟨((flatS b).getD q default), 0⟩) rfl i (by simpa using hi) j hj
          · have n2 : (!odd r.length) = false := n2
            refine Sat.go (Eq.refl _) (NS.no (by rw [n1]; rfl) ?_)
            rw [emit_same1 inv.par n1 n2] at i2
            have hpar : fI (odd p) (!odd q) = odd (r).length := by rw [i2.par]; simp only [odd_s]
            refine Sat.go (Eq.refl _) (NS.next ⟨(p, (q + 1), r), i2⟩ (by simp only; omega) ?_)
            exact weak_hd [] rfl ⟨rfl, rfl, rfl, trivial⟩ ⟨⟨_, rfl, _, _, rfl, rfl, rfl⟩, ⟨_, rfl, _, _, rfl, ren_bool rfl hpar, rfl⟩, ren_row rfl rfl fun _ _ _ _ => rfl, ⟨_, rfl, _, _, rfl, rfl, _, _, rfl, ren_int rfl rfl, _, _, rfl, ren_bool rfl rfl, rfl⟩, ⟨_, rfl, _, _, rfl, rfl, _, _, rfl, ren_int rfl (half_even hy), _, _, rfl, ren_bool rfl (not_odd q), rfl⟩, trivial⟩ (by repeat' (first | exact trivial | refine ⟨.inr rfl, ?_⟩ | refine ⟨.inl rfl, ?_⟩)) (by kernel_rfl)
        · refine Sat.go (Eq.refl _) (NS.yes (by rw [n1]; rfl) ?_)
          refine Sat.go (Eq.refl _) (NS.ite (fun n2 => ?_) (fun n2 => ?_))
          · have n2 : odd r.length = true := n2
            rw [emit_set inv.par n1 n2] at i2
            have hpar : fI (odd p) (!odd q) = odd (r ++ [((flatS b).getD q default)]).length := by rw [i2.par]; simp only [odd_s]
            obtain ⟨hod, hlen⟩ := pair_odd r ((flatS b).getD q default) n2
            have e1 : IntKind.i64.wrap (((pairS r).length : Int) - 1) = (((pairS r).length - 1 : Nat) : Int) := by have := inv.len; have := pair_len r; rw [wrap_i64 (by omega) (by omega)]; omega
            refine Sat.go (Eq.refl _) (NS.need (by rw [e1]; simp; omega) ?_)
            rw [e1]
            refine Sat.go (Eq.refl _) (NS.need (by simp; omega) ?_)
            refine Sat.go (Eq.refl _) (NS.next ⟨(p, (q + 1), r ++ [((flatS b).getD q default)]), i2⟩ (by simp only; omega) ?_)
            refine weak_hd [] rfl ⟨rfl, rfl, rfl, trivial⟩ ⟨⟨_, rfl, _, _, rfl, rfl, rfl⟩, ⟨_, rfl, _, _, rfl, ren_bool rfl hpar, rfl⟩, ren_row rfl (by show (pairS r).length = (pairS (r ++ [((flatS b).getD q default)])).length; rw [hod]; simp) fun i hi j hj => ?_, ⟨_, rfl, _, _, rfl, rfl, _, _, rfl, ren_int rfl rfl, _, _, rfl, ren_bool rfl rfl, rfl⟩, ⟨_, rfl, _, _, rfl, rfl, _, _, rfl, ren_int rfl (half_even hy), _, _, rfl, ren_bool rfl (not_odd q), rfl⟩, trivial⟩ (by repeat' (first | exact trivial | refine ⟨.inr rfl, ?_⟩ | refine ⟨.inl rfl, ?_⟩)) (by kernel_rfl)
            show _ = rowL Spn.cells (pairS (r ++ [((flatS b).getD q default)])) i j
            rw [hod]
            exact row_hi (pairS r) (by omega) rfl i j hj
          · have n2 : odd r.length = false := n2
            rw [emit_same0 inv.par n1 n2] at i2
            have hpar : fI (odd p) (!odd q) = odd (r).length := by rw [i2.par]; simp only [odd_s]
            refine Sat.go (Eq.refl _) (NS.next ⟨(p, (q + 1), r), i2⟩ (by simp only; omega) ?_)
            exact weak_hd [] rfl ⟨rfl, rfl, rfl, trivial⟩ ⟨⟨_, rfl, _, _, rfl, rfl, rfl⟩, ⟨_, rfl, _, _, rfl, ren_bool rfl hpar, rfl⟩, ren_row rfl rfl fun _ _ _ _ => rfl, ⟨_, rfl, _, _, rfl, rfl, _, _, rfl, ren_int rfl rfl, _, _, rfl, ren_bool rfl rfl, rfl⟩, ⟨_, rfl, _, _, rfl, rfl, _, _, rfl, ren_int rfl (half_even hy), _, _, rfl, ren_bool rfl (not_odd q), rfl⟩, trivial⟩ (by repeat' (first | exact trivial | refine ⟨.inr rfl, ?_⟩ | refine ⟨.inl rfl, ?_⟩)) (by kernel_rfl)
    · refine Sat.go (Eq.refl _) (NS.call (next_f hq h3 (by omega)) rfl ?_)
      have hf := inv.fin h2 h3
      rw [← hf] at hm
      refine Sat.go (Eq.refl _) (NS.yes rfl ?_)
      refine Sat.go (Eq.refl _) (NS.yes rfl ?_)
      refine Sat.go (Eq.refl _) (NS.leave rfl (Eq.refl _) ?_)
      refine Sat.go (Eq.refl _) (NS.ite (fun h6 => ?_) (fun h6 => ?_))
      · have h6 : ((pairS r).length : Int) > 1000 := of_decide_eq_true h6
        rw [if_pos (by omega)] at hm
        exact Sat.go (Eq.refl _) (NS.ret rfl rfl (nrm_le (l := []) hm (LeA.nil' rfl)))
      · have h6 : ¬ ((pairS r).length : Int) > 1000 := of_decide_eq_false h6
        rw [if_neg (by omega)] at hm
        exact Sat.go (Eq.refl _) (NS.ret rfl rfl (nrm_le hm (LeA.refl _)))
theorem combineMinus_ok (a b : List Spn) : FnOK Try.prog 35 [slS a, slS b, .fn 45 []] (.tup [slS (combM fM a b).1, .int .i64 (combM fM a b).2], none) := by
  refine fn_ok CC rfl (by kernel_rfl) Try.func35 rfl ?_
  refine Sat.go (Eq.refl _) (NS.call (check_ok a) rfl ?_)
  refine Sat.go (Eq.refl _) (NS.ite (fun h0 => ?_) (fun h0 => ?_))
  · exact Sat.go (Eq.refl _) (NS.ret rfl rfl (nrm_le (l := []) (combM_bad (.inl h0)) (LeA.nil' rfl)))
  refine Sat.go (Eq.refl _) (NS.call (check_ok b) rfl ?_)
  refine Sat.go (Eq.refl _) (NS.ite (fun h1 => ?_) (fun h1 => ?_))
  · exact Sat.go (Eq.refl _) (NS.ret rfl rfl (nrm_le (l := []) (combM_bad (.inr h1)) (LeA.nil' rfl)))
  have ha := (chkS_none (chk_z h0)).2
  have hb := (chkS_none (chk_z h1)).2
  have hm := combM_go (f := fM) h0 h1
  refine Sat.go (Eq.refl _) (NS.call (points_ok a b) rfl ?_)
  refine Sat.go (Eq.refl _) (NS.chk (by kernel_rfl) ?_)
  refine Sat.go (Eq.refl _) ?_
  refine NS.loop (σ := { s : Nat × Nat × List Int // Inv fM a b s.1 s.2.1 s.2.2 }) (fun s => [(0, .yld 61), (4, .ptr 75 0), (5, .ptr 78 0)]) (fun s => [(8, .box [.own 62]), (9, .box [.bool (odd s.1.2.2.length)]), (62, .row 24 2 (pairS s.1.2.2).length (rowL Spn.cells (pairS s.1.2.2))), (75, .box (sideC a s.1.1)), (78, .box (sideC b s.1.2.1))]) (fun s => 2 * a.length + 2 * b.length - s.1.1 - s.1.2.1) ⟨(0, 0, []), Inv.start rfl a b⟩ ?_ ?_
  · exact (weak_promoteB 8 0 62 24 2 (rowL Spn.cells []) rfl rfl rfl).trans (weak_hd [] rfl ⟨rfl, rfl, rfl, trivial⟩ ⟨⟨_, rfl, _, _, rfl, rfl, rfl⟩, ⟨_, rfl, _, _, rfl, ren_kb rfl rfl, rfl⟩, ren_row rfl rfl fun _ _ _ _ => rfl, ⟨_, rfl, _, _, rfl, rfl, _, _, rfl, ren_int rfl (by simp), _, _, rfl, ren_bool rfl rfl, rfl⟩, ⟨_, rfl, _, _, rfl, rfl, _, _, rfl, ren_int rfl (by simp), _, _, rfl, ren_bool rfl rfl, rfl⟩, trivial⟩ (by repeat' (first | exact trivial | refine ⟨.inr rfl, ?_⟩ | refine ⟨.inl rfl, ?_⟩)) (by kernel_rfl))
  rintro ⟨⟨p, q, r⟩, inv⟩
  simp only at inv
  have hp := inv.hp
  have hq := inv.hq
  by_cases h2 : p < 2 * a.length
  · refine Sat.go (Eq.refl _) (NS.call (next_t h2 (by omega)) rfl ?_)
    by_cases h3 : q < 2 * b.length
    · refine Sat.go (Eq.refl _) (NS.call (next_t h3 (by omega)) rfl ?_)
      refine Sat.go (Eq.refl _) (NS.no rfl ?_)
      refine Sat.go (Eq.refl _) (NS.no rfl ?_)
      refine Sat.go (Eq.refl _) (NS.yes rfl ?_)
      refine Sat.go (Eq.refl _) (NS.ite (fun h4 => ?_) (fun h4 => ?_))
      · have h4 : ((flatS b).getD q default) < ((flatS a).getD p default) := of_decide_eq_true h4
        have i2 := inv.gt h2 h3 h4
        refine Sat.go (Eq.refl _) (NS.call (next_t h2 (by omega)) rfl ?_)
        refine Sat.go (Eq.refl _) (NS.no rfl ?_)
        refine Sat.go (Eq.refl _) (NS.yes (bne_iff_ne.2 (show ((flatS a).getD p default) ≠ ((flatS b).getD q default) by omega)) ?_)
        refine Sat.go (Eq.refl _) (NS.call (next_t h3 (by omega)) rfl ?_)
        refine Sat.go (Eq.refl _) (NS.no rfl ?_)
        refine Sat.go (Eq.refl _) (NS.no (bne_eq_false_iff_eq.2 rfl) ?_)
        refine Sat.go (Eq.refl _) (NS.ite (fun hy => ?_) (fun hy => ?_))
        · have hy : odd q = true := hy
          refine Sat.go (Eq.refl _) (NS.chk (by kernel_rfl) ?_)
          refine Sat.go (Eq.refl _) (NS.yes rfl ?_)
          refine Sat.go (Eq.refl _) (NS.no rfl ?_)
          refine Sat.go (Eq.refl _) (NS.yes rfl ?_)
          refine Sat.go (Eq.refl _) (NS.call (bMinus_ok (odd p) (!odd q)) rfl ?_)
          refine Sat.go (Eq.refl _) (NS.ite (fun n1 => ?_) (fun n1 => ?_))
          · refine Sat.go (Eq.refl _) (NS.ite (fun n2 => ?_) (fun n2 => ?_))
            · have n2 : (!odd r.length) = true := n2
              rw [emit_app inv.par n1 n2] at i2
              have hpar : fM (odd p) (!odd q) = odd (r ++ [((flatS b).getD q default)]).length := by rw [i2.par]; simp only [odd_s]
              refine Sat.go (Eq.refl _) (NS.need (decide_eq_true (by show ((pairS r).length + 1) * _ ≤ _; simp only [maxRow]; rw [pair_len]; have := inv.len; omega)) ?_)
              refine Sat.go (Eq.refl _) (NS.next ⟨(p, (q + 1), r ++ [((flatS b).getD q default)]), i2⟩ (by simp only; omega) ?_)
              refine weak_hd [(62, 168)] rfl ⟨rfl, rfl, rfl, trivial⟩ ⟨⟨_, rfl, _, _, rfl, rfl, rfl⟩, ⟨_, rfl, _, _, rfl, ren_bool rfl hpar, rfl⟩, ren_row rfl (by show (pairS r).length + 1 = (pairS (r ++ [((flatS b).getD q default)])).length; rw [pair_even r _ (not_t n2)]; simp) fun i hi j hj => ?_, ⟨_, rfl, _, _, rfl, rfl, _, _, rfl, ren_int rfl rfl, _, _, rfl, ren_bool rfl rfl, rfl⟩, ⟨_, rfl, _, _, rfl, rfl, _, _, rfl, ren_int rfl (half_odd hy (by omega) hq), _, _, rfl, ren_bool rfl (not_odd q), rfl⟩, trivial⟩ (by repeat' (first | exact trivial | refine ⟨.inr rfl, ?_⟩ | refine ⟨.inl rfl, ?_⟩)) (by kernel_rfl)
              have hi : i < (pairS (r ++ [((flatS b).getD q default)])).length := hi
              show _ = rowL Spn.cells (pairS (r ++ [((flatS b).getD q default)])) i j
              rw [pair_even r _ (not_t n2)] at hi ⊢
              exact row_snoc (cells := Spn.cells) (l := pairS r) (x := ⟨((flatS b).getD q default), 0⟩) rfl i (by simpa using hi) j hj
            · have n2 : (!odd r.length) = false := n2
              refine Sat.go (Eq.refl _) (NS.no (by rw [n1]; rfl) ?_)
              rw [emit_same1 inv.par n1 n2] at i2
              have hpar : fM (odd p) (!odd q) = odd (r).length := by rw [i2.par]; simp only [odd_s]
              refine Sat.go (Eq.refl _) (NS.next ⟨(p, (q + 1), r), i2⟩ (by simp only; omega) ?_)
              exact weak_hd [] rfl ⟨rfl, rfl, rfl, trivial⟩ ⟨⟨_, rfl, _, _, rfl, rfl, rfl⟩, ⟨_, rfl, _, _, rfl, ren_bool rfl hpar, rfl⟩, ren_row rfl rfl fun _ _ _ _ => rfl, ⟨_, rfl, _, _, rfl, rfl, _, _, rfl, ren_int rfl rfl, _, _, rfl, ren_bool rfl rfl, rfl⟩, ⟨_, rfl, _, _, rfl, rfl, _, _, rfl, ren_int rfl (half_odd hy (by omega) hq), _, _, rfl, ren_bool rfl (not_odd q), rfl⟩, trivial⟩ (by repeat' (first | exact trivial | refine ⟨.inr rfl, ?_⟩ | refine ⟨.inl rfl, ?_⟩)) (by kernel_rfl)
          · refine Sat.go (Eq.refl _) (NS.yes (by rw [n1]; rfl) ?_)
            refine Sat.go (Eq.refl _) (NS.ite (fun n2 => ?_) (fun n2 => ?_))
            · have n2 : odd r.length = true := n2
              rw [emit_set inv.par n1 n2] at i2
              have hpar : fM (odd p) (!odd q) = odd (r ++ [((flatS b).getD q default)]).length := by rw [i2.par]; simp only [odd_s]
              obtain ⟨hod, hlen⟩ := pair_odd r ((flatS b).getD q default) n2
              have e1 : IntKind.i64.wrap (((pairS r).length : Int) - 1) = (((pairS r).length - 1 : Nat) : Int) := by have := inv.len; have := pair_len r; rw [wrap_i64 (by omega) (by omega)]; omega
              refine Sat.go (Eq.refl _) (NS.need (by rw [e1]; simp; omega) ?_)
              rw [e1]
              refine Sat.go (Eq.refl _) (NS.need (by simp; omega) ?_)
              refine Sat.go (Eq.refl _) (NS.next ⟨(p, (q + 1), r ++ [((flatS b).getD q default)]), i2⟩ (by simp only; omega) ?_)
              refine weak_hd [] rfl ⟨rfl, rfl, rfl, trivial⟩ ⟨⟨_, rfl, _, _, rfl, rfl, rfl⟩, ⟨_, rfl, _, _, rfl, ren_bool rfl hpar, rfl⟩, ren_row rfl (by show (pairS r).length = (pairS (r ++ [((flatS b).getD q default)])).length; rw [hod]; simp) fun i hi j hj => ?_, ⟨_, rfl, _, _, rfl, rfl, _, _, rfl, ren_int rfl rfl, _, _, rfl, ren_bool rfl rfl, rfl⟩, ⟨_, rfl, _, _, rfl, rfl, _, _, rfl, ren_int rfl (half_odd hy (by omega) hq), _, _, rfl, ren_bool rfl (not_odd q), rfl⟩, trivial⟩ (by repeat' (first | exact trivial | refine ⟨.inr rfl, ?_⟩ | refine ⟨.inl rfl, ?_⟩)) (by kernel_rfl)
              show _ = rowL Spn.cells (pairS (r ++ [((flatS b).getD q default)])) i j
              rw [hod]
              exact row_hi (pairS r) (by omega) rfl i j hj
            · have n2 : odd r.length = false := n2
              rw [emit_same0 inv.par n1 n2] at i2
              have hpar : fM (odd p) (!odd q) = odd (r).length := by rw [i2.par]; simp only [odd_s]
              refine Sat.go (Eq.refl _) (NS.next ⟨(p, (q + 1), r), i2⟩ (by simp only; omega) ?_)
              exact weak_hd [] rfl ⟨rfl, rfl, rfl, trivial⟩ ⟨⟨_, rfl, _, _, rfl, rfl, rfl⟩, ⟨_, rfl, _, _, rfl, ren_bool rfl hpar, rfl⟩, ren_row rfl rfl fun _ _ _ _ => rfl, ⟨_, rfl, _, _, rfl, rfl, _, _, rfl, ren_int rfl rfl, _, _, rfl, ren_bool rfl rfl, rfl⟩, ⟨_, rfl, _, _, rfl, rfl, _, _, rfl, ren_int rfl (half_odd hy (by omega) hq), _, _, rfl, ren_bool rfl (not_odd q), rfl⟩, trivial⟩ (by repeat' (first | exact trivial | refine ⟨.inr rfl, ?_⟩ | refine ⟨.inl rfl, ?_⟩)) (by kernel_rfl)
        · have hy : odd q = false := hy
          refine Sat.go (Eq.refl _) (NS.chk (by kernel_rfl) ?_)
          refine Sat.go (Eq.refl _) (NS.yes rfl ?_)
          refine Sat.go (Eq.refl _) (NS.no rfl ?_)
          refine Sat.go (Eq.refl _) (NS.yes rfl ?_)
          refine Sat.go (Eq.refl _) (NS.call (bMinus_ok (odd p) (!odd q)) rfl ?_)
          refine Sat.go (Eq.refl _) (NS.ite (fun n1 => ?_) (fun n1 => ?_))
          · refine Sat.go (Eq.refl _) (NS.ite (fun n2 => ?_) (fun n2 => ?_))
            · have n2 : (!odd r.length) = true := n2
              rw [emit_app inv.par n1 n2] at i2
              have hpar : fM (odd p) (!odd q) = odd (r ++ [((flatS b).getD q default)]).length := by rw [i2.par]; simp only [odd_s]
              refine Sat.go (Eq.refl _) (NS.need (decide_eq_true (by show ((pairS r).length + 1) * _ ≤ _; simp only [maxRow]; rw [pair_len]; have := inv.len; omega)) ?_)
              refine Sat.go (Eq.refl _) (NS.next ⟨(p, (q + 1), r ++ [((flatS b).getD q default)]), i2⟩ (by simp only; omega) ?_)
              refine weak_hd [(62, 168)] rfl ⟨rfl, rfl, rfl, trivial⟩ ⟨⟨_, rfl, _, _, rfl, rfl, rfl⟩, ⟨_, rfl, _, _, rfl, ren_bool rfl hpar, rfl⟩, ren_row rfl (by show (pairS r).length + 1 = (pairS (r ++ [((flatS b).getD q default)])).length; rw [pair_even r _ (not_t n2)]; simp) fun i hi j hj => ?_, ⟨_, rfl, _, _, rfl, rfl, _, _, rfl, ren_int rfl rfl, _, _, rfl, ren_bool rfl rfl, rfl⟩, ⟨_, rfl, _, _, rfl, rfl, _, _, rfl, ren_int rfl (half_even hy), _, _, rfl, ren_bool rfl (not_odd q), rfl⟩, trivial⟩ (by repeat' (first | exact trivial | refine ⟨.inr rfl, ?_⟩ | refine ⟨.inl rfl, ?_⟩)) (by kernel_rfl)
              have hi : i < (pairS (r ++ [((flatS b).getD q default)])).length := hi
              show _ = rowL Spn.cells (pairS (r ++ [((flatS b).getD q default)])) i j
              rw [pair_even r _ (not_t n2)] at hi ⊢
              exact row_snoc (cells := Spn.cells) (l := pairS r) (x := ⟨((flatS b).getD q default), 0⟩) rfl i (by simpa using hi) j hj
            · have n2 : (!odd r.length) = false := n2
              refine Sat.go (Eq.refl _) (NS.no (by rw [n1]; rfl) ?_)
              rw [emit_same1 inv.par n1 n2] at i2
              have hpar : fM (odd p) (!odd q) = odd (r).length := by rw [i2.par]; simp only [odd_s]
              refine Sat.go (Eq.refl _) (NS.next ⟨(p, (q + 1), r), i2⟩ (by simp only; omega) ?_)
              exact weak_hd [] rfl ⟨rfl, rfl, rfl, trivial⟩ ⟨⟨_, rfl, _, _, rfl, rfl, rfl⟩, ⟨_, rfl, _, _, rfl, ren_bool rfl hpar, rfl⟩, ren_row rfl rfl fun _ _ _ _ => rfl, ⟨_, rfl, _, _, rfl, rfl, _, _, rfl, ren_int rfl rfl, _, _, rfl, ren_bool rfl rfl, rfl⟩, ⟨_, rfl, _, _, rfl, rfl, _, _, rfl, ren_int rfl (half_even hy), _, _, rfl, ren_bool rfl (not_odd q), rfl⟩, trivial⟩ (by repeat' (first | exact trivial | refine ⟨.inr rfl, ?_⟩ | refine ⟨.inl rfl, ?_⟩)) (by kernel_rfl)
          · refine Sat.go (Eq.refl _) (NS.yes (by rw [n1]; rfl) ?_)
            refine Sat.go (Eq.refl _) (NS.ite (fun n2 => ?_) (fun n2 => ?_))
            · have n2 : odd r.length = true := n2
              rw [emit_set inv.par n1 n2] at i2
              have hpar : fM (odd p) (!odd q) = odd (r ++ [((flatS b).getD q default)]).length := by rw [i2.par]; simp only [odd_s]
              obtain ⟨hod, hlen⟩ := pair_odd r ((flatS b).getD q default) n2
              have e1 : IntKind.i64.wrap (((pairS r).length : Int) - 1) = (((pairS r).length - 1 : Nat) : Int) := by have := inv.len; have := pair_len r; rw [wrap_i64 (by omega) (by omega)]; omega
              refine Sat.go (Eq.refl _) (NS.need (by rw [e1]; simp; omega) ?_)
              rw [e1]
              refine Sat.go (Eq.refl _) (NS.need (by simp; omega) ?_)
              refine Sat.go (Eq.refl _) (NS.next ⟨(p, (q + 1), r ++ [((flatS b).getD q default)]), i2⟩ (by simp only; omega) ?_)
              refine weak_hd [] rfl ⟨rfl, rfl, rfl, trivial⟩ ⟨⟨_, rfl, _, _, rfl, rfl, rfl⟩, ⟨_, rfl, _, _, rfl, ren_bool rfl hpar, rfl⟩, ren_row rfl (by show (pairS r).length = (pairS (r ++ [((flatS b).getD q default)])).length; rw [hod]; simp) fun i hi j hj => ?_, ⟨_, rfl, _, _, rfl, rfl, _, _, rfl, ren_int rfl rfl, _, _, rfl, ren_bool rfl rfl, rfl⟩, ⟨_, rfl, _, _, rfl, rfl, _, _, rfl, ren_int rfl (half_even hy), _, _, rfl, ren_bool rfl (not_odd q), rfl⟩, trivial⟩ (by repeat' (first | exact trivial | refine ⟨.inr rfl, ?_⟩ | refine ⟨.inl rfl, ?_⟩)) (by kernel_rfl)
              show _ = rowL Spn.cells (pairS (r ++ [((flatS b).getD q default)])) i j
              rw [hod]
              exact row_hi (pairS r) (by omega) rfl i j hj
            · have n2 : odd r.length = false := n2
              rw [emit_same0 inv.par n1 n2] at i2
              have hpar : fM (odd p) (!odd q) = odd (r).length := by rw [i2.par]; simp only [odd_s]
              refine Sat.go (Eq.refl _) (NS.next ⟨(p, (q + 1), r), i2⟩ (by simp only; omega) ?_)
              exact weak_hd [] rfl ⟨rfl, rfl, rfl, trivial⟩ ⟨⟨_, rfl, _, _, rfl, rfl, rfl⟩, ⟨_, rfl, _, _, rfl, ren_bool rfl hpar, rfl⟩, ren_row rfl rfl fun _ _ _ _ => rfl, ⟨_, rfl, _, _, rfl, rfl, _, _, rfl, ren_int rfl rfl, _, _, rfl, ren_bool rfl rfl, rfl⟩, ⟨_, rfl, _, _, rfl, rfl, _, _, rfl, ren_int rfl (half_even hy), _, _, rfl, ren_bool rfl (not_odd q), rfl⟩, trivial⟩ (by repeat' (first | exact trivial | refine ⟨.inr rfl, ?_⟩ | refine ⟨.inl rfl, ?_⟩)) (by kernel_rfl)
      · have h4 : ¬ ((flatS b).getD q default) < ((flatS a).getD p default) := of_decide_eq_false h4
        refine Sat.go (Eq.refl _) (NS.call (next_t h2 (by omega)) rfl ?_)
        refine Sat.go (Eq.refl _) (NS.no rfl ?_)
        refine Sat.go (Eq.refl _) (NS.no (bne_eq_false_iff_eq.2 rfl) ?_)
        refine Sat.go (Eq.refl _) (NS.ite (fun hx => ?_) (fun hx => ?_))
        · have hx : odd p = true := hx
          refine Sat.go (Eq.refl _) (NS.call (next_t h3 (by omega)) rfl ?_)
          refine Sat.go (Eq.refl _) (NS.no rfl ?_)
          refine Sat.go (Eq.refl _) (NS.ite (fun h5 => ?_) (fun h5 => ?_))
          · have h5 : ((flatS b).getD q default) ≠ ((flatS a).getD p default) := bne_iff_ne.1 h5
            have i2 := inv.lt h2 h3 (by omega)
            refine Sat.go (Eq.refl _) (NS.chk (by kernel_rfl) ?_)
            refine Sat.go (Eq.refl _) (NS.yes rfl ?_)
            refine Sat.go (Eq.refl _) (NS.no rfl ?_)
            refine Sat.go (Eq.refl _) (NS.yes rfl ?_)
            refine Sat.go (Eq.refl _) (NS.call (bMinus_ok (!odd p) (odd q)) rfl ?_)
            refine Sat.go (Eq.refl _) (NS.ite (fun n1 => ?_) (fun n1 => ?_))
            · refine Sat.go (Eq.refl _) (NS.ite (fun n2 => ?_) (fun n2 => ?_))
              · have n2 : (!odd r.length) = true := n2
                rw [emit_app inv.par n1 n2] at i2
                have hpar : fM (!odd p) (odd q) = odd (r ++ [((flatS a).getD p default)]).length := by rw [i2.par]; simp only [odd_s]
                refine Sat.go (Eq.refl _) (NS.need (decide_eq_true (by show ((pairS r).length + 1) * _ ≤ _; simp only [maxRow]; rw [pair_len]; have := inv.len; omega)) ?_)
                refine Sat.go (Eq.refl _) (NS.next ⟨((p + 1), q, r ++ [((flatS a).getD p default)]), i2⟩ (by simp only; omega) ?_)
                refine weak_hd [(62, 168)] rfl ⟨rfl, rfl, rfl, trivial⟩ ⟨⟨_, rfl, _, _, rfl, rfl, rfl⟩, ⟨_, rfl, _, _, rfl, ren_bool rfl hpar, rfl⟩, ren_row rfl (by show (pairS r).length + 1 = (pairS (r ++ [((flatS a).getD p default)])).length; rw [pair_even r _ (not_t n2)]; simp) fun i hi j hj => ?_, ⟨_, rfl, _, _, rfl, rfl, _, _, rfl, ren_int rfl (half_odd hx (by omega) hp), _, _, rfl, ren_bool rfl (not_odd p), rfl⟩, ⟨_, rfl, _, _, rfl, rfl, _, _, rfl, ren_int rfl rfl, _, _, rfl, ren_bool rfl rfl, rfl⟩, trivial⟩ (by repeat' (first | exact trivial | refine ⟨.inr rfl, ?_⟩ | refine ⟨.inl rfl, ?_⟩)) (by kernel_rfl)
                have hi : i < (pairS (r ++ [((flatS a).getD p default)])).length := hi
                show _ = rowL Spn.cells (pairS (r ++ [((flatS a).getD p default)])) i j
                rw [pair_even r _ (not_t n2)] at hi ⊢
                exact row_snoc (cells := Spn.cells) (l := pairS r) (x := ⟨((flatS a).getD p default), 0⟩) rfl i (by simpa using hi) j hj
              · have n2 : (!odd r.length) = false := n2
                refine Sat.go (Eq.refl _) (NS.no (by rw [n1]; rfl) ?_)
                rw [emit_same1 inv.par n1 n2] at i2
                have hpar : fM (!odd p) (odd q) = odd (r).length := by rw [i2.par]; simp only [odd_s]
                refine Sat.go (Eq.refl _) (NS.next ⟨((p + 1), q, r), i2⟩ (by simp only; omega) ?_)
                exact weak_hd [] rfl ⟨rfl, rfl, rfl, trivial⟩ ⟨⟨_, rfl, _, _, rfl, rfl, rfl⟩, ⟨_, rfl, _, _, rfl, ren_bool rfl hpar, rfl⟩, ren_row rfl rfl fun _ _ _ _ => rfl, ⟨_, rfl, _, _, rfl, rfl, _, _, rfl, ren_int rfl (half_odd hx (by omega) hp), _, _, rfl, ren_bool rfl (not_odd p), rfl⟩, ⟨_, rfl, _, _, rfl, rfl, _, _, rfl, ren_int rfl rfl, _, _, rfl, ren_bool rfl rfl, rfl⟩, trivial⟩ (by repeat' (first | exact trivial | refine ⟨.inr rfl, ?_⟩ | refine ⟨.inl rfl, ?_⟩)) (by kernel_rfl)
            · refine Sat.go (Eq.refl _) (NS.yes (by rw [n1]; rfl) ?_)
              refine Sat.go (Eq.refl _) (NS.ite (fun n2 => ?_) (fun n2 => ?_))
              · have n2 : odd r.length = true := n2
                rw [emit_set inv.par n1 n2] at i2
                have hpar : fM (!odd p) (odd q) = odd (r ++ [((flatS a).getD p default)]).length := by rw [i2.par]; simp only [odd_s]
                obtain ⟨hod, hlen⟩ := pair_odd r ((flatS a).getD p default) n2
                have e1 : IntKind.i64.wrap (((pairS r).length : Int) - 1) = (((pairS r).length - 1 : Nat) : Int) := by have := inv.len; have := pair_len r; rw [wrap_i64 (by omega) (by omega)]; omega
                refine Sat.go (Eq.refl _) (NS.need (by rw [e1]; simp; omega) ?_)
                rw [e1]
                refine Sat.go (Eq.refl _) (NS.need (by simp; omega) ?_)
                refine Sat.go (Eq.refl _) (NS.next ⟨((p + 1), q, r ++ [((flatS a).getD p default)]), i2⟩ (by simp only; omega) ?_)
                refine weak_hd [] rfl ⟨rfl, rfl, rfl, trivial⟩ ⟨⟨_, rfl, _, _, rfl, rfl, rfl⟩, ⟨_, rfl, _, _, rfl, ren_bool rfl hpar, rfl⟩, ren_row rfl (by show (pairS r).length = (pairS (r ++ [((flatS a).getD p default)])).length; rw [hod]; simp) fun i hi j hj => ?_, ⟨_, rfl, _, _, rfl, rfl, _, _, rfl, ren_int rfl (half_odd hx (by omega) hp), _, _, rfl, ren_bool rfl (not_odd p), rfl⟩, ⟨_, rfl, _, _, rfl, rfl, _, _, rfl, ren_int rfl rfl, _, _, rfl, ren_bool rfl rfl, rfl⟩, trivial⟩ (by repeat' (first | exact trivial | refine ⟨.inr rfl, ?_⟩ | refine ⟨.inl rfl, ?_⟩)) (by kernel_rfl)
                show _ = rowL Spn.cells (pairS (r ++ [((flatS a).getD p default)])) i j
                rw [hod]
                exact row_hi (pairS r) (by omega) rfl i j hj
              · have n2 : odd r.length = false := n2
                rw [emit_same0 inv.par n1 n2] at i2
                have hpar : fM (!odd p) (odd q) = odd (r).length := by rw [i2.par]; simp only [odd_s]
                refine Sat.go (Eq.refl _) (NS.next ⟨((p + 1), q, r), i2⟩ (by simp only; omega) ?_)
                exact weak_hd [] rfl ⟨rfl, rfl, rfl, trivial⟩ ⟨⟨_, rfl, _, _, rfl, rfl, rfl⟩, ⟨_, rfl, _, _, rfl, ren_bool rfl hpar, rfl⟩, ren_row rfl rfl fun _ _ _ _ => rfl, ⟨_, rfl, _, _, rfl, rfl, _, _, rfl, ren_int rfl (half_odd hx (by omega) hp), _, _, rfl, ren_bool rfl (not_odd p), rfl⟩, ⟨_, rfl, _, _, rfl, rfl, _, _, rfl, ren_int rfl rfl, _, _, rfl, ren_bool rfl rfl, rfl⟩, trivial⟩ (by repeat' (first | exact trivial | refine ⟨.inr rfl, ?_⟩ | refine ⟨.inl rfl, ?_⟩)) (by kernel_rfl)
          · have h5 : ((flatS b).getD q default) = ((flatS a).getD p default) := bne_eq_false_iff_eq.1 h5
            have i2 := inv.eq h2 h3 h5.symm
            refine Sat.go (Eq.refl _) (NS.ite (fun hy => ?_) (fun hy => ?_))
            · have hy : odd q = true := hy
              refine Sat.go (Eq.refl _) (NS.chk (by kernel_rfl) ?_)
              refine Sat.go (Eq.refl _) (NS.yes rfl ?_)
              refine Sat.go (Eq.refl _) (NS.no rfl ?_)
              refine Sat.go (Eq.refl _) (NS.yes rfl ?_)
              refine Sat.go (Eq.refl _) (NS.call (bMinus_ok (!odd p) (!odd q)) rfl ?_)
              refine Sat.go (Eq.refl _) (NS.ite (fun n1 => ?_) (fun n1 => ?_))
              · refine Sat.go (Eq.refl _) (NS.ite (fun n2 => ?_) (fun n2 => ?_))
                · have n2 : (!odd r.length) = true := n2
                  rw [emit_app inv.par n1 n2] at i2
                  have hpar : fM (!odd p) (!odd q) = odd (r ++ [((flatS a).getD p default)]).length := by rw [i2.par]; simp only [odd_s]
                  refine Sat.go (Eq.refl _) (NS.need (decide_eq_true (by show ((pairS r).length + 1) * _ ≤ _; simp only [maxRow]; rw [pair_len]; have := inv.len; omega)) ?_)
                  refine Sat.go (Eq.refl _) (NS.next ⟨((p + 1), (q + 1), r ++ [((flatS a).getD p default)]), i2⟩ (by simp only; omega) ?_)
                  refine weak_hd [(62, 168)] rfl ⟨rfl, rfl, rfl, trivial⟩ ⟨⟨_, rfl, _, _, rfl, rfl, rfl⟩, ⟨_, rfl, _, _, rfl, ren_bool rfl hpar, rfl⟩, ren_row rfl (by show (pairS r).length + 1 = (pairS (r ++ [((flatS a).getD p default)])).length; rw [pair_even r _ (not_t n2)]; simp) fun i hi j hj => ?_, ⟨_, rfl, _, _, rfl, rfl, _, _, rfl, ren_int rfl (half_odd hx (by omega) hp), _, _, rfl, ren_bool rfl (not_odd p), rfl⟩, ⟨_, rfl, _, _, rfl, rfl, _, _, rfl, ren_int rfl (half_odd hy (by omega) hq), _, _, rfl, ren_bool rfl (not_odd q), rfl⟩, trivial⟩ (by repeat' (first | exact trivial | refine ⟨.inr rfl, ?_⟩ | refine ⟨.inl rfl, ?_⟩)) (by kernel_rfl)
                  have hi : i < (pairS (r ++ [((flatS a).getD p default)])).length := hi
                  show _ = rowL Spn.cells (pairS (r ++ [((flatS a).getD p default)])) i j
                  rw [pair_even r _ (not_t n2)] at hi ⊢
                  exact row_snoc (cells := Spn.cells) (l := pairS r) (x := ⟨((flatS a).getD p default), 0⟩) rfl i (by simpa using hi) j hj
                · have n2 : (!odd r.length) = false := n2
                  refine Sat.go (Eq.refl _) (NS.no (by rw [n1]; rfl) ?_)
                  rw [emit_same1 inv.par n1 n2] at i2
                  have hpar : fM (!odd p) (!odd q) = odd (r).length := by rw [i2.par]; simp only [odd_s]
                  refine Sat.go (Eq.refl _) (NS.next ⟨((p + 1), (q + 1), r), i2⟩ (by simp only; omega) ?_)
                  exact weak_hd [] rfl ⟨rfl, rfl, rfl, trivial⟩ ⟨⟨_, rfl, _, _, rfl, rfl, rfl⟩, ⟨_, rfl, _, _, rfl, ren_bool rfl hpar, rfl⟩, ren_row rfl rfl fun _ _ _ _ => rfl, ⟨_, rfl, _, _, rfl, rfl, _, _, rfl, ren_int rfl (half_odd hx (by omega) hp), _, _, rfl, ren_bool rfl (not_odd p), rfl⟩, ⟨_, rfl, _, _, rfl, rfl, _, _, rfl, ren_int rfl (half_odd hy (by omega) hq), _, _, rfl, ren_bool rfl (not_odd q), rfl⟩, trivial⟩ (by repeat' (first | exact trivial | refine ⟨.inr rfl, ?_⟩ | refine ⟨.inl rfl, ?_⟩)) (by kernel_rfl)
              · refine Sat.go (Eq.refl _) (NS.yes (by rw [n1]; rfl) ?_)
                refine Sat.go (Eq.refl _) (NS.ite (fun n2 => ?_) (fun n2 => ?_))
                · have n2 : odd r.length = true := n2
                  rw [emit_set inv.par n1 n2] at i2
                  have hpar : fM (!odd p) (!odd q) = odd (r ++ [((flatS a).getD p default)]).length := by rw [i2.par]; simp only [odd_s]
                  obtain ⟨hod, hlen⟩ := pair_odd r ((flatS a).getD p default) n2
                  have e1 : IntKind.i64.wrap (((pairS r).length : Int) - 1) = (((pairS r).length - 1 : Nat) : Int) := by have := inv.len; have := pair_len r; rw [wrap_i64 (by omega) (by omega)]; omega
                  refine Sat.go (Eq.refl _) (NS.need (by rw [e1]; simp; omega) ?_)
                  rw [e1]
                  refine Sat.go (Eq.refl _) (NS.need (by simp; omega) ?_)
                  refine Sat.go (Eq.refl _) (NS.next ⟨((p + 1), (q + 1), r ++ [((flatS a).getD p default)]), i2⟩ (by simp only; omega) ?_)
                  refine weak_hd [] rfl ⟨rfl, rfl, rfl, trivial⟩ ⟨⟨_, rfl, _, _, rfl, rfl, rfl⟩, ⟨_, rfl, _, _, rfl, ren_bool rfl hpar, rfl⟩, ren_row rfl (by show (pairS r).length = (pairS (r ++ [((flatS a).getD p default)])).length; rw [hod]; simp) fun i hi j hj => ?_, ⟨_, rfl, _, _, rfl, rfl, _, _, rfl, ren_int rfl (half_odd hx (by omega) hp), _, _, rfl, ren_bool rfl (not_odd p), rfl⟩, ⟨_, rfl, _, _, rfl, rfl, _, _, rfl, ren_int rfl (half_odd hy (by omega) hq), _, _, rfl, ren_bool rfl (not_odd q), rfl⟩, trivial⟩ (by repeat' (first | exact trivial | refine ⟨.inr rfl, ?_⟩ | refine ⟨.inl rfl, ?_⟩)) (by kernel_rfl)
                  show _ = rowL Spn.cells (pairS (r ++ [((flatS a).getD p default)])) i j
                  rw [hod]
                  exact row_hi (pairS r) (by omega) rfl i j hj
                · have n2 : odd r.length = false := n2
                  rw [emit_same0 inv.par n1 n2] at i2
                  have hpar : fM (!odd p) (!odd q) = odd (r).length := by rw [i2.par]; simp only [odd_s]
                  refine Sat.go (Eq.refl _) (NS.next ⟨((p + 1), (q + 1), r), i2⟩ (by simp only; omega) ?_)
                  exact weak_hd [] rfl ⟨rfl, rfl, rfl, trivial⟩ ⟨⟨_, rfl, _, _, rfl, rfl, rfl⟩, ⟨_, rfl, _, _, rfl, ren_bool rfl hpar, rfl⟩, ren_row rfl rfl fun _ _ _ _ => rfl, ⟨_, rfl, _, _, rfl, rfl, _, _, rfl, ren_int rfl (half_odd hx (by omega) hp), _, _, rfl, ren_bool rfl (not_odd p), rfl⟩, ⟨_, rfl, _, _, rfl, rfl, _, _, rfl, ren_int rfl (half_odd hy (by omega) hq), _, _, rfl, ren_bool rfl (not_odd q), rfl⟩, trivial⟩ (by repeat' (first | exact trivial | refine ⟨.inr rfl, ?_⟩ | refine ⟨.inl rfl, ?_⟩)) (by kernel_rfl)
            · have hy : odd q = false := hy
              refine Sat.go (Eq.refl _) (NS.chk (by kernel_rfl) ?_)
              refine Sat.go (Eq.refl _) (NS.yes rfl ?_)
              refine Sat.go (Eq.refl _) (NS.no rfl ?_)
              refine Sat.go (Eq.refl _) (NS.yes rfl ?_)
              refine Sat.go (Eq.refl _) (NS.call (bMinus_ok (!odd p) (!odd q)) rfl ?_)
              refine Sat.go (Eq.refl _) (NS.ite (fun n1 => ?_) (fun n1 => ?_))
              · refine Sat.go (Eq.refl _) (NS.ite (fun n2 => ?_) (fun n2 => ?_))
                · have n2 : (!odd r.length) = true := n2
                  rw [emit_app inv.par n1 n2] at i2
                  have hpar : fM (!odd p) (!odd q) = odd (r ++ [((flatS a).getD p default)]).length := by rw [i2.par]; simp only [odd_s]
                  refine Sat.go (Eq.refl _) (NS.need (decide_eq_true (by show ((pairS r).length + 1) * _ ≤ _; simp only [maxRow]; rw [pair_len]; have := inv.len; omega)) ?_)
                  refine Sat.go (Eq.refl _) (NS.next ⟨((p + 1), (q + 1), r ++ [((flatS a).getD p default)]), i2⟩ (by simp only; omega) ?_)
                  refine weak_hd [(62, 168)] rfl ⟨rfl, rfl, rfl, trivial⟩ ⟨⟨_, rfl, _, _, rfl, rfl, rfl⟩, ⟨_, rfl, _, _, rfl, ren_bool rfl hpar, rfl⟩, ren_row rfl (by show (pairS r).length + 1 = (pairS (r ++ [((flatS a).getD p default)])).length; rw [pair_even r _ (not_t n2)]; simp) fun i hi j hj => ?_, ⟨_, rfl, _, _, rfl, rfl, _, _, rfl, ren_int rfl (half_odd hx (by omega) hp), _, _, rfl, ren_bool rfl (not_odd p), rfl⟩, ⟨_, rfl, _, _, rfl, rfl, _, _, rfl, ren_int rfl (half_even hy), _, _, rfl, ren_bool rfl (not_odd q), rfl⟩, trivial⟩ (by repeat' (first | exact trivial | refine ⟨.inr rfl, ?_⟩ | refine ⟨.inl rfl, ?_⟩)) (by kernel_rfl)
                  have hi : i < (pairS (r ++ [((flatS a).getD p default)])).length := hi
                  show _ = rowL Spn.cells (pairS (r ++ [((flatS a).getD p default)])) i j
                  rw [pair_even r _ (not_t n2)] at hi ⊢
                  exact row_snoc (cells := Spn.cells) (l := pairS r) (x := ⟨((flatS a).getD p default), 0⟩) rfl i (by simpa using hi) j hj
                · have n2 : (!odd r.length) = false := n2
                  refine Sat.go (Eq.refl _) (NS.no (by rw [n1]; rfl) ?_)
                  rw [emit_same1 inv.par n1 n2] at i2
                  have hpar : fM (!odd p) (!odd q) = odd (r).length := by rw [i2.par]; simp only [odd_s]
                  refine Sat.go (Eq.refl _) (NS.next ⟨((p + 1), (q + 1), r), i2⟩ (by simp only; omega) ?_)
                  exact weak_hd [] rfl ⟨rfl, rfl, rfl, trivial⟩ ⟨⟨_, rfl, _, _, rfl, rfl, rfl⟩, ⟨_, rfl, _, _, rfl, ren_bool rfl hpar, rfl⟩, ren_row rfl rfl fun _ _ _ _ => rfl, ⟨_, rfl, _, _, rfl, rfl, _, _, rfl, ren_int rfl (half_odd hx (by omega) hp), _, _, rfl, ren_bool rfl (not_odd p), rfl⟩, ⟨_, rfl, _, _, rfl, rfl, _, _, rfl, ren_int rfl (half_even hy), _, _, rfl, ren_bool rfl (not_odd q), rfl⟩, trivial⟩ (by repeat' (first | exact trivial | refine ⟨.inr rfl, ?_⟩ | refine ⟨.inl rfl, ?_⟩)) (by kernel_rfl)
              · refine Sat.go (Eq.refl _) (NS.yes (by rw [n1]; rfl) ?_)
                refine Sat.go (Eq.refl _) (NS.ite (fun n2 => ?_) (fun n2 => ?_))
                · have n2 : odd r.length = true := n2
                  rw [emit_set inv.par n1 n2] at i2
                  have hpar : fM (!odd p) (!odd q) = odd (r ++ [((flatS a).getD p default)]).length := by rw [i2.par]; simp only [odd_s]
                  obtain ⟨hod, hlen⟩ := pair_odd r ((flatS a).getD p default) n2
                  have e1 : IntKind.i64.wrap (((pairS r).length : Int) - 1) = (((pairS r).length - 1 : Nat) : Int) := by have := inv.len; have := pair_len r; rw [wrap_i64 (by omega) (by omega)]; omega
                  refine Sat.go (Eq.refl _) (NS.need (by rw [e1]; simp; omega) ?_)
                  rw [e1]
                  refine Sat.go (Eq.refl _) (NS.need (by simp; omega) ?_)
                  refine Sat.go (Eq.refl _) (NS.next ⟨((p + 1), (q + 1), r ++ [((flatS a).getD p default)]), i2⟩ (by simp only; omega) ?_)
                  refine weak_hd [] rfl ⟨rfl, rfl, rfl, trivial⟩ ⟨⟨_, rfl, _, _, rfl, rfl, rfl⟩, ⟨_, rfl, _, _, rfl, ren_bool rfl hpar, rfl⟩, ren_row rfl (by show (pairS r).length = (pairS (r ++ [((flatS a).getD p default)])).length; rw [hod]; simp) fun i hi j hj => ?_, ⟨_, rfl, _, _, rfl, rfl, _, _, rfl, ren_int rfl (half_odd hx (by omega) hp), _, _, rfl, ren_bool rfl (not_odd p), rfl⟩, ⟨_, rfl, _, _, rfl, rfl, _, _, rfl, ren_int rfl (half_even hy), _, _, rfl, ren_bool rfl (not_odd q), rfl⟩, trivial⟩ (by repeat' (first | exact trivial | refine ⟨.inr rfl, ?_⟩ | refine ⟨.inl rfl, ?_⟩)) (by kernel_rfl)
                  show _ = rowL Spn.cells (pairS (r ++ [((flatS a).getD p default)])) i j
                  rw [hod]
                  exact row_hi (pairS r) (by omega) rfl i j hj
                · have n2 : odd r.length = false := n2
                  rw [emit_same0 inv.par n1 n2] at i2
                  have hpar : fM (!odd p) (!odd q) = odd (r).length := by rw [i2.par]; simp only [odd_s]
                  refine Sat.go (Eq.refl _) (NS.next ⟨((p + 1), (q + 1), r), i2⟩ (by simp only; omega) ?_)
                  exact weak_hd [] rfl ⟨rfl, rfl, rfl, trivial⟩ ⟨⟨_, rfl, _, _, rfl, rfl, rfl⟩, ⟨_, rfl, _, _, rfl, ren_bool rfl hpar, rfl⟩, ren_row rfl rfl fun _ _ _ _ => rfl, ⟨_, rfl, _, _, rfl, rfl, _, _, rfl, ren_int rfl (half_odd hx (by omega) hp), _, _, rfl, ren_bool rfl (not_odd p), rfl⟩, ⟨_, rfl, _, _, rfl, rfl, _, _, rfl, ren_int rfl (half_even hy), _, _, rfl, ren_bool rfl (not_odd q), rfl⟩, trivial⟩ (by repeat' (first | exact trivial | refine ⟨.inr rfl, ?_⟩ | refine ⟨.inl rfl, ?_⟩)) (by kernel_rfl)
        · have hx : odd p = false := hx
          refine Sat.go (Eq.refl _) (NS.call (next_t h3 (by omega)) rfl ?_)
          refine Sat.go (Eq.refl _) (NS.no rfl ?_)
          refine Sat.go (Eq.refl _) (NS.ite (fun h5 => ?_) (fun h5 => ?_))
          · have h5 : ((flatS b).getD q default) ≠ ((flatS a).getD p default) := bne_iff_ne.1 h5
            have i2 := inv.lt h2 h3 (by omega)
            refine Sat.go (Eq.refl _) (NS.chk (by kernel_rfl) ?_)
            refine Sat.go (Eq.refl _) (NS.yes rfl ?_)
            refine Sat.go (Eq.refl _) (NS.no rfl ?_)
            refine Sat.go (Eq.refl _) (NS.yes rfl ?_)
            refine Sat.go (Eq.refl _) (NS.call (bMinus_ok (!odd p) (odd q)) rfl ?_)
            refine Sat.go (Eq.refl _) (NS.ite (fun n1 => ?_) (fun n1 => ?_))
            · refine Sat.go (Eq.refl _) (NS.ite (fun n2 => ?_) (fun n2 => ?_))
              · have n2 : (!odd r.length) = true := n2
                rw [emit_app inv.par n1 n2] at i2
                have hpar : fM (!odd p) (odd q) = odd (r ++ [((flatS a).getD p default)]).length := by rw [i2.par]; simp only [odd_s]
                refine Sat.go (Eq.refl _) (NS.need (decide_eq_true (by show ((pairS r).length + 1) * _ ≤ _; simp only [maxRow]; rw [pair_len]; have := inv.len; omega)) ?_)
                refine Sat.go (Eq.refl _) (NS.next ⟨((p + 1), q, r ++ [((flatS a).getD p default)]), i2⟩ (by simp only; omega) ?_)
                refine weak_hd [(62, 168)] rfl ⟨rfl, rfl, rfl, trivial⟩ ⟨⟨_, rfl, _, _, rfl, rfl, rfl⟩, ⟨_, rfl, _, _, rfl, ren_bool rfl hpar, rfl⟩, ren_row rfl (by show (pairS r).length + 1 = (pairS (r ++ [((flatS a).getD p default)])).length; rw [pair_even r _ (not_t n2)]; simp) fun i hi j hj => ?_, ⟨_, rfl, _, _, rfl, rfl, _, _, rfl, ren_int rfl (half_even hx), _, _, rfl, ren_bool rfl (not_odd p), rfl⟩, ⟨_, rfl, _, _, rfl, rfl, _, _, rfl, ren_int rfl rfl, _, _, rfl, ren_bool rfl rfl, rfl⟩, trivial⟩ (by repeat' (first | exact trivial | refine ⟨.inr rfl, ?_⟩ | refine ⟨.inl rfl, ?_⟩)) (by kernel_rfl)
                have hi : i < (pairS (r ++ [((flatS a).getD p default)])).length := hi
                show _ = rowL Spn.cells (pairS (r ++ [((flatS a).getD p default)])) i j
                rw [pair_even r _ (not_t n2)] at hi ⊢
                exact row_snoc (cells := Spn.cells) (l := pairS r) (x := ⟨((flatS a).getD p default), 0⟩) rfl i (by simpa using hi) j hj
              · have n2 : (!odd r.length) = false := n2
                refine Sat.go (Eq.refl _) (NS.no (by rw [n1]; rfl) ?_)
                rw [emit_same1 inv.par n1 n2] at i2
                have hpar : fM (!odd p) (odd q) = odd (r).length := by rw [i2.par]; simp only [odd_s]
                refine Sat.go (Eq.refl _) (NS.next ⟨((p + 1), q, r), i2⟩ (by simp only; omega) ?_)
                exact weak_hd [] rfl ⟨rfl, rfl, rfl, trivial⟩ ⟨⟨_, rfl, _, _, rfl, rfl, rfl⟩, ⟨_, rfl, _, _, rfl, ren_bool rfl hpar, rfl⟩, ren_row rfl rfl fun _ _ _ _ => rfl, ⟨_, rfl, _, _, rfl, rfl, _, _, rfl, ren_int rfl (half_even hx), _, _, rfl, ren_bool rfl (not_odd p), rfl⟩, ⟨_, rfl, _, _, rfl, rfl, _, _, rfl, ren_int rfl rfl, _, _, rfl, ren_bool rfl rfl, rfl⟩, trivial⟩ (by repeat' (first | exact trivial | refine ⟨.inr rfl, ?_⟩ | refine ⟨.inl rfl, ?_⟩)) (by kernel_rfl)
            · refine Sat.go (Eq.refl _) (NS.yes (by rw [n1]; rfl) ?_)
              refine Sat.go (Eq.refl _) (NS.ite (fun n2 => ?_) (fun n2 => ?_))
              · have n2 : odd r.length = true := n2
                rw [emit_set inv.par n1 n2] at i2
                have hpar : fM (!odd p) (odd q) = odd (r ++ [((flatS a).getD p default)]).length := by rw [i2.par]; simp only [odd_s]
                obtain ⟨hod, hlen⟩ := pair_odd r ((flatS a).getD p default) n2
                have e1 : IntKind.i64.wrap (((pairS r).length : Int) - 1) = (((pairS r).length - 1 : Nat) : Int) := by have := inv.len; have := pair_len r; rw [wrap_i64 (by omega) (by omega)]; omega
                refine Sat.go (Eq.refl _) (NS.need (by rw [e1]; simp; omega) ?_)
                rw [e1]
                refine Sat.go (Eq.refl _) (NS.need (by simp; omega) ?_)
                refine Sat.go (Eq.refl _) (NS.next ⟨((p + 1), q, r ++ [((flatS a).getD p default)]), i2⟩ (by simp only; omega) ?_)
                refine weak_hd [] rfl ⟨rfl, rfl, rfl, trivial⟩ ⟨⟨_, rfl, _, _, rfl, rfl, rfl⟩, ⟨_, rfl, _, _, rfl, ren_bool rfl hpar, rfl⟩, ren_row rfl (by show (pairS r).length = (pairS (r ++ [((flatS a).getD p default)])).length; rw [hod]; simp) fun i hi j hj => ?_, ⟨_, rfl, _, _, rfl, rfl, _, _, rfl, ren_int rfl (half_even hx), _, _, rfl, ren_bool rfl (not_odd p), rfl⟩, ⟨_, rfl, _, _, rfl, rfl, _, _, rfl, ren_int rfl rfl, _, _, rfl, ren_bool rfl rfl, rfl⟩, trivial⟩ (by repeat' (first | exact trivial | refine ⟨.inr rfl, ?_⟩ | refine ⟨.inl rfl, ?_⟩)) (by kernel_rfl)
                show _ = rowL Spn.cells (pairS (r ++ [((flatS a).getD p default)])) i j
                rw [hod]
                exact row_hi (pairS r) (by omega) rfl i j hj
              · have n2 : odd r.length = false := n2
                rw [emit_same0 inv.par n1 n2] at i2
                have hpar : fM (!odd p) (odd q) = odd (r).length := by rw [i2.par]; simp only [odd_s]
                refine Sat.go (Eq.refl _) (NS.next ⟨((p + 1), q, r), i2⟩ (by simp only; omega) ?_)
                exact weak_hd [] rfl ⟨rfl, rfl, rfl, trivial⟩ ⟨⟨_, rfl, _, _, rfl, rfl, rfl⟩, ⟨_, rfl, _, _, rfl, ren_bool rfl hpar, rfl⟩, ren_row rfl rfl fun _ _ _ _ => rfl, ⟨_, rfl, _, _, rfl, rfl, _, _, rfl, ren_int rfl (half_even hx), _, _, rfl, ren_bool rfl (not_odd p), rfl⟩, ⟨_, rfl, _, _, rfl, rfl, _, _, rfl, ren_int rfl rfl, _, _, rfl, ren_bool rfl rfl, rfl⟩, trivial⟩ (by repeat' (first | exact trivial | refine ⟨.inr rfl, ?_⟩ | refine ⟨.inl rfl, ?_⟩)) (by kernel_rfl)
          · have h5 : ((flatS b).getD q default) = ((flatS a).getD p default) := bne_eq_false_iff_eq.1 h5
            have i2 := inv.eq h2 h3 h5.symm
            refine Sat.go (Eq.refl _) (NS.ite (fun hy => ?_) (fun hy => ?_))
            · have hy : odd q = true := hy
              refine Sat.go (Eq.refl _) (NS.chk (by kernel_rfl) ?_)
              refine Sat.go (Eq.refl _) (NS.yes rfl ?_)
              refine Sat.go (Eq.refl _) (NS.no rfl ?_)
              refine Sat.go (Eq.refl _) (NS.yes rfl ?_)
              refine Sat.go (Eq.refl _) (NS.call (bMinus_ok (!odd p) (!odd q)) rfl ?_)
              refine Sat.go (Eq.refl _) (NS.ite (fun n1 => ?_) (fun n1 => ?_))
              · refine Sat.go (Eq.refl _) (NS.ite (fun n2 => ?_) (fun n2 => ?_))
                · have n2 : (!odd r.length) = true := n2
                  rw [emit_app inv.par n1 n2] at i2
                  have hpar : fM (!odd p) (!odd q) = odd (r ++ [((flatS a).getD p default)]).length := by rw [i2.par]; simp only [odd_s]
                  refine Sat.go (Eq.refl _) (NS.need (decide_eq_true (by show ((pairS r).length + 1) * _ ≤ _; simp only [maxRow]; rw [pair_len]; have := inv.len; omega)) ?_)
                  refine Sat.go (Eq.refl _) (NS.next ⟨((p + 1), (q + 1), r ++ [((flatS a).getD p default)]), i2⟩ (by simp only; omega) ?_)
                  refine weak_hd [(62, 168)] rfl ⟨rfl, rfl, rfl, trivial⟩ ⟨⟨_, rfl, _, _, rfl, rfl, rfl⟩, ⟨_, rfl, _, _, rfl, ren_bool rfl hpar, rfl⟩, ren_row rfl (by show (pairS r).length + 1 = (pairS (r ++ [((flatS a).getD p default)])).length; rw [pair_even r _ (not_t n2)]; simp) fun i hi j hj => ?_, ⟨_, rfl, _, _, rfl, rfl, _, _, rfl, ren_int rfl (half_even hx), _, _, rfl, ren_bool rfl (not_odd p), rfl⟩, ⟨_, rfl, _, _, rfl, rfl, _, _, rfl, ren_int rfl (half_odd hy (by omega) hq), _, _, rfl, ren_bool rfl (not_odd q), rfl⟩, trivial⟩ (by repeat' (first | exact trivial | refine ⟨.inr rfl, ?_⟩ | refine ⟨.inl rfl, ?_⟩)) (by kernel_rfl)
                  have hi : i < (pairS (r ++ [((flatS a).getD p default)])).length := hi
                  show _ = rowL Spn.cells (pairS (r ++ [((flatS a).getD p default)])) i j
                  rw [pair_even r _ (not_t n2)] at hi ⊢
                  exact row_snoc (cells := Spn.cells) (l := pairS r) (x := ⟨((flatS a).getD p default), 0⟩) rfl i (by simpa using hi) j hj
                · have n2 : (!odd r.length) = false := n2
                  refine Sat.go (Eq.refl _) (NS.no (by rw [n1]; rfl) ?_)
                  rw [emit_same1 inv.par n1 n2] at i2
                  have hpar : fM (!odd p) (!odd q) = odd (r).length := by rw [i2.par]; simp only [odd_s]
                  refine Sat.go (Eq.refl _) (NS.next ⟨((p + 1), (q + 1), r), i2⟩ (by simp only; omega) ?_)
                  exact weak_hd [] rfl ⟨rfl, rfl, rfl, trivial⟩ ⟨⟨_, rfl, _, _, rfl, rfl, rfl⟩, ⟨_, rfl, _, _, rfl, ren_bool rfl hpar, rfl⟩, ren_row rfl rfl fun _ _ _ _ => rfl, ⟨_, rfl, _, _, rfl, rfl, _, _, rfl, ren_int rfl (half_even hx), _, _, rfl, ren_bool rfl (not_odd p), rfl⟩, ⟨_, rfl, _, _, rfl, rfl, _, _, rfl, ren_int rfl (half_odd hy (by omega) hq), _, _, rfl, ren_bool rfl (not_odd q), rfl⟩, trivial⟩ (by repeat' (first | exact trivial | refine ⟨.inr rfl, ?_⟩ | refine ⟨.inl rfl, ?_⟩)) (by kernel_rfl)
              · refine Sat.go (Eq.refl _) (NS.yes (by rw [n1]; rfl) ?_)
                refine Sat.go (Eq.refl _) (NS.ite (fun n2 => ?_) (fun n2 => ?_))
                · have n2 : odd r.length = true := n2
                  rw [emit_set inv.par n1 n2] at i2
                  have hpar : fM (!odd p) (!odd q) = odd (r ++ [((flatS a).getD p default)]).length := by rw [i2.par]; simp only [odd_s]
                  obtain ⟨hod, hlen⟩ := pair_odd r ((flatS a).getD p default) n2
                  have e1 : IntKind.i64.wrap (((pairS r).length : Int) - 1) = (((pairS r).length - 1 : Nat) : Int) := by have := inv.len; have := pair_len r; rw [wrap_i64 (by omega) (by omega)]; omega
                  refine Sat.go (Eq.refl _) (NS.need (by rw [e1]; simp; omega) ?_)
                  rw [e1]
                  refine Sat.go (Eq.refl _) (NS.need (by simp; omega) ?_)
                  refine Sat.go (Eq.refl _) (NS.next ⟨((p + 1), (q + 1), r ++ [((flatS a).getD p default)]), i2⟩ (by simp only; omega) ?_)
                  refine weak_hd [] rfl ⟨rfl, rfl, rfl, trivial⟩ ⟨⟨_, rfl, _, _, rfl, rfl, rfl⟩, ⟨_, rfl, _, _, rfl, ren_bool rfl hpar, rfl⟩, ren_row rfl (by show (pairS r).length = (pairS (r ++ [((flatS a).getD p default)])).length; rw [hod]; simp) fun i hi j hj => ?_, ⟨_, rfl, _, _, rfl, rfl, _, _, rfl, ren_int rfl (half_even hx), _, _, rfl, ren_bool rfl (not_odd p), rfl⟩, ⟨_, rfl, _, _, rfl, rfl, _, _, rfl, ren_int rfl (half_odd hy (by omega) hq), _, _, rfl, ren_bool rfl (not_odd q), rfl⟩, trivial⟩ (by repeat' (first | exact trivial | refine ⟨.inr rfl, ?_⟩ | refine ⟨.inl rfl, ?_⟩)) (by kernel_rfl)
                  show _ = rowL Spn.cells (pairS (r ++ [((flatS a).getD p default)])) i j
                  rw [hod]
                  exact row_hi (pairS r) (by omega) rfl i j hj
                · have n2 : odd r.length = false := n2
                  rw [emit_same0 inv.par n1 n2] at i2
                  have hpar : fM (!odd p) (!odd q) = odd (r).length := by rw [i2.par]; simp only [odd_s]
                  refine Sat.go (Eq.refl _) (NS.next ⟨((p + 1), (q + 1), r), i2⟩ (by simp only; omega) ?_)
                  exact weak_hd [] rfl ⟨rfl, rfl, rfl, trivial⟩ ⟨⟨_, rfl, _, _, rfl, rfl, rfl⟩, ⟨_, rfl, _, _, rfl, ren_bool rfl hpar, rfl⟩, ren_row rfl rfl fun _ _ _ _ => rfl, ⟨_, rfl, _, _, rfl, rfl, _, _, rfl, ren_int rfl (half_even hx), _, _, rfl, ren_bool rfl (not_odd p), rfl⟩, ⟨_, rfl, _, _, rfl, rfl, _, _, rfl, ren_int rfl (half_odd hy (by omega) hq), _, _, rfl, ren_bool rfl (not_odd q), rfl⟩, trivial⟩ (by repeat' (first | exact trivial | refine ⟨.inr rfl, ?_⟩ | refine ⟨.inl rfl, ?_⟩)) (by kernel_rfl)
            · have hy : odd q = false := hy
              refine Sat.go (Eq.refl _) (NS.chk (by kernel_rfl) ?_)
              refine Sat.go (Eq.refl _) (NS.yes rfl ?_)
              refine Sat.go (Eq.refl _) (NS.no rfl ?_)
              refine Sat.go (Eq.refl _) (NS.yes rfl ?_)
              refine Sat.go (Eq.refl _) (NS.call (bMinus_ok (!odd p) (!odd q)) rfl ?_)
              refine Sat.go (Eq.refl _) (NS.ite (fun n1 => ?_) (fun n1 => ?_))
              · refine Sat.go (Eq.refl _) (NS.ite (fun n2 => ?_) (fun n2 => ?_))
                · have n2 : (!odd r.length) = true := n2
                  rw [emit_app inv.par n1 n2] at i2
                  have hpar : fM (!odd p) (!odd q) = odd (r ++ [((flatS a).getD p default)]).length := by rw [i2.par]; simp only [odd_s]
                  refine Sat.go (Eq.refl _) (NS.need (decide_eq_true (by show ((pairS r).length + 1) * _ ≤ _; simp only [maxRow]; rw [pair_len]; have := inv.len; omega)) ?_)
                  refine Sat.go (Eq.refl _) (NS.next ⟨((p + 1), (q + 1), r ++ [((flatS a).getD p default)]), i2⟩ (by simp only; omega) ?_)
                  refine weak_hd [(62, 168)] rfl ⟨rfl, rfl, rfl, trivial⟩ ⟨⟨_, rfl, _, _, rfl, rfl, rfl⟩, ⟨_, rfl, _, _, rfl, ren_bool rfl hpar, rfl⟩, ren_row rfl (by show (pairS r).length + 1 = (pairS (r ++ [((flatS a).getD p default)])).length; rw [pair_even r _ (not_t n2)]; simp) fun i hi j hj => ?_, ⟨_, rfl, _, _, rfl, rfl, _, _, rfl, ren_int rfl (half_even hx), _, _, rfl, ren_bool rfl (not_odd p), rfl⟩, ⟨_, rfl, _, _, rfl, rfl, _, _, rfl, ren_int rfl (half_even hy), _, _, rfl, ren_bool rfl (not_odd q), rfl⟩, trivial⟩ (by repeat' (first | exact trivial | refine ⟨.inr rfl, ?_⟩ | refine ⟨.inl rfl, ?_⟩)) (by kernel_rfl)
                  have hi : i < (pairS (r ++ [((flatS a).getD p default)])).length := hi
                  show _ = rowL Spn.cells (pairS (r ++ [((flatS a).getD p default)])) i j
                  rw [pair_even r _ (not_t n2)] at hi ⊢
                  exact row_snoc (cells := Spn.cells) (l := pairS r) (x := ⟨((flatS a).getD p default), 0⟩) rfl i (by simpa using hi) j hj
                · have n2 : (!odd r.length) = false := n2
                  refine Sat.go (Eq.refl _) (NS.no (by rw [n1]; rfl) ?_)
                  rw [emit_same1 inv.par n1 n2] at i2
                  have hpar : fM (!odd p) (!odd q) = odd (r).length := by rw [i2.par]; simp only [odd_s]
                  refine Sat.go (Eq.refl _) (NS.next ⟨((p + 1), (q + 1), r), i2⟩ (by simp only; omega) ?_)
                  exact weak_hd [] rfl ⟨rfl, rfl, rfl, trivial⟩ ⟨⟨_, rfl, _, _, rfl, rfl, rfl⟩, ⟨_, rfl, _, _, rfl, ren_bool rfl hpar, rfl⟩, ren_row rfl rfl fun _ _ _ _ => rfl, ⟨_, rfl, _, _, rfl, rfl, _, _, rfl, ren_int rfl (half_even hx), _, _, rfl, ren_bool rfl (not_odd p), rfl⟩, ⟨_, rfl, _, _, rfl, rfl, _, _, rfl, ren_int rfl (half_even hy), _, _, rfl, ren_bool rfl (not_odd q), rfl⟩, trivial⟩ (by repeat' (first | exact trivial | refine ⟨.inr rfl, ?_⟩ | refine ⟨.inl rfl, ?_⟩)) (by kernel_rfl)
              · refine Sat.go (Eq.refl _) (NS.yes (by rw [n1]; rfl) ?_)
                refine Sat.go (Eq.refl _) (NS.ite (fun n2 => ?_) (fun n2 => ?_))
                · have n2 : odd r.length = true := n2
                  rw [emit_set inv.par n1 n2] at i2
                  have hpar : fM (!odd p) (!odd q) = odd (r ++ [((flatS a).getD p default)]).length := by rw [i2.par]; simp only [odd_s]
                  obtain ⟨hod, hlen⟩ := pair_odd r ((flatS a).getD p default) n2
                  have e1 : IntKind.i64.wrap (((pairS r).length : Int) - 1) = (((pairS r).length - 1 : Nat) : Int) := by have := inv.len; have := pair_len r; rw [wrap_i64 (by omega) (by omega)]; omega
                  refine Sat.go (Eq.refl _) (NS.need (by rw [e1]; simp; omega) ?_)
                  rw [e1]
                  refine Sat.go (Eq.refl _) (NS.need (by simp; omega) ?_)
                  refine Sat.go (Eq.refl _) (NS.next ⟨((p + 1), (q + 1), r ++ [((flatS a).getD p default)]), i2⟩ (by simp only; omega) ?_)
                  refine weak_hd [] rfl ⟨rfl, rfl, rfl, trivial⟩ ⟨⟨_, rfl, _, _, rfl, rfl, rfl⟩, ⟨_, rfl, _, _, rfl, ren_bool rfl hpar, rfl⟩, ren_row rfl (by show (pairS r).length = (pairS (r ++ [((flatS a).getD p default)])).length; rw [hod]; simp) fun i hi j hj => ?_, ⟨_, rfl, _, _, rfl, rfl, _, _, rfl, ren_int rfl (half_even hx), _, _, rfl, ren_bool rfl (not_odd p), rfl⟩, ⟨_, rfl, _, _, rfl, rfl, _, _, rfl, ren_int rfl (half_even hy), _, _, rfl, ren_bool rfl (not_odd q), rfl⟩, trivial⟩ (by repeat' (first | exact trivial | refine ⟨.inr rfl, ?_⟩ | refine ⟨.inl rfl, ?_⟩)) (by kernel_rfl)
                  show _ = rowL Spn.cells (pairS (r ++ [((flatS a).getD p default)])) i j
                  rw [hod]
                  exact row_hi (pairS r) (by omega) rfl i j hj
                · have n2 : odd r.length = false := n2
                  rw [emit_same0 inv.par n1 n2] at i2
                  have hpar : fM (!odd p) (!odd q) = odd (r).length := by rw [i2.par]; simp only [odd_s]
                  refine Sat.go (Eq.refl _) (NS.next ⟨((p + 1), (q + 1), r), i2⟩ (by simp only; omega) ?_)
                  exact weak_hd [] rfl ⟨rfl, rfl, rfl, trivial⟩ ⟨⟨_, rfl, _, _, rfl, rfl, rfl⟩, ⟨_, rfl, _, _, rfl, ren_bool rfl hpar, rfl⟩, ren_row rfl rfl fun _ _ _ _ => rfl, ⟨_, rfl, _, _, rfl, rfl, _, _, rfl, ren_int rfl (half_even hx), _, _, rfl, ren_bool rfl (not_odd p), rfl⟩, ⟨_, rfl, _, _, rfl, rfl, _, _, rfl, ren_int rfl (half_even hy), _, _, rfl, ren_bool rfl (not_odd q), rfl⟩, trivial⟩ (by repeat' (first | exact trivial | refine ⟨.inr rfl, ?_⟩ | refine ⟨.inl rfl, ?_⟩)) (by kernel_rfl)
    · refine Sat.go (Eq.refl _) (NS.call (next_f hq h3 (by omega)) rfl ?_)
      have i2 := inv.x h2 h3
      refine Sat.go (Eq.refl _) (NS.no rfl ?_)
      refine Sat.go (Eq.refl _) (NS.no rfl ?_)
      refine Sat.go (Eq.refl _) (NS.no rfl ?_)
      refine Sat.go (Eq.refl _) (NS.call (next_t h2 (by omega)) rfl ?_)
      refine Sat.go (Eq.refl _) (NS.no rfl ?_)
      refine Sat.go (Eq.refl _) (NS.no (bne_eq_false_iff_eq.2 rfl) ?_)
      refine Sat.go (Eq.refl _) (NS.ite (fun hx => ?_) (fun hx => ?_))
      · have hx : odd p = true := hx
        refine Sat.go (Eq.refl _) (NS.call (next_f hq h3 (by omega)) rfl ?_)
        refine Sat.go (Eq.refl _) (NS.yes rfl ?_)
        refine Sat.go (Eq.refl _) (NS.chk (by kernel_rfl) ?_)
        refine Sat.go (Eq.refl _) (NS.yes rfl ?_)
        refine Sat.go (Eq.refl _) (NS.no rfl ?_)
        refine Sat.go (Eq.refl _) (NS.yes rfl ?_)
        refine Sat.go (Eq.refl _) (NS.call (bMinus_ok (!odd p) (odd q)) rfl ?_)
        refine Sat.go (Eq.refl _) (NS.ite (fun n1 => ?_) (fun n1 => ?_))
        · refine Sat.go (Eq.refl _) (NS.ite (fun n2 => ?_) (fun n2 => ?_))
          · have n2 : (!odd r.length) = true := n2
            rw [emit_app inv.par n1 n2] at i2
            have hpar : fM (!odd p) (odd q) = odd (r ++ [((flatS a).getD p default)]).length := by rw [i2.par]; simp only [odd_s]
            refine Sat.go (Eq.refl _) (NS.need (decide_eq_true (by show ((pairS r).length + 1) * _ ≤ _; simp only [maxRow]; rw [pair_len]; have := inv.len; omega)) ?_)
            refine Sat.go (Eq.refl _) (NS.next ⟨((p + 1), q, r ++ [((flatS a).getD p default)]), i2⟩ (by simp only; omega) ?_)
            refine weak_hd [(62, 168)] rfl ⟨rfl, rfl, rfl, trivial⟩ ⟨⟨_, rfl, _, _, rfl, rfl, rfl⟩, ⟨_, rfl, _, _, rfl, ren_bool rfl hpar, rfl⟩, ren_row rfl (by show (pairS r).length + 1 = (pairS (r ++ [((flatS a).getD p default)])).length; rw [pair_even r _ (not_t n2)]; simp) fun i hi j hj => ?_, ⟨_, rfl, _, _, rfl, rfl, _, _, rfl, ren_int rfl (half_odd hx (by omega) hp), _, _, rfl, ren_bool rfl (not_odd p), rfl⟩, ⟨_, rfl, _, _, rfl, rfl, _, _, rfl, ren_int rfl rfl, _, _, rfl, ren_bool rfl rfl, rfl⟩, trivial⟩ (by repeat' (first | exact trivial | refine ⟨.inr rfl, ?_⟩ | refine ⟨.inl rfl, ?_⟩)) (by kernel_rfl)
            have hi : i < (pairS (r ++ [((flatS a).getD p default)])).length := hi
            show _ = rowL Spn.cells (pairS (r ++ [((flatS a).getD p default)])) i j
            rw [pair_even r _ (not_t n2)] at hi ⊢
            exact row_snoc (cells := Spn.cells) (l := pairS r) (x := ⟨((flatS a).getD p default), 0⟩) rfl i (by simpa using hi) j hj
          · have n2 : (!odd r.length) = false := n2
            refine Sat.go (Eq.refl _) (NS.no (by rw [n1]; rfl) ?_)
            rw [emit_same1 inv.par n1 n2] at i2
            have hpar : fM (!odd p) (odd q) = odd (r).length := by rw [i2.par]; simp only [odd_s]
            refine Sat.go (Eq.refl _) (NS.next ⟨((p + 1), q, r), i2⟩ (by simp only; omega) ?_)
            exact weak_hd [] rfl ⟨rfl, rfl, rfl, trivial⟩ ⟨⟨_, rfl, _, _, rfl, rfl, rfl⟩, ⟨_, rfl, _, _, rfl, ren_bool rfl hpar, rfl⟩, ren_row rfl rfl fun _ _ _ _ => rfl, ⟨_, rfl, _, _, rfl, rfl, _, _, rfl, ren_int rfl (half_odd hx (by omega) hp), _, _, rfl, ren_bool rfl (not_odd p), rfl⟩, ⟨_, rfl, _, _, rfl, rfl, _, _, rfl, ren_int rfl rfl, _, _, rfl, ren_bool rfl rfl, rfl⟩, trivial⟩ (by repeat' (first | exact trivial | refine ⟨.inr rfl, ?_⟩ | refine ⟨.inl rfl, ?_⟩)) (by kernel_rfl)
        · refine Sat.go (Eq.refl _) (NS.yes (by rw [n1]; rfl) ?_)
          refine Sat.go (Eq.refl _) (NS.ite (fun n2 => ?_) (fun n2 => ?_))
          · have n2 : odd r.length = true := n2
            rw [emit_set inv.par n1 n2] at i2
            have hpar : fM (!odd p) (odd q) = odd (r ++ [((flatS a).getD p default)]).length := by rw [i2.par]; simp only [odd_s]
            obtain ⟨hod, hlen⟩ := pair_odd r ((flatS a).getD p default) n2
            have e1 : IntKind.i64.wrap (((pairS r).length : Int) - 1) = (((pairS r).length - 1 : Nat) : Int) := by have := inv.len; have := pair_len r; rw [wrap_i64 (by omega) (by omega)]; omega
            refine Sat.go (Eq.refl _) (NS.need (by rw [e1]; simp; omega) ?_)
            rw [e1]
            refine Sat.go (Eq.refl _) (NS.need (by simp; omega) ?_)
            refine Sat.go (Eq.refl _) (NS.next ⟨((p + 1), q, r ++ [((flatS a).getD p default)]), i2⟩ (by simp only; omega) ?_)
            refine weak_hd [] rfl ⟨rfl, rfl, rfl, trivial⟩ ⟨⟨_, rfl, _, _, rfl, rfl, rfl⟩, ⟨_, rfl, _, _, rfl, ren_bool rfl hpar, rfl⟩, ren_row rfl (by show (pairS r).length = (pairS (r ++ [((flatS a).getD p default)])).length; rw [hod]; simp) fun i hi j hj => ?_, ⟨_, rfl, _, _, rfl, rfl, _, _, rfl, ren_int rfl (half_odd hx (by omega) hp), _, _, rfl, ren_bool rfl (not_odd p), rfl⟩, ⟨_, rfl, _, _, rfl, rfl, _, _, rfl, ren_int rfl rfl, _, _, rfl, ren_bool rfl rfl, rfl⟩, trivial⟩ (by repeat' (first | exact trivial | refine ⟨.inr rfl, ?_⟩ | refine ⟨.inl rfl, ?_⟩)) (by kernel_rfl)
            show _ = rowL Spn.cells (pairS (r ++ [((flatS a).getD p default)])) i j
            rw [hod]
            exact row_hi (pairS r) (by omega) rfl i j hj
          · have n2 : odd r.length = false := n2
            rw [emit_same0 inv.par n1 n2] at i2
            have hpar : fM (!odd p) (odd q) = odd (r).length := by rw [i2.par]; simp only [odd_s]
            refine Sat.go (Eq.refl _) (NS.next ⟨((p + 1), q, r), i2⟩ (by simp only; omega) ?_)
            exact weak_hd [] rfl ⟨rfl, rfl, rfl, trivial⟩ ⟨⟨_, rfl, _, _, rfl, rfl, rfl⟩, ⟨_, rfl, _, _, rfl, ren_bool rfl hpar, rfl⟩, ren_row rfl rfl fun _ _ _ _ => rfl, ⟨_, rfl, _, _, rfl, rfl, _, _, rfl, ren_int rfl (half_odd hx (by omega) hp), _, _, rfl, ren_bool rfl (not_odd p), rfl⟩, ⟨_, rfl, _, _, rfl, rfl, _, _, rfl, ren_int rfl rfl, _, _, rfl, ren_bool rfl rfl, rfl⟩, trivial⟩ (by repeat' (first | exact trivial | refine ⟨.inr rfl, ?_⟩ | refine ⟨.inl rfl, ?_⟩)) (by kernel_rfl)
      · have hx : odd p = false := hx
        refine Sat.go (Eq.refl _) (NS.call (next_f hq h3 (by omega)) rfl ?_)
        refine Sat.go (Eq.refl _) (NS.yes rfl ?_)
        refine Sat.go (Eq.refl _) (NS.chk (by kernel_rfl) ?_)
        refine Sat.go (Eq.refl _) (NS.yes rfl ?_)
        refine Sat.go (Eq.refl _) (NS.no rfl ?_)
        refine Sat.go (Eq.refl _) (NS.yes rfl ?_)
        refine Sat.go (Eq.refl _) (NS.call (bMinus_ok (!odd p) (odd q)) rfl ?_)
        refine Sat.go (Eq.refl _) (NS.ite (fun n1 => ?_) (fun n1 => ?_))
        · refine Sat.go (Eq.refl _) (NS.ite (fun n2 => ?_) (fun n2 => ?_))
          · have n2 : (!odd r.length) = true := n2
            rw [emit_app inv.par n1 n2] at i2
            have hpar : fM (!odd p) (odd q) = odd (r ++ [((flatS a).getD p default)]).length := by rw [i2.par]; simp only [odd_s]
            refine Sat.go (Eq.refl _) (NS.need (decide_eq_true (by show ((pairS r).length + 1) * _ ≤ _; simp only [maxRow]; rw [pair_len]; have := inv.len; omega)) ?_)
            refine Sat.go (Eq.refl _) (NS.next ⟨((p + 1), q, r ++ [((flatS a).getD p default)]), i2⟩ (by simp only; omega) ?_)
            refine weak_hd [(62, 168)] rfl ⟨rfl, rfl, rfl, trivial⟩ ⟨⟨_, rfl, _, _, rfl, rfl, rfl⟩, ⟨_, rfl, _, _, rfl, ren_bool rfl hpar, rfl⟩, ren_row rfl (by show (pairS r).length + 1 = (pairS (r ++ [((flatS a).getD p default)])).length; rw [pair_even r _ (not_t n2)]; simp) fun i hi j hj => ?_, ⟨_, rfl, _, _, rfl, rfl, _, _, rfl, ren_int rfl (half_even hx), _, _, rfl, ren_bool rfl (not_odd p), rfl⟩, ⟨_, rfl, _, _, rfl, rfl, _, _, rfl, ren_int rfl rfl, _, _, rfl, ren_bool rfl rfl, rfl⟩, trivial⟩ (by repeat' (first | exact trivial | refine ⟨.inr rfl, ?_⟩ | refine ⟨.inl rfl, ?_⟩)) (by kernel_rfl)
            have hi : i < (pairS (r ++ [((flatS a).getD p default)])).length := hi
            show _ = rowL Spn.cells (pairS (r ++ [((flatS a).getD p default)])) i j
            rw [pair_even r _ (not_t n2)] at hi ⊢
            exact row_snoc (cells := Spn.cells) (l := pairS r) (x := ⟨((flatS a).getD p default), 0⟩) rfl i (by simpa using hi) j hj
          · have n2 : (!odd r.length) = false := n2
            refine Sat.go (Eq.refl _) (NS.no (by rw [n1]; rfl) ?_)
            rw [emit_same1 inv.par n1 n2] at i2
            have hpar : fM (!odd p) (odd q) = odd (r).length := by rw [i2.par]; simp only [odd_s]
            refine Sat.go (Eq.refl _) (NS.next ⟨((p + 1), q, r), i2⟩ (by simp only; omega) ?_)
            exact weak_hd [] rfl ⟨rfl, rfl, rfl, trivial⟩ ⟨⟨_, rfl, _, _, rfl, rfl, rfl⟩, ⟨_, rfl, _, _, rfl, ren_bool rfl hpar, rfl⟩, ren_row rfl rfl fun _ _ _ _ => rfl, ⟨_, rfl, _, _, rfl, rfl, _, _, rfl, ren_int rfl (half_even hx), _, _, rfl, ren_bool rfl (not_odd p), rfl⟩, ⟨_, rfl, _, _, rfl, rfl, _, _, rfl, ren_int rfl rfl, _, _, rfl, ren_bool rfl rfl, rfl⟩, trivial⟩ (by repeat' (first | exact trivial | refine ⟨.inr rfl, ?_⟩ | refine ⟨.inl rfl, ?_⟩)) (by kernel_rfl)
        · refine Sat.go (Eq.refl _) (NS.yes (by rw [n1]; rfl) ?_)
          refine Sat.go (Eq.refl _) (NS.ite (fun n2 => ?_) (fun n2 => ?_))
          · have n2 : odd r.length = true := n2
            rw [emit_set inv.par n1 n2] at i2
            have hpar : fM (!odd p) (odd q) = odd (r ++ [((flatS a).getD p default)]).length := by rw [i2.par]; simp only [odd_s]
            obtain ⟨hod, hlen⟩ := pair_odd r ((flatS a).getD p default) n2
            have e1 : IntKind.i64.wrap (((pairS r).length : Int) - 1) = (((pairS r).length - 1 : Nat) : Int) := by have := inv.len; have := pair_len r; rw [wrap_i64 (by omega) (by omega)]; omega
            refine Sat.go (Eq.refl _) (NS.need (by rw [e1]; simp; omega) ?_)
            rw [e1]
            refine Sat.go (Eq.refl _) (NS.need (by simp; omega) ?_)
            refine Sat.go (Eq.refl _) (NS.next ⟨((p + 1), q, r ++ [((flatS a).getD p default)]), i2⟩ (by simp only; omega) ?_)
            refine weak_hd [] rfl ⟨rfl, rfl, rfl, trivial⟩ ⟨⟨_, rfl, _, _, rfl, rfl, rfl⟩, ⟨_, rfl, _, _, rfl, ren_bool rfl hpar, rfl⟩, ren_row rfl (by show (pairS r).length = (pairS (r ++ [((flatS a).getD p default)])).length; rw [hod]; simp) fun i hi j hj => ?_, ⟨_, rfl, _, _, rfl, rfl, _, _, rfl, ren_int rfl (half_even hx), _, _, rfl, ren_bool rfl (not_odd p), rfl⟩, ⟨_, rfl, _, _, rfl, rfl, _, _, rfl, ren_int rfl rfl, _, _, rfl, ren_bool rfl rfl, rfl⟩, trivial⟩ (by repeat' (first | exact trivial | refine ⟨.inr rfl, ?_⟩ | refine ⟨.inl rfl, ?_⟩)) (by kernel_rfl)
            show _ = rowL Spn.cells (pairS (r ++ [((flatS a).getD p default)])) i j
            rw [hod]
            exact row_hi (pairS r) (by omega) rfl i j hj
          · have n2 : odd r.length = false := n2
            rw [emit_same0 inv.par n1 n2] at i2
            have hpar : fM (!odd p) (odd q) = odd (r).length := by rw [i2.par]; simp only [odd_s]
            refine Sat.go (Eq.refl _) (NS.next ⟨((p + 1), q, r), i2⟩ (by simp only; omega) ?_)
            exact weak_hd [] rfl ⟨rfl, rfl, rfl, trivial⟩ ⟨⟨_, rfl, _, _, rfl, rfl, rfl⟩, ⟨_, rfl, _, _, rfl, ren_bool rfl hpar, rfl⟩, ren_row rfl rfl fun _ _ _ _ => rfl, ⟨_, rfl, _, _, rfl, rfl, _, _, rfl, ren_int rfl (half_even hx), _, _, rfl, ren_bool rfl (not_odd p), rfl⟩, ⟨_, rfl, _, _, rfl, rfl, _, _, rfl, ren_int rfl rfl, _, _, rfl, ren_bool rfl rfl, rfl⟩, trivial⟩ (by repeat' (first | exact trivial | refine ⟨.inr rfl, ?_⟩ | refine ⟨.inl rfl, ?_⟩)) (by kernel_rfl)
  · refine Sat.go (Eq.refl _) (NS.call (next_f hp h2 (by omega)) rfl ?_)
    by_cases h3 : q < 2 * b.length
    · refine Sat.go (Eq.refl _) (NS.call (next_t h3 (by omega)) rfl ?_)
      have i2 := inv.y h2 h3
      refine Sat.go (Eq.refl _) (NS.yes rfl ?_)
      refine Sat.go (Eq.refl _) (NS.no rfl ?_)
      refine Sat.go (Eq.refl _) (NS.yes rfl ?_)
      refine Sat.go (Eq.refl _) (NS.call (next_f hp h2 (by omega)) rfl ?_)
      refine Sat.go (Eq.refl _) (NS.yes rfl ?_)
      refine Sat.go (Eq.refl _) (NS.call (next_t h3 (by omega)) rfl ?_)
      refine Sat.go (Eq.refl _) (NS.no rfl ?_)
      refine Sat.go (Eq.refl _) (NS.no (bne_eq_false_iff_eq.2 rfl) ?_)
      refine Sat.go (Eq.refl _) (NS.ite (fun hy => ?_) (fun hy => ?_))
      · have hy : odd q = true := hy
        refine Sat.go (Eq.refl _) (NS.chk (by kernel_rfl) ?_)
        refine Sat.go (Eq.refl _) (NS.yes rfl ?_)
        refine Sat.go (Eq.refl _) (NS.no rfl ?_)
        refine Sat.go (Eq.refl _) (NS.yes rfl ?_)
        refine Sat.go (Eq.refl _) (NS.call (bMinus_ok (odd p) (!odd q)) rfl ?_)
        refine Sat.go (Eq.refl _) (NS.ite (fun n1 => ?_) (fun n1 => ?_))
        · refine Sat.go (Eq.refl _) (NS.ite (fun n2 => ?_) (fun n2 => ?_))
          · have n2 : (!odd r.length) = true := n2
            rw [emit_app inv.par n1 n2] at i2
            have hpar : fM (odd p) (!odd q) = odd (r ++ [((flatS b).getD q default)]).length := by rw [i2.par]; simp only [odd_s]
            refine Sat.go (Eq.refl _) (NS.need (decide_eq_true (by show ((pairS r).length + 1) * _ ≤ _; simp only [maxRow]; rw [pair_len]; have := inv.len; omega)) ?_)
            refine Sat.go (Eq.refl _) (NS.next ⟨(p, (q + 1), r ++ [((flatS b).getD q default)]), i2⟩ (by simp only; omega) ?_)
            refine weak_hd [(62, 168)] rfl ⟨rfl, rfl, rfl, trivial⟩ ⟨⟨_, rfl, _, _, rfl, rfl, rfl⟩, ⟨_, rfl, _, _, rfl, ren_bool rfl hpar, rfl⟩, ren_row rfl (by show (pairS r).length + 1 = (pairS (r ++ [((flatS b).getD q default)])).length; rw [pair_even r _ (not_t n2)]; simp) fun i hi j hj => ?_, ⟨_, rfl, _, _, rfl, rfl, _, _, rfl, ren_int rfl rfl, _, _, rfl, ren_bool rfl rfl, rfl⟩, ⟨_, rfl, _, _, rfl, rfl, _, _, rfl, ren_int rfl (half_odd hy (by omega) hq), _, _, rfl, ren_bool rfl (not_odd q), rfl⟩, trivial⟩ (by repeat' (first | exact trivial | refine ⟨.inr rfl, ?_⟩ | refine ⟨.inl rfl, ?_⟩)) (by kernel_rfl)
            have hi : i < (pairS (r ++ [((flatS b).getD q default)])).length := hi
            show _ = rowL Spn.cells (pairS (r ++ [((flatS b).getD q default)])) i j
            rw [pair_even r _ (not_t n2)] at hi ⊢
            exact row_snoc (cells := Spn.cells) (l := pairS r) (x := ⟨((flatS b).getD q default), 0⟩) rfl i (by simpa using hi) j hj
          · have n2 : (!odd r.length) = false := n2
            refine Sat.go (Eq.refl _) (NS.no (by rw [n1]; rfl) ?_)
            rw [emit_same1 inv.par n1 n2] at i2
            have hpar : fM (odd p) (!odd q) = odd (r).length := by rw [i2.par]; simp only [odd_s]
            refine Sat.go (Eq.refl _) (NS.next ⟨(p, (q + 1), r), i2⟩ (by simp only; omega) ?_)
            exact weak_hd [] rfl ⟨rfl, rfl, rfl, trivial⟩ ⟨⟨_, rfl, _, _, rfl, rfl, rfl⟩, ⟨_, rfl, _, _, rfl, ren_bool rfl hpar, rfl⟩, ren_row rfl rfl fun _ _ _ _ => rfl, ⟨_, rfl, _, _, rfl, rfl, _, _, rfl, ren_int rfl rfl, _, _, rfl, ren_bool rfl rfl, rfl⟩, ⟨_, rfl, _, _, rfl, rfl, _, _, rfl, ren_int rfl (half_odd hy (by omega) hq), _, _, rfl, ren_bool rfl (not_odd q), rfl⟩, trivial⟩ (by repeat' (first | exact trivial | refine ⟨.inr rfl, ?_⟩ | refine ⟨.inl rfl, ?_⟩)) (by kernel_rfl)
        · refine Sat.go (Eq.refl _) (NS.yes (by rw [n1]; rfl) ?_)
          refine Sat.go (Eq.refl _) (NS.ite (fun n2 => ?_) (fun n2 => ?_))
          · have n2 : odd r.length = true := n2
            rw [emit_set inv.par n1 n2] at i2
            have hpar : fM (odd p) (!odd q) = odd (r ++ [((flatS b).getD q default)]).length := by rw [i2.par]; simp only [odd_s]
            obtain ⟨hod, hlen⟩ := pair_odd r ((flatS b).getD q default) n2
            have e1 : IntKind.i64.wrap (((pairS r).length : Int) - 1) = (((pairS r).length - 1 : Nat) : Int) := by have := inv.len; have := pair_len r; rw [wrap_i64 (by omega) (by omega)]; omega
            refine Sat.go (Eq.refl _) (NS.need (by rw [e1]; simp; omega) ?_)
            rw [e1]
            refine Sat.go (Eq.refl _) (NS.need (by simp; omega) ?_)
            refine Sat.go (Eq.refl _) (NS.next ⟨(p, (q + 1), r ++ [((flatS b).getD q default)]), i2⟩ (by simp only; omega) ?_)
            refine weak_hd [] rfl ⟨rfl, rfl, rfl, trivial⟩ ⟨⟨_, rfl, _, _, rfl, rfl, rfl⟩, ⟨_, rfl, _, _, rfl, ren_bool rfl hpar, rfl⟩, ren_row rfl (by show (pairS r).length = (pairS (r ++ [((flatS b).getD q default)])).length; rw [hod]; simp) fun i hi j hj => ?_, ⟨_, rfl, _, _, rfl, rfl, _, _, rfl, ren_int rfl rfl, _, _, rfl, ren_bool rfl rfl, rfl⟩, ⟨_, rfl, _, _, rfl, rfl, _, _, rfl, ren_int rfl (half_odd hy (by omega) hq), _, _, rfl, ren_bool rfl (not_odd q), rfl⟩, trivial⟩ (by repeat' (first | exact trivial | refine ⟨.inr rfl, ?_⟩ | refine ⟨.inl rfl, ?_⟩)) (by kernel_rfl)
            show _ = rowL Spn.cells (pairS (r ++ [((flatS b).getD q default)])) i j
            rw [hod]
            exact row_hi (pairS r) (by omega) rfl i j hj
          · have n2 : odd r.length = false := n2
            rw [emit_same0 inv.par n1 n2] at i2
            have hpar : fM (odd p) (!odd q) = odd (r).length := by rw [i2.par]; simp only [odd_s]
            refine Sat.go (Eq.refl _) (NS.next ⟨(p, (q + 1), r), i2⟩ (by simp only; omega) ?_)
            exact weak_hd [] rfl ⟨rfl, rfl, rfl, trivial⟩ ⟨⟨_, rfl, _, _, rfl, rfl, rfl⟩, ⟨_, rfl, _, _, rfl, ren_bool rfl hpar, rfl⟩, ren_row rfl rfl fun _ _ _ _ => rfl, ⟨_, rfl, _, _, rfl, rfl, _, _, rfl, ren_int rfl rfl, _, _, rfl, ren_bool rfl rfl, rfl⟩, ⟨_, rfl, _, _, rfl, rfl, _, _, rfl, ren_int rfl (half_odd hy (by omega) hq), _, _, rfl, ren_bool rfl (not_odd q), rfl⟩, trivial⟩ (by repeat' (first | exact trivial | refine ⟨.inr rfl, ?_⟩ | refine ⟨.inl rfl, ?_⟩)) (by kernel_rfl)
      · have hy : odd q = false := hy
        refine Sat.go (Eq.refl _) (NS.chk (by kernel_rfl) ?_)
        refine Sat.go (Eq.refl _) (NS.yes rfl ?_)
        refine Sat.go (Eq.refl _) (NS.no rfl ?_)
        refine Sat.go (Eq.refl _) (NS.yes rfl ?_)
        refine Sat.go (Eq.refl _) (NS.call (bMinus_ok (odd p) (!odd q)) rfl ?_)
        refine Sat.go (Eq.refl _) (NS.ite (fun n1 => ?_) (fun n1 => ?_))
        · refine Sat.go (Eq.refl _) (NS.ite (fun n2 => ?_) (fun n2 => ?_))
          · have n2 : (!odd r.length) = true := n2
            rw [emit_app inv.par n1 n2] at i2
            have hpar : fM (odd p) (!odd q) = odd (r ++ [((flatS b).getD q default)]).length := by rw [i2.par]; simp only [odd_s]
            refine Sat.go (Eq.refl _) (NS.need (decide_eq_true (by show ((pairS r).length + 1) * _ ≤ _; simp only [maxRow]; rw [pair_len]; have := inv.len; omega)) ?_)
            refine Sat.go (Eq.refl _) (NS.next ⟨(p, (q + 1), r ++ [((flatS b).getD q default)]), i2⟩ (by simp only; omega) ?_)
            refine weak_hd [(62, 168)] rfl ⟨rfl, rfl, rfl, trivial⟩ ⟨⟨_, rfl, _, _, rfl, rfl, rfl⟩, ⟨_, rfl, _, _, rfl, ren_bool rfl hpar, rfl⟩, ren_row rfl (by show (pairS r).length + 1 = (pairS (r ++ [((flatS b).getD q default)])).length; rw [pair_even r _ (not_t n2)]; simp) fun i hi j hj => ?_, ⟨_, rfl, _, _, rfl, rfl, _, _, rfl, ren_int rfl rfl, _, _, rfl, ren_bool rfl rfl, rfl⟩, ⟨_, rfl, _, _, rfl, rfl, _, _, rfl, ren_int rfl (half_even hy), _, _, rfl, ren_bool rfl (not_odd q), rfl⟩, trivial⟩ (by repeat' (first | exact trivial | refine ⟨.inr rfl, ?_⟩ | refine ⟨.inl rfl, ?_⟩)) (by kernel_rfl)
            have hi : i < (pairS (r ++ [((flatS b).getD q default)])).length := hi
            show _ = rowL Spn.cells (pairS (r ++ [((flatS b).getD q default)])) i j
            rw [pair_even r _ (not_t n2)] at hi ⊢
            exact row_snoc (cells := Spn.cells) (l := pairS r) (x := ⟨((flatS b).getD q default), 0⟩) rfl i (by simpa using hi) j hj
          · have n2 : (!odd r.length) = false := n2
            refine Sat.go (Eq.refl _) (NS.no (by rw [n1]; rfl) ?_)
            rw [emit_same1 inv.par n1 n2] at i2
            have hpar : fM (odd p) (!odd q) = odd (r).length := by rw [i2.par]; simp only [odd_s]
            refine Sat.go (Eq.refl _) (NS.next ⟨(p, (q + 1), r), i2⟩ (by simp only; omega) ?_)
            exact weak_hd [] rfl ⟨rfl, rfl, rfl, trivial⟩ ⟨⟨_, rfl, _, _, rfl, rfl, rfl⟩, ⟨_, rfl, _, _, rfl, ren_bool rfl hpar, rfl⟩, ren_row rfl rfl fun _ _ _ _ => rfl, ⟨_, rfl, _, _, rfl, rfl, _, _, rfl, ren_int rfl rfl, _, _, rfl, ren_bool rfl rfl, rfl⟩, ⟨_, rfl, _, _, rfl, rfl, _, _, rfl, ren_int rfl (half_even hy), _, _, rfl, ren_bool rfl (not_odd q), rfl⟩, trivial⟩ (by repeat' (first | exact trivial | refine ⟨.inr rfl, ?_⟩ | refine ⟨.inl rfl, ?_⟩)) (by kernel_rfl)
        · refine Sat.go (Eq.refl _) (NS.yes (by rw [n1]; rfl) ?_)
          refine Sat.go (Eq.refl _) (NS.ite (fun n2 => ?_) (fun n2 => ?_))
          · have n2 : odd r.length = true := n2
            rw [emit_set inv.par n1 n2] at i2
            have hpar : fM (odd p) (!odd q) = odd (r ++ [((flatS b).getD q default)]).length := by rw [i2.par]; simp only [odd_s]
            obtain ⟨hod, hlen⟩ := pair_odd r ((flatS b).getD q default) n2
            have e1 : IntKind.i64.wrap (((pairS r).length : Int) - 1) = (((pairS r).length - 1 : Nat) : Int) := by have := inv.len; have := pair_len r; rw [wrap_i64 (by omega) (by omega)]; omega
            refine Sat.go (Eq.refl _) (NS.need (by rw [e1]; simp; omega) ?_)
            rw [e1]
            refine Sat.go (Eq.refl _) (NS.need (by simp; omega) ?_)
            refine Sat.go (Eq.refl _) (NS.next ⟨(p, (q + 1), r ++ [((flatS b).getD q default)]), i2⟩ (by simp only; omega) ?_)
            refine weak_hd [] rfl ⟨rfl, rfl, rfl, trivial⟩ ⟨⟨_, rfl, _, _, rfl, rfl, rfl⟩, ⟨_, rfl, _, _, rfl, ren_bool rfl hpar, rfl⟩, ren_row rfl (by show (pairS r).length = (pairS (r ++ [((flatS b).getD q default)])).length; rw [hod]; simp) fun i hi j hj => ?_, ⟨_, rfl, _, _, rfl, rfl, _, _, rfl, ren_int rfl rfl, _, _, rfl, ren_bool rfl rfl, rfl⟩, ⟨_, rfl, _, _, rfl, rfl, _, _, rfl, ren_int rfl (half_even hy), _, _, rfl, ren_bool rfl (not_odd q), rfl⟩, trivial⟩ (by repeat' (first | exact trivial | refine ⟨.inr rfl, ?_⟩ | refine ⟨.inl rfl, ?_⟩)) (by kernel_rfl)
            show _ = rowL Spn.cells (pairS (r ++ [((flatS b).getD q default)])) i j
            rw [hod]
            exact row_hi (pairS r) (by omega) rfl i j hj
          · have n2 : odd r.length = false := n2
            rw [emit_same0 inv.par n1 n2] at i2
            have hpar : fM (odd p) (!odd q) = odd (r).length := by rw [i2.par]; simp only [odd_s]
            refine Sat.go (Eq.refl _) (NS.next ⟨(p, (q + 1), r), i2⟩ (by simp only; omega) ?_)
            exact weak_hd [] rfl ⟨rfl, rfl, rfl, trivial⟩ ⟨⟨_, rfl, _, _, rfl, rfl, rfl⟩, ⟨_, rfl, _, _, rfl, ren_bool rfl hpar, rfl⟩, ren_row rfl rfl fun _ _ _ _ => rfl, ⟨_, rfl, _, _, rfl, rfl, _, _, rfl, ren_int rfl rfl, _, _, rfl, ren_bool rfl rfl, rfl⟩, ⟨_, rfl, _, _, rfl, rfl, _, _, rfl, ren_int rfl (half_even hy), _, _, rfl, ren_bool rfl (not_odd q), rfl⟩, trivial⟩ (by repeat' (first | exact trivial | refine ⟨.inr rfl, ?_⟩ | refine ⟨.inl rfl, ?_⟩)) (by kernel_rfl)
    · refine Sat.go (Eq.refl _) (NS.call (next_f hq h3 (by omega)) rfl ?_)
      have hf := inv.fin h2 h3
      rw [← hf] at hm
      refine Sat.go (Eq.refl _) (NS.yes rfl ?_)
      refine Sat.go (Eq.refl _) (NS.yes rfl ?_)
      refine Sat.go (Eq.refl _) (NS.leave rfl (Eq.refl _) ?_)
      refine Sat.go (Eq.refl _) (NS.ite (fun h6 => ?_) (fun h6 => ?_))
      · have h6 : ((pairS r).length : Int) > 1000 := of_decide_eq_true h6
        rw [if_pos (by omega)] at hm
        exact Sat.go (Eq.refl _) (NS.ret rfl rfl (nrm_le (l := []) hm (LeA.nil' rfl)))
      · have h6 : ¬ ((pairS r).length : Int) > 1000 := of_decide_eq_false h6
        rw [if_neg (by omega)] at hm
        exact Sat.go (Eq.refl _) (NS.ret rfl rfl (nrm_le hm (LeA.refl _)))
end Go.Proofs.Ytfbjgggminmhbaa
