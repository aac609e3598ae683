/- The walks of the reference's intersection and difference. -/
import Derived.Test.YtfbjgggminmhbaaII
set_option linter.unusedSimpArgs false
set_option linter.unusedSectionVars false
set_option linter.unusedVariables false
namespace Go.Mb
theorem int1_len (x y : Spn) : (int1 x y).length ≤ 1 := by unfold int1; split <;> simp
theorem intR_snoc (x : Spn) {b : List Spn} {k : Nat} (h : k < b.length) : intR x (b.take (k + 1)) = intR x (b.take k) ++ int1 x (b.getD k default) := by
  unfold intR; rw [take_snoc h, List.flatMap_append]; simp
theorem intR_len (x : Spn) : ∀ b : List Spn, (intR x b).length ≤ b.length
  | [] => by simp [intR]
  | y :: b => by
    have h1 := int1_len x y
    have h2 := intR_len x b
    have e : intR x (y :: b) = int1 x y ++ intR x b := rfl
    rw [e, List.length_append, List.length_cons]; omega
theorem bothL_snoc {a b : List Spn} {k : Nat} (h : k < a.length) : bothL (a.take (k + 1)) b = bothL (a.take k) b ++ intR (a.getD k default) b := by
  unfold bothL; rw [take_snoc h, List.flatMap_append]; simp
theorem bothL_len (b : List Spn) : ∀ a : List Spn, (bothL a b).length ≤ a.length * b.length
  | [] => by simp [bothL]
  | x :: a => by
    have h1 := intR_len x b
    have h2 := bothL_len b a
    have e : bothL (x :: a) b = intR x b ++ bothL a b := rfl
    rw [e, List.length_append, List.length_cons, Nat.succ_mul]; omega
theorem outL_end {l : List Spn} {k : Nat} {f : Int} (h : l.length ≤ k) : outL f (l.drop k) = if f < 1152921504606846976 then [⟨f, 1152921504606846976⟩] else [] := by
  rw [drop_end h]; rfl
theorem outL_step {l : List Spn} {k : Nat} {f : Int} (h : k < l.length) : outL f (l.drop k) = (if f < (l.getD k default).lo then [⟨f, (l.getD k default).lo⟩] else []) ++ outL (l.getD k default).hi (l.drop (k + 1)) := by
  rw [drop_cons h]; rfl
end Go.Mb
namespace Go.Proofs.Ytfbjgggminmhbaa
open Go.Sy Go.Mb
set_option maxRecDepth 100000
set_option linter.unusedVariables false
set_option maxHeartbeats 1000000

theorem rBoth_ok (a b : List Spn) (ha : a.length ≤ 1001) (hb : b.length ≤ 1001) : FnOK Try.prog 44 [slS a, slS b] (.own 0, some (.row 24 2 (bothL a b).length (rowL Spn.cells (bothL a b)))) := by
  refine fn_ok CN rfl (by kernel_rfl) Try.func44 rfl ?_
  refine Sat.go (Eq.refl _) ?_
  refine NS.loop (σ := { i : Nat // i ≤ a.length }) (fun i => [(0, slS a), (1, slS b), (5, .own 9), (6, .int .i64 i.1)]) (fun i => [(9, .row 24 2 (bothL (a.take i.1) b).length (rowL Spn.cells (bothL (a.take i.1) b)))]) (fun i => a.length - i.1) ⟨0, Nat.zero_le _⟩ ?_ ?_
  · exact weak_hd [] rfl ⟨rfl, rfl, rfl, rfl, trivial⟩ ⟨ren_row rfl rfl (fun i hi => absurd hi (Nat.not_lt_zero _)), trivial⟩ trivial (by kernel_rfl)
  rintro ⟨i, hi⟩
  have hlen1 : (bothL (a.take i) b).length ≤ 1002001 := by
    have h1 := bothL_len b (a.take i)
    have h2 : (a.take i).length ≤ 1001 := by simp; omega
    exact Nat.le_trans h1 (Nat.mul_le_mul h2 hb)
  refine Sat.go (Eq.refl _) (NS.ite (fun h => ?_) (fun h => ?_))
  · have h : i < a.length := by simpa using h
    have hsn := bothL_snoc (a := a) (b := b) h
    generalize bothL (a.take i) b = X at hsn hlen1
    refine Sat.go (Eq.refl _) ?_
    refine NS.loop (σ := { k : Nat // k ≤ b.length }) (fun k => [(0, slS a), (1, slS b), (5, .own 9), (6, .int .i64 i), (7, .int .i64 k.1)]) (fun k => [(9, .row 24 2 (X ++ intR (a.getD i default) (b.take k.1)).length (rowL Spn.cells (X ++ intR (a.getD i default) (b.take k.1))))]) (fun k => b.length - k.1) ⟨0, Nat.zero_le _⟩ ?_ ?_
    · refine weak_hd [] rfl ⟨rfl, rfl, rfl, rfl, rfl, trivial⟩ ⟨ren_row rfl (by simp [intR]) fun q hq j hj => ?_, trivial⟩ trivial (by kernel_rfl)
      show rowL Spn.cells X q j = rowL Spn.cells (X ++ intR (a.getD i default) (b.take 0)) q j
      simp [intR]
    rintro ⟨k, hk⟩
    have hlen2 := intR_len (a.getD i default) (b.take k)
    rw [List.length_take] at hlen2
    refine Sat.go (Eq.refl _) (NS.ite (fun h2 => ?_) (fun h2 => ?_))
    · have h2 : k < b.length := by simpa using h2
      have hs2 := intR_snoc (a.getD i default) h2
      have e1 : (if (b.getD k default).lo > (a.getD i default).lo then (b.getD k default).lo else (a.getD i default).lo) = max (a.getD i default).lo (b.getD k default).lo := max_a _ _
      have e2 : (if (b.getD k default).hi < (a.getD i default).hi then (b.getD k default).hi else (a.getD i default).hi) = min (a.getD i default).hi (b.getD k default).hi := min_a _ _
      refine Sat.go (Eq.refl _) (NS.chk (by kernel_rfl) ?_)
      refine Sat.go (Eq.refl _) (NS.need (by simp; omega) ?_)
      refine Sat.go (Eq.refl _) (NS.need (by simp; omega) ?_)
      refine Sat.go (Eq.refl _) (NS.need (by simp; omega) ?_)
      refine Sat.go (Eq.refl _) (NS.need (by simp; omega) ?_)
      refine Sat.go (Eq.refl _) (NS.ite (fun h3 => ?_) (fun h3 => ?_))
      · have h3 : (if (b.getD k default).lo > (a.getD i default).lo then (b.getD k default).lo else (a.getD i default).lo) < (if (b.getD k default).hi < (a.getD i default).hi then (b.getD k default).hi else (a.getD i default).hi) := of_decide_eq_true h3
        rw [e1, e2] at h3
        have hx : int1 (a.getD i default) (b.getD k default) = [⟨max (a.getD i default).lo (b.getD k default).lo, min (a.getD i default).hi (b.getD k default).hi⟩] := by unfold int1; rw [if_pos h3]
        rw [hx] at hs2
        refine Sat.go (Eq.refl _) (NS.need (decide_eq_true (by show ((X ++ intR (a.getD i default) (b.take k)).length + 1) * _ ≤ _; simp only [maxRow]; rw [List.length_append]; omega)) ?_)
        refine Sat.go (Eq.refl _) (NS.next ⟨k + 1, by omega⟩ (by simp; omega) ?_)
        refine weak_hd [(9, 53)] rfl ⟨rfl, rfl, rfl, rfl, ren_int rfl (i64_k (k := k) (n := b.length) (by omega) (by omega)), trivial⟩ ⟨ren_row rfl ?_ fun q hq j hj => ?_, trivial⟩ trivial (by kernel_rfl)
        · show (X ++ intR (a.getD i default) (b.take k)).length + 1 = (X ++ intR (a.getD i default) (b.take (k + 1))).length
          rw [hs2]; simp; omega
        · have hq : q < (X ++ intR (a.getD i default) (b.take (k + 1))).length := hq
          show _ = rowL Spn.cells (X ++ intR (a.getD i default) (b.take (k + 1))) q j
          rw [hs2, ← List.append_assoc] at hq ⊢
          refine row_snoc (cells := Spn.cells) (l := X ++ intR (a.getD i default) (b.take k)) (x := ⟨max (a.getD i default).lo (b.getD k default).lo, min (a.getD i default).hi (b.getD k default).hi⟩) (cs := [.int .i64 (if (b.getD k default).lo > (a.getD i default).lo then (b.getD k default).lo else (a.getD i default).lo), .int .i64 (if (b.getD k default).hi < (a.getD i default).hi then (b.getD k default).hi else (a.getD i default).hi)]) (by rw [e1, e2]; rfl) q (by rw [List.length_append, List.length_singleton] at hq; exact hq) j hj
      · have h3 : ¬ (if (b.getD k default).lo > (a.getD i default).lo then (b.getD k default).lo else (a.getD i default).lo) < (if (b.getD k default).hi < (a.getD i default).hi then (b.getD k default).hi else (a.getD i default).hi) := of_decide_eq_false h3
        rw [e1, e2] at h3
        have hx : int1 (a.getD i default) (b.getD k default) = [] := by unfold int1; rw [if_neg h3]
        rw [hx, List.append_nil] at hs2
        refine Sat.go (Eq.refl _) (NS.next ⟨k + 1, by omega⟩ (by simp; omega) ?_)
        refine weak_hd [] rfl ⟨rfl, rfl, rfl, rfl, ren_int rfl (i64_k (k := k) (n := b.length) (by omega) (by omega)), trivial⟩ ⟨ren_row rfl ?_ fun q hq j hj => ?_, trivial⟩ trivial (by kernel_rfl)
        · show (X ++ intR (a.getD i default) (b.take k)).length = (X ++ intR (a.getD i default) (b.take (k + 1))).length
          rw [hs2]
        · show rowL Spn.cells (X ++ intR (a.getD i default) (b.take k)) q j = rowL Spn.cells (X ++ intR (a.getD i default) (b.take (k + 1))) q j
          rw [hs2]
    · have h2 : b.length ≤ k := by simpa using h2
      refine Sat.go (Eq.refl _) (NS.leave rfl (Eq.refl _) ?_)
      refine Sat.go (Eq.refl _) (NS.next ⟨i + 1, by omega⟩ (by simp; omega) ?_)
      refine weak_hd [] rfl ⟨rfl, rfl, rfl, ren_int rfl (i64_k (k := i) (n := a.length) (by omega) (by omega)), trivial⟩ ⟨ren_row rfl ?_ fun q hq j hj => ?_, trivial⟩ trivial (by kernel_rfl)
      · show (X ++ intR (a.getD i default) (b.take k)).length = (bothL (a.take (i + 1)) b).length
        rw [hsn, take_all h2]
      · show rowL Spn.cells (X ++ intR (a.getD i default) (b.take k)) q j = rowL Spn.cells (bothL (a.take (i + 1)) b) q j
        rw [hsn, take_all h2]
  · have h : a.length ≤ i := by simpa using h
    refine Sat.go (Eq.refl _) (NS.leave rfl (Eq.refl _) ?_)
    refine Sat.go (Eq.refl _) (NS.retRow 9 rfl rfl (LeA.refl _) ⟨rfl, rfl, ?_, fun q hq j hj => ?_⟩ fun _ _ _ _ => flatSp _ _ _)
    · rw [take_all h]
    · rw [take_all h]
theorem rOutside_ok (l : List Spn) (hl : l.length ≤ 1000) : FnOK Try.prog 46 [slS l] (.own 0, some (.row 24 2 (outL (-1152921504606846976) l).length (rowL Spn.cells (outL (-1152921504606846976) l)))) := by
  refine fn_ok CN rfl (by kernel_rfl) Try.func46 rfl ?_
  generalize hr : outL (-1152921504606846976) l = r
  refine Sat.go (Eq.refl _) ?_
  refine NS.loop (σ := { p : Nat × Int × List Spn // p.1 ≤ l.length ∧ p.2.2.length ≤ p.1 ∧ r = p.2.2 ++ outL p.2.1 (l.drop p.1) }) (fun p => [(0, slS l), (3, .own 6), (4, .int .i64 p.1.2.1), (5, .int .i64 p.1.1)]) (fun p => [(6, .row 24 2 p.1.2.2.length (rowL Spn.cells p.1.2.2))]) (fun p => l.length - p.1.1) ⟨(0, -1152921504606846976, []), Nat.zero_le _, Nat.le_refl _, hr.symm⟩ ?_ ?_
  · exact weak_hd [] rfl ⟨rfl, rfl, rfl, rfl, trivial⟩ ⟨ren_row rfl rfl (fun i hi => absurd hi (Nat.not_lt_zero _)), trivial⟩ trivial (by kernel_rfl)
  rintro ⟨⟨k, f, X⟩, hk, hX, hn⟩
  simp only at hk hX hn
  refine Sat.go (Eq.refl _) (NS.ite (fun h => ?_) (fun h => ?_))
  · have h : k < l.length := by simpa using h
    rw [outL_step h] at hn
    refine Sat.go (Eq.refl _) (NS.need (by simp; omega) ?_)
    refine Sat.go (Eq.refl _) (NS.ite (fun h2 => ?_) (fun h2 => ?_))
    · have h2 : f < (l.getD k default).lo := of_decide_eq_true h2
      rw [if_pos h2] at hn
      refine Sat.go (Eq.refl _) (NS.need (by simp; omega) ?_)
      refine Sat.go (Eq.refl _) (NS.need (decide_eq_true (by simp only [maxRow]; omega)) ?_)
      refine Sat.go (Eq.refl _) (NS.need (by simp; omega) ?_)
      refine Sat.go (Eq.refl _) (NS.next ⟨(k + 1, (l.getD k default).hi, X ++ [⟨f, (l.getD k default).lo⟩]), by simp only; omega, by simp; omega, by simpa using hn⟩ (by simp only; omega) ?_)
      exact weak_hd [(6, 29)] rfl ⟨rfl, rfl, rfl, ren_int rfl (i64_k (k := k) (n := l.length) (by omega) (by omega)), trivial⟩ ⟨ren_row rfl (by simp) fun q hq j hj => row_snoc (cells := Spn.cells) (l := X) (x := ⟨f, (l.getD k default).lo⟩) rfl q (by simpa using hq) j hj, trivial⟩ trivial (by kernel_rfl)
    · have h2 : ¬ f < (l.getD k default).lo := of_decide_eq_false h2
      rw [if_neg h2, List.nil_append] at hn
      refine Sat.go (Eq.refl _) (NS.need (by simp; omega) ?_)
      refine Sat.go (Eq.refl _) (NS.next ⟨(k + 1, (l.getD k default).hi, X), by simp only; omega, by simp only; omega, hn⟩ (by simp only; omega) ?_)
      exact weak_hd [] rfl ⟨rfl, rfl, rfl, ren_int rfl (i64_k (k := k) (n := l.length) (by omega) (by omega)), trivial⟩ ⟨ren_row rfl rfl fun _ _ _ _ => rfl, trivial⟩ trivial (by kernel_rfl)
  · have h : l.length ≤ k := by simpa using h
    rw [outL_end h] at hn
    refine Sat.go (Eq.refl _) (NS.leave rfl (Eq.refl _) ?_)
    refine Sat.go (Eq.refl _) (NS.ite (fun h2 => ?_) (fun h2 => ?_))
    · have h2 : f < 1152921504606846976 := of_decide_eq_true h2
      rw [if_pos h2] at hn
      refine Sat.go (Eq.refl _) (NS.need (decide_eq_true (by simp only [maxRow]; omega)) ?_)
      refine Sat.go (Eq.refl _) (NS.retRow 41 rfl rfl (LeA.refl _) ⟨rfl, rfl, ?_, fun q hq j hj => ?_⟩ fun _ _ _ _ => flatSp _ _ _)
      · show X.length + 1 = r.length
        rw [hn]; simp
      · refine Eq.trans ?_ (congrArg (fun z => rowL Spn.cells z q j) hn.symm)
        exact row_snoc (cells := Spn.cells) (l := X) (x := ⟨f, 1152921504606846976⟩) rfl q hq j hj
    · have h2 : ¬ f < 1152921504606846976 := of_decide_eq_false h2
      rw [if_neg h2, List.append_nil] at hn
      refine Sat.go (Eq.refl _) (NS.retRow 6 rfl rfl (LeA.refl _) ⟨rfl, rfl, ?_, fun q hq j hj => ?_⟩ fun _ _ _ _ => flatSp _ _ _)
      · show X.length = r.length
        rw [hn]
      · exact congrArg (fun z => rowL Spn.cells z q j) hn.symm
theorem rIntersect_ok (a b : List Spn) : FnOK Try.prog 20 [slS a, slS b] (.tup [slS (refM (bothL a b) a b).1, .int .i64 (refM (bothL a b) a b).2], none) := by
  refine fn_ok (CG [9]) rfl (by kernel_rfl) Try.func20 rfl ?_
  refine Sat.go (Eq.refl _) (NS.call (rBad_ok a b) rfl ?_)
  refine Sat.go (Eq.refl _) (NS.ite (fun h0 => ?_) (fun h0 => ?_))
  · refine Sat.go (Eq.refl _) (NS.ret rfl rfl (nrm_le (l := []) ?_ nil_le))
    unfold refM; rw [if_pos h0]
  have hm : refM (bothL a b) a b = limM (bothL a b) := by unfold refM; rw [if_neg (by rw [h0]; simp)]
  obtain ⟨ha, hb⟩ := or_split h0
  obtain ⟨la, sa⟩ := (chkS_zero a).1 (chk_z ha)
  obtain ⟨lb, sb⟩ := (chkS_zero b).1 (chk_z hb)
  rw [hm]
  refine Sat.go (Eq.refl _) (NS.call (rBoth_ok a b (by omega) (by omega)).frz rfl ?_)
  refine Sat.go (Eq.refl _) (NS.call (rLimited_ok (bothL a b)) rfl ?_)
  exact Sat.go (Eq.refl _) (NS.ret rfl rfl (LeA.refl _))
theorem rMinus_ok (a b : List Spn) : FnOK Try.prog 22 [slS a, slS b] (.tup [slS (refM (bothL a (outL (-1152921504606846976) b)) a b).1, .int .i64 (refM (bothL a (outL (-1152921504606846976) b)) a b).2], none) := by
  refine fn_ok (CG [9]) rfl (by kernel_rfl) Try.func22 rfl ?_
  refine Sat.go (Eq.refl _) (NS.call (rBad_ok a b) rfl ?_)
  refine Sat.go (Eq.refl _) (NS.ite (fun h0 => ?_) (fun h0 => ?_))
  · refine Sat.go (Eq.refl _) (NS.ret rfl rfl (nrm_le (l := []) ?_ nil_le))
    unfold refM; rw [if_pos h0]
  have hm : refM (bothL a (outL (-1152921504606846976) b)) a b = limM (bothL a (outL (-1152921504606846976) b)) := by unfold refM; rw [if_neg (by rw [h0]; simp)]
  obtain ⟨ha, hb⟩ := or_split h0
  obtain ⟨la, sa⟩ := (chkS_zero a).1 (chk_z ha)
  obtain ⟨lb, sb⟩ := (chkS_zero b).1 (chk_z hb)
  have lo := (out_spec b (-1152921504606846976) sb (by omega) (by omega) (fun z hz => (sb.2 z hz).1)).2.2.2
  rw [hm]
  refine Sat.go (Eq.refl _) (NS.call (rOutside_ok b (by omega)).frz rfl ?_)
  refine Sat.go (Eq.refl _) (NS.call (rBoth_ok a (outL (-1152921504606846976) b) (by omega) (by omega)).frz rfl ?_)
  refine Sat.go (Eq.refl _) (NS.call (rLimited_ok (bothL a (outL (-1152921504606846976) b))) rfl ?_)
  exact Sat.go (Eq.refl _) (NS.ret rfl rfl (LeA.refl _))
end Go.Proofs.Ytfbjgggminmhbaa
