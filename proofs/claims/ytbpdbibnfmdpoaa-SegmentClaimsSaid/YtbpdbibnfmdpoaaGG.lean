/- The contracts of decoding segments. -/
import Derived.Test.YtbpdbibnfmdpoaaGF
import Derived.Test.YtbpdbibnfmdpoaaSyE
set_option linter.unusedSimpArgs false
set_option linter.unusedSectionVars false
set_option linter.unusedVariables false
namespace Go.Mb
open Go.Sy
def okP (t : List Nat) : Bool := (p6 t).2.2 == 0 && ((pT t).2.2 == 0 && (inR (n6 t 5) 0 1 && ((pL t).2.2 == 0 && ((p6 t).2.1 + (pT t).2.1 + (pL t).2.1 == t.length && (pL t).1.length % 2 == 0))))
def decP (t : List Nat) : Seg := if okP t then segR t else zeroG
theorem okT_P (t : List Nat) : okT t = (okP t && chkG (segR t) == 0) := by unfold okT okP; simp only [Bool.and_assoc]
theorem okP_iff {t : List Nat} : okP t = true ↔ (p6 t).2.2 = 0 ∧ (pT t).2.2 = 0 ∧ inR (n6 t 5) 0 1 = true ∧ (pL t).2.2 = 0 ∧ (p6 t).2.1 + (pT t).2.1 + (pL t).2.1 = t.length ∧ (pL t).1.length % 2 = 0 := by
  unfold okP
  simp only [Bool.and_eq_true, beq_iff_eq]
theorem rdLA_err {m : Nat} {l : List Nat} {k : Nat} {acc : List Int} {e : Int} (h : (rdI (l.drop k)).2.2 = e) (he : (e != 0) = true) : rdLA (m + 1) l k acc = ([], 0, e) := by
  unfold rdLA; rw [h, if_pos he]
theorem rdLA_go {m : Nat} {l : List Nat} {k b : Nat} {acc : List Int} {n : Int} (h : rdI (l.drop k) = (n, b, 0)) : rdLA (m + 1) l k acc = rdLA m l (k + b) (acc ++ [n]) := by
  conv => lhs; unfold rdLA
  rw [h]; rfl
theorem okP_f1 {t : List Nat} (h : ((p6 t).2.2 != 0) = true) : okP t = false := by
  rw [← Bool.not_eq_true, okP_iff]; intro hh; rw [hh.1] at h; cases h
theorem okP_f2 {t : List Nat} (h : ((pT t).2.2 != 0) = true) : okP t = false := by
  rw [← Bool.not_eq_true, okP_iff]; intro hh; rw [hh.2.1] at h; cases h
theorem okP_f3 {t : List Nat} (h : inR (n6 t 5) 0 1 = false) : okP t = false := by
  rw [← Bool.not_eq_true, okP_iff]; intro hh; rw [hh.2.2.1] at h; cases h
theorem okP_f4 {t : List Nat} (h : ((pL t).2.2 != 0) = true) : okP t = false := by
  rw [← Bool.not_eq_true, okP_iff]; intro hh; rw [hh.2.2.2.1] at h; cases h
theorem okP_f5 {t : List Nat} (h : (p6 t).2.1 + (pT t).2.1 + (pL t).2.1 ≠ t.length) : okP t = false := by
  rw [← Bool.not_eq_true, okP_iff]; intro hh; exact h hh.2.2.2.2.1
theorem okP_f6 {t : List Nat} (h : (pL t).1.length % 2 ≠ 0) : okP t = false := by
  rw [← Bool.not_eq_true, okP_iff]; intro hh; exact h hh.2.2.2.2.2
theorem pair_get : ∀ (r : List Int) (j : Nat), 2 * j + 1 < r.length → (pairS r).getD j default = ⟨r.getD (2 * j) default, r.getD (2 * j + 1) default⟩
  | [], j, h => by simp at h
  | [x], j, h => by simp at h
  | x :: y :: l, 0, h => rfl
  | x :: y :: l, j + 1, h => by
    have := pair_get l j (by simp at h; omega)
    rw [show 2 * (j + 1) + 1 = (2 * j + 1) + 2 by omega, show 2 * (j + 1) = 2 * j + 2 by omega]
    simpa [pairS] using this
theorem app6 {l : List Int} {i j : Nat} {n : Int} (hl : l.length = i) : (if j = i then n else l.getD j default) = (l ++ [n]).getD j default := by
  by_cases h : j = i
  · subst h; rw [if_pos rfl]; subst hl; simp
  · rw [if_neg h]
    by_cases hj : j < l.length
    · rw [getD_append_left hj]
    · simp only [List.getD]
      rw [List.getElem?_eq_none (by omega), List.getElem?_eq_none (by simp; omega)]
def cells6 (l : List Int) : List A := [.int .i64 (l.getD 0 default), .int .i64 (l.getD 1 default), .int .i64 (l.getD 2 default), .int .i64 (l.getD 3 default), .int .i64 (l.getD 4 default), .int .i64 (l.getD 5 default)]
end Go.Mb
namespace Go.Proofs.Ytbpdbibnfmdpoaa
open Go.Sy Go.Mb
set_option maxRecDepth 100000
set_option linter.unusedVariables false
set_option maxHeartbeats 4000000

theorem zero_le_seg : LeA (.agg [.int .i64 0, .int .i64 0, .int .i64 0, .int .i64 0, .int .i64 0, .bool false, .str .empty, .nils]) (.agg zeroG.cells) :=
  LeA.agg (.cons (.refl _) (.cons (.refl _) (.cons (.refl _) (.cons (.refl _) (.cons (.refl _) (.cons (.refl _) (.cons (.refl _) (.cons (LeA.nil' rfl) .nil))))))))
theorem fail_le {T : List Nat} (h : okP T = false) : LeA (.tup [.agg [.int .i64 0, .int .i64 0, .int .i64 0, .int .i64 0, .int .i64 0, .bool false, .str .empty, .nils], .bool false]) (.tup [.agg (decP T).cells, .bool (okT T)]) := by
  rw [okT_P, show decP T = zeroG by unfold decP; rw [h]; rfl, h]
  exact LeA.tup2 zero_le_seg (LeA.refl _)
theorem dropS (s : ByteArray) (k : Nat) (h : k ≤ s.size) : ls (s.extract (Int.toNat ((k : Nat) : Int)) (Int.toNat ((s.size : Nat) : Int))) = (ls s).drop k := by
  rw [ls_extract]; show ((ls s).take s.size).drop k = _
  rw [take_all (by rw [ls_len]; exact Nat.le_refl _)]
theorem segDecode_ok (T : List Nat) (hT : ∀ x ∈ T, x < 256) (hl : T.length ≤ 100000) : FnOK Try.prog 43 [.str (bs T)] (.tup [.agg (decP T).cells, .bool (okT T)], none) := by
  refine fn_ok CN rfl (by kernel_rfl) Try.func43 rfl ?_
  refine Sat.go (Eq.refl _) ?_
  refine NS.loop (σ := { x : Nat × Nat × List Int // x.1 ≤ 6 ∧ x.2.2.length = x.1 ∧ x.2.1 ≤ T.length ∧ rdLA (6 - x.1) T x.2.1 x.2.2 = rdLA 6 T 0 [] }) (fun x => [(0, .str (bs (T.drop x.1.2.1))), (2, .ptr 2 0), (4, .ptr 4 0), (16, .int .i64 x.1.1)]) (fun x => [(2, .box [.int .i64 0, .int .i64 0, .int .i64 0, .int .i64 0, .int .i64 0, .bool false, .str .empty, .nils]), (4, .box (cells6 x.1.2.2))]) (fun x => 6 - x.1.1) ⟨(0, 0, []), by simp⟩ ?_ ?_
  · exact weak_hd [] rfl ⟨rfl, rfl, rfl, rfl, trivial⟩ ⟨⟨_, rfl, ⟨_, _, rfl, rfl, _, _, rfl, rfl, _, _, rfl, rfl, _, _, rfl, rfl, _, _, rfl, rfl, _, _, rfl, .inl rfl, _, _, rfl, rfl, _, _, rfl, rfl, rfl⟩⟩, ⟨_, rfl, ⟨_, _, rfl, rfl, _, _, rfl, rfl, _, _, rfl, rfl, _, _, rfl, rfl, _, _, rfl, rfl, _, _, rfl, rfl, rfl⟩⟩, trivial⟩ trivial (by kernel_rfl)
  rintro ⟨⟨i, k, acc⟩, h6, ha, hk, he⟩
  have ha : acc.length = i := ha
  have hk : k ≤ T.length := hk
  have hTk : ∀ x ∈ T.drop k, x < 256 := mem_drop_lt hT k
  refine Sat.go (Eq.refl _) (NS.ite (fun h => ?_) (fun h => ?_))
  · have h : i < 6 := by have h : (i : Int) < 6 := of_decide_eq_true h
                         omega
    have he : rdLA (6 - (i + 1) + 1) T k acc = rdLA 6 T 0 [] := by rw [← he, show 6 - (i + 1) + 1 = 6 - i by omega]
    have c := readInt_ok (bs (T.drop k)) (by rw [bs_len, List.length_drop]; omega)
    rw [ls_bs hTk] at c
    refine Sat.go (Eq.refl _) (NS.call (c) rfl ?_)
    refine Sat.go (Eq.refl _) (NS.ite (fun c1 => ?_) (fun c1 => ?_))
    · have c1 : ((rdI (T.drop k)).2.2 != 0) = true := c1
      rw [rdLA_err rfl c1] at he
      have e6 : p6 T = ([], 0, (rdI (T.drop k)).2.2) := he.symm
      exact Sat.go (Eq.refl _) (NS.leaveOut rfl (Eq.refl _) (NS.ret rfl rfl (fail_le (okP_f1 (by rw [e6]; exact c1)))))
    have c1 : (rdI (T.drop k)).2.2 = 0 := by simpa using c1
    have hr : rdI (T.drop k) = ((rdI (T.drop k)).1, (rdI (T.drop k)).2.1, 0) := by rw [← c1]
    have q1 := (rdI_ok hTk hr).2.2.1
    rw [List.length_drop] at q1
    rw [rdLA_go hr] at he
    generalize (rdI (T.drop k)).1 = n at *
    generalize (rdI (T.drop k)).2.1 = b at *
    have hz : ((bs (T.drop k)).size : Int) = ((T.length - k : Nat) : Int) := by rw [bs_len, List.length_drop]
    refine Sat.go (Eq.refl _) (NS.chk (by kernel_rfl) ?_)
    refine Sat.go (Eq.refl _) (NS.need (by exact decide_eq_true (by rw [hz]; exact ⟨Int.natCast_nonneg _, by omega, Int.le_refl _⟩)) ?_)
    refine Sat.go (Eq.refl _) (NS.need (by simp; omega) ?_)
    refine Sat.go (Eq.refl _) (NS.need (by simp; omega) ?_)
    have e0 : (bs (T.drop k)).extract (Int.toNat ((b : Nat) : Int)) (Int.toNat (((bs (T.drop k)).size : Nat) : Int)) = bs (T.drop (k + b)) := by
      rw [← bs_ls ((bs (T.drop k)).extract _ _), dropS _ b (by rw [bs_len, List.length_drop]; omega), ls_bs hTk, List.drop_drop]
    refine Sat.go (Eq.refl _) (NS.next ⟨(i + 1, k + b, acc ++ [n]), by refine ⟨?_, ?_, ?_, he⟩ <;> simp <;> omega⟩ (by simp; omega) ?_)
    exact weak_hd [] rfl ⟨ren_str rfl e0, rfl, rfl, ren_int rfl (i64_k (k := i) (n := 6) h (by omega)), trivial⟩ ⟨⟨_, rfl, ⟨_, _, rfl, rfl, _, _, rfl, rfl, _, _, rfl, rfl, _, _, rfl, rfl, _, _, rfl, rfl, _, _, rfl, .inl rfl, _, _, rfl, rfl, _, _, rfl, rfl, rfl⟩⟩, ⟨_, rfl, ⟨_, _, rfl, ren_int rfl (app6 ha), _, _, rfl, ren_int rfl (app6 ha), _, _, rfl, ren_int rfl (app6 ha), _, _, rfl, ren_int rfl (app6 ha), _, _, rfl, ren_int rfl (app6 ha), _, _, rfl, ren_int rfl (app6 ha), rfl⟩⟩, trivial⟩ trivial (by kernel_rfl)
  have h : i = 6 := by have h : ¬ (i : Int) < 6 := of_decide_eq_false h
                       have : i ≤ 6 := h6
                       omega
  subst h
  have e6 : p6 T = (acc, k, 0) := by unfold p6; rw [← he]; rfl
  refine Sat.go (Eq.refl _) (NS.leave rfl (Eq.refl _) ?_)
  have c := readText_ok (bs (T.drop k)) (by rw [bs_len, List.length_drop]; omega)
  rw [ls_bs hTk] at c
  have eT : rdT (T.drop k) = pT T := by unfold pT; rw [e6]
  rw [eT] at c
  iterate 12 refine Sat.go (Eq.refl _) (NS.need rfl ?_)
  refine Sat.go (Eq.refl _) (NS.call (c) rfl ?_)
  refine Sat.go (Eq.refl _) (NS.ite (fun c2 => ?_) (fun c2 => ?_))
  · exact Sat.go (Eq.refl _) (NS.ret rfl rfl (fail_le (okP_f2 c2)))
  have c2 : (pT T).2.2 = 0 := by simpa using c2
  have rT : rdT (T.drop k) = ((pT T).1, (pT T).2.1, 0) := by rw [eT, ← c2]
  have qT := (rdT_back hTk rT).2.1
  rw [List.length_drop] at qT
  refine Sat.go (Eq.refl _) (NS.need (rfl) ?_)
  refine Sat.go (Eq.refl _) (NS.need (rfl) ?_)
  refine Sat.go (Eq.refl _) (NS.call (gWithin_ok (acc.getD 5 default) 0 1) rfl ?_)
  refine Sat.go (Eq.refl _) (NS.ite (fun c3 => ?_) (fun c3 => ?_))
  · exact Sat.go (Eq.refl _) (NS.ret rfl rfl (fail_le (okP_f3 (by unfold n6; rw [e6]; exact not_t c3))))
  have c3 := not_f c3
  have hz : ((bs (T.drop k)).size : Int) = ((T.length - k : Nat) : Int) := by rw [bs_len, List.length_drop]
  generalize hb1 : (pT T).2.1 = b1 at *
  have c := readList_ok ((bs (T.drop k)).extract (Int.toNat ((b1 : Nat) : Int)) (Int.toNat (((bs (T.drop k)).size : Nat) : Int))) (by have := ex_size (bs (T.drop k)) (Int.toNat ((b1 : Nat) : Int)) (Int.toNat (((bs (T.drop k)).size : Nat) : Int)); exact Nat.le_trans this (by rw [bs_len, List.length_drop]; omega))
  rw [dropS _ b1 (by rw [bs_len, List.length_drop]; omega), ls_bs hTk, List.drop_drop] at c
  have eL : rdL (T.drop (k + b1)) = pL T := by unfold pL; rw [e6, hb1]
  rw [eL] at c
  refine Sat.go (Eq.refl _) (NS.need (by exact decide_eq_true (by rw [hz]; exact ⟨Int.natCast_nonneg _, by omega, Int.le_refl _⟩)) ?_)
  refine Sat.go (Eq.refl _) (NS.call (c) rfl ?_)
  refine Sat.go (Eq.refl _) (NS.ite (fun c4 => ?_) (fun c4 => ?_))
  · exact Sat.go (Eq.refl _) (NS.ret rfl rfl (fail_le (okP_f4 c4)))
  have c4 : (pL T).2.2 = 0 := by simpa using c4
  have rL : rdL (T.drop (k + b1)) = ((pL T).1, (pL T).2.1, 0) := by rw [eL, ← c4]
  have qL := (rdL_ok (mem_drop_lt hT (k + b1)) rL).2.2.1
  have qn := (rdL_ok (mem_drop_lt hT (k + b1)) rL).2.1
  rw [List.length_drop] at qL
  generalize hb2 : (pL T).2.1 = b2 at *
  have eb3 : IntKind.i64.wrap ((b1 : Int) + (b2 : Int)) = ((b1 + b2 : Nat) : Int) := by rw [wrap_i64 (by omega) (by omega)]; omega
  refine Sat.go (Eq.refl _) (NS.ite (fun c5 => ?_) (fun c5 => ?_))
  · rw [eb3, hz] at c5
    have c5 : ((b1 + b2 : Nat) : Int) ≠ ((T.length - k : Nat) : Int) := by simpa using c5
    exact Sat.go (Eq.refl _) (NS.ret rfl rfl (fail_le (okP_f5 (by rw [e6, hb1, hb2]; simp only; omega))))
  rw [eb3, hz] at c5
  have c5 : ((b1 + b2 : Nat) : Int) = ((T.length - k : Nat) : Int) := by simpa using c5
  refine Sat.go (Eq.refl _) (NS.need (rfl) ?_)
  refine Sat.go (Eq.refl _) (NS.ite (fun c6 => ?_) (fun c6 => ?_))
  · have c6 : (((pL T).1.length : Nat) : Int).tmod 2 = 1 := eq_of_beq c6
    rw [tmod2] at c6
    exact Sat.go (Eq.refl _) (NS.ret rfl rfl (fail_le (okP_f6 (by omega))))
  have c6 : ¬ (((pL T).1.length : Nat) : Int).tmod 2 = 1 := ne_of_beq_false c6
  rw [tmod2] at c6
  have hP : okP T = true := okP_iff.2 ⟨by rw [e6], c2, by unfold n6; rw [e6]; exact c3, c4, by rw [e6, hb1, hb2]; simp only; omega, by omega⟩
  have hs : segR T = ⟨acc.getD 0 default, acc.getD 1 default, acc.getD 2 default, acc.getD 3 default, acc.getD 4 default, acc.getD 5 default == 1, bs (pT T).1, pairS (pL T).1⟩ := by unfold segR n6; rw [e6]
  have hpl := pair_len (pL T).1
  generalize (pT T).1 = D at *
  generalize (pL T).1 = L at *
  refine Sat.go (Eq.refl _) ?_
  refine NS.loop (σ := { j : Nat // j ≤ (pairS L).length }) (fun j => [(2, .ptr 2 0), (9, .ptr 9 0), (13, slN L), (15, .int .i64 (2 * j.1 : Nat))]) (fun j => [(2, .box [.int .i64 0, .int .i64 0, .int .i64 0, .int .i64 0, .int .i64 0, .bool false, .str .empty, .nils]), (9, .box [.int .i64 (acc.getD 0 default), .int .i64 (acc.getD 1 default), .int .i64 (acc.getD 2 default), .int .i64 (acc.getD 3 default), .int .i64 (acc.getD 4 default), .bool (acc.getD 5 default == 1), .str (bs D), .own 10]), (10, .row 49 2 j.1 (rowL Spn.cells ((pairS L).take j.1)))]) (fun j => (pairS L).length - j.1) ⟨0, Nat.zero_le _⟩ ?_ ?_
  · refine (weak_promoteB 9 7 10 49 2 (rowL Spn.cells []) rfl rfl rfl).trans ?_
    exact weak_hd [] rfl ⟨rfl, rfl, rfl, rfl, trivial⟩ ⟨⟨_, rfl, ⟨_, _, rfl, rfl, _, _, rfl, rfl, _, _, rfl, rfl, _, _, rfl, rfl, _, _, rfl, rfl, _, _, rfl, .inl rfl, _, _, rfl, rfl, _, _, rfl, rfl, rfl⟩⟩, ⟨_, rfl, ⟨_, _, rfl, rfl, _, _, rfl, rfl, _, _, rfl, rfl, _, _, rfl, rfl, _, _, rfl, rfl, _, _, rfl, .inl rfl, _, _, rfl, rfl, _, _, rfl, rfl, rfl⟩⟩, ren_row rfl rfl fun i hi j hj => rfl, trivial⟩ trivial (by kernel_rfl)
  rintro ⟨j, hj⟩
  refine Sat.go (Eq.refl _) (NS.ite (fun h7 => ?_) (fun h7 => ?_))
  · have h7 : 2 * j < L.length := by have h7 : ((2 * j : Nat) : Int) < L.length := of_decide_eq_true h7
                                     omega
    have hj2 : j < (pairS L).length := by omega
    have e1 : IntKind.i64.wrap (((2 * j : Nat) : Int) + 1) = ((2 * j + 1 : Nat) : Int) := by rw [wrap_i64 (by omega) (by omega)]; omega
    have e2 : IntKind.i64.wrap (((2 * j : Nat) : Int) + 2) = ((2 * (j + 1) : Nat) : Int) := by rw [wrap_i64 (by omega) (by omega)]; omega
    refine Sat.go (Eq.refl _) (NS.chk (by kernel_rfl) ?_)
    refine Sat.go (Eq.refl _) (NS.need (by exact decide_eq_true ⟨Int.natCast_nonneg _, by show ((2 * j : Nat) : Int) < L.length; omega⟩) ?_)
    refine Sat.go (Eq.refl _) (NS.need (by exact decide_eq_true (by show 0 ≤ IntKind.i64.wrap (((2 * j : Nat) : Int) + 1) ∧ IntKind.i64.wrap (((2 * j : Nat) : Int) + 1) < L.length; rw [e1]; omega)) ?_)
    refine Sat.go (Eq.refl _) (NS.need (decide_eq_true (by show (j + 1) * _ ≤ _; simp only [maxRow]; omega)) ?_)
    refine Sat.go (Eq.refl _) (NS.next ⟨j + 1, by omega⟩ (by simp; omega) ?_)
    refine weak_hd [(10, 110)] rfl ⟨rfl, rfl, rfl, ren_int rfl e2, trivial⟩ ⟨⟨_, rfl, ⟨_, _, rfl, rfl, _, _, rfl, rfl, _, _, rfl, rfl, _, _, rfl, rfl, _, _, rfl, rfl, _, _, rfl, .inl rfl, _, _, rfl, rfl, _, _, rfl, rfl, rfl⟩⟩, ⟨_, rfl, ⟨_, _, rfl, rfl, _, _, rfl, rfl, _, _, rfl, rfl, _, _, rfl, rfl, _, _, rfl, rfl, _, _, rfl, .inl rfl, _, _, rfl, rfl, _, _, rfl, rfl, rfl⟩⟩, ren_row rfl rfl ?_, trivial⟩ trivial (by kernel_rfl)
    have hs := row_snoc (cells := Spn.cells) (l := (pairS L).take j) (x := (pairS L).getD j default) (c := 2) (cs := [.int .i64 (L.getD (2 * j) default), .int .i64 (L.getD (2 * j + 1) default)]) (by rw [pair_get _ _ (by omega)]; rfl)
    rw [← take_snoc hj2, List.length_take, show min j (pairS L).length = j by omega] at hs
    intro i hi c hc
    have := hs i hi c hc
    rw [← this]
    show (if i < j then _ else _) = _
    congr 1
    show getA [A.int .i64 (L.getD (Int.toNat ((2 * j : Nat) : Int)) default), A.int .i64 (L.getD (Int.toNat (IntKind.i64.wrap (((2 * j : Nat) : Int) + 1))) default)] _ = _
    rw [e1]
    rfl
  have h7 : ¬ 2 * j < L.length := by have h7 : ¬ ((2 * j : Nat) : Int) < L.length := of_decide_eq_false h7
                                     omega
  have hj : j ≤ (pairS L).length := hj
  obtain rfl : j = (pairS L).length := by omega
  refine Sat.go (Eq.refl _) (NS.leave rfl (Eq.refl _) ?_)
  refine Sat.wk (weak_freezeB 9 7 10 rfl rfl rfl) ?_
  have cells_le : LeA (.agg [.int .i64 (acc.getD 0 default), .int .i64 (acc.getD 1 default), .int .i64 (acc.getD 2 default), .int .i64 (acc.getD 3 default), .int .i64 (acc.getD 4 default), .bool (acc.getD 5 default == 1), .str (bs D), .sl 2 (pairS L).length (rowL Spn.cells ((pairS L).take (pairS L).length))]) (.agg (segR T).cells) := by
    rw [hs, List.take_length]; exact LeA.refl _
  refine Sat.go (Eq.refl _) (NS.chk (by kernel_rfl) ?_)
  refine Sat.go (Eq.refl _) (NS.call ((gCheck_ok (segR T)).le (LeL.cons cells_le LeL.nil)) rfl ?_)
  exact Sat.go (Eq.refl _) (NS.ret rfl rfl (LeA.tup2 (by unfold decP; rw [hP]; exact cells_le) (LeA.of (congrArg A.bool (by rw [okT_P, hP]; rfl)))))
def zL : List A := [.int .i64 0, .int .i64 0, .int .i64 0, .int .i64 0, .int .i64 0, .bool false, .str .empty, .nils]
theorem dec_le {l : List Nat} {s : Seg} {e : Int} (h : decG l = (s, e)) : LeA (.tup [.agg s.cells, .int .i64 e]) (.tup [.agg (decG l).1.cells, .int .i64 (decG l).2]) := by rw [h]; exact LeA.refl _
theorem dec_le0 {l : List Nat} {e : Int} (h : decG l = (zeroG, e)) : LeA (.tup [.agg [.int .i64 0, .int .i64 0, .int .i64 0, .int .i64 0, .int .i64 0, .bool false, .str .empty, .nils], .int .i64 e]) (.tup [.agg (decG l).1.cells, .int .i64 (decG l).2]) := by rw [h]; exact LeA.tup2 zero_le_seg (LeA.refl _)
theorem decode_ok (s : ByteArray) (hs : s.size ≤ 100000) : FnOK Try.prog 16 [.str s] (.tup [.agg (decG (ls s)).1.cells, .int .i64 (decG (ls s)).2], none) := by
  have hT := opL_lt (ls_lt s)
  have hTl := (opL_len (ls s)).2
  have hll := ls_len s
  refine fn_ok CN rfl (by kernel_rfl) Try.func16 rfl ?_
  refine Sat.go (Eq.refl _) (NS.call (open_ok s (by omega)) rfl ?_)
  refine Sat.go (Eq.refl _) (NS.ite (fun c1 => ?_) (fun c1 => ?_))
  · exact Sat.go (Eq.refl _) (NS.ret rfl rfl (dec_le0 (by unfold decG; rw [if_pos c1])))
  have c1' : ¬ ((opL (ls s)).2.2 != 0) = true := by rw [c1]; simp
  refine Sat.go (Eq.refl _) (NS.call (segDecode_ok (opL (ls s)).1 hT (by omega)) rfl ?_)
  refine Sat.go (Eq.refl _) (NS.ite (fun c2 => ?_) (fun c2 => ?_))
  · have c2 : okT (opL (ls s)).1 = false := not_t c2
    exact Sat.go (Eq.refl _) (NS.ret rfl rfl (dec_le0 (by unfold decG; rw [if_neg c1', c2]; rfl)))
  have c2 : okT (opL (ls s)).1 = true := not_f c2
  refine Sat.go (Eq.refl _) (NS.ite (fun c3 => ?_) (fun c3 => ?_))
  · have c3 : ((opL (ls s)).2.1 : Int) ≠ (s.size : Int) := by simpa using c3
    exact Sat.go (Eq.refl _) (NS.ret rfl rfl (dec_le0 (by unfold decG; rw [if_neg c1', if_neg (by rw [Bool.and_eq_true, beq_iff_eq]; omega)])))
  have c3 : ((opL (ls s)).2.1 : Int) = (s.size : Int) := by simpa using c3
  have hP : decP (opL (ls s)).1 = segR (opL (ls s)).1 := by
    rw [okT_P, Bool.and_eq_true] at c2
    unfold decP; rw [c2.1]; rfl
  rw [hP]
  exact Sat.go (Eq.refl _) (NS.ret rfl rfl (dec_le (by unfold decG; rw [if_neg c1', if_pos (by rw [Bool.and_eq_true, beq_iff_eq]; exact ⟨c2, by omega⟩)])))
end Go.Proofs.Ytbpdbibnfmdpoaa
