/- The reference's Decode of segments. -/
import Derived.Test.YtbpdbibnfmdpoaaGG
import Derived.Test.YtbpdbibnfmdpoaaGE
set_option linter.unusedSimpArgs false
set_option linter.unusedSectionVars false
set_option linter.unusedVariables false
namespace Go.Proofs.Ytbpdbibnfmdpoaa
open Go.Sy Go.Mb
set_option maxRecDepth 100000
set_option linter.unusedVariables false
set_option maxHeartbeats 4000000

theorem dec_bad {l : List Nat} (h : (opL l).2.2 = 0) (hb : okT (opL l).1 = false) : decG l = (zeroG, 11) := by
  unfold decG; rw [if_neg (by rw [h]; simp), hb]; rfl
theorem okT_f {t : List Nat} (h : okP t = false) : okT t = false := by rw [okT_P, h]; rfl
theorem rDecode_ok (s : ByteArray) (hs : s.size ≤ 100000) : FnOK Try.prog 17 [.str s] (.tup [.agg (decG (ls s)).1.cells, .int .i64 (decG (ls s)).2], none) := by
  have hT := opL_lt (ls_lt s)
  have hTl := (opL_len (ls s)).2
  have hll := ls_len s
  refine fn_ok CN rfl (by kernel_rfl) Try.func17 rfl ?_
  refine Sat.go (Eq.refl _) (NS.call (rOpen_ok s (by omega)) rfl ?_)
  refine Sat.go (Eq.refl _) (NS.ite (fun c1 => ?_) (fun c1 => ?_))
  · exact Sat.go (Eq.refl _) (NS.ret rfl rfl (dec_le0 (by unfold decG; rw [if_pos c1])))
  have c1' : (opL (ls s)).2.2 = 0 := by simpa using c1
  have hbad := fun hb => dec_le0 (dec_bad c1' hb)
  have hdec : ∀ X : Seg, okT (opL (ls s)).1 = true → (opL (ls s)).2.1 = s.size → segR (opL (ls s)).1 = X → decG (ls s) = (X, 0) := by
    intro X h1 h2 h3
    unfold decG; rw [if_neg (by rw [c1]; simp), h1, if_pos (by rw [hll, h2]; simp), h3]
  have hbad2 : (opL (ls s)).2.1 ≠ s.size → decG (ls s) = (zeroG, 11) := by
    intro h
    unfold decG; rw [if_neg (by rw [c1]; simp), if_neg (by rw [Bool.and_eq_true, beq_iff_eq]; omega)]
  generalize (opL (ls s)).1 = T at *
  generalize (opL (ls s)).2.1 = sz at *
  refine Sat.go (Eq.refl _) ?_
  refine NS.loop (σ := { x : Nat × Nat × List Int // x.1 ≤ 6 ∧ x.2.2.length = x.1 ∧ x.2.1 ≤ T.length ∧ rdLA (6 - x.1) T x.2.1 x.2.2 = rdLA 6 T 0 [] }) (fun x => [(0, .str s), (2, .ptr 2 0), (4, .str (bs T)), (5, .int .i64 sz), (7, .own 28), (8, .int .i64 x.1.2.1), (9, .int .i64 x.1.1)]) (fun x => [(2, .box zL), (28, .row 3 1 x.1.1 (rowL nC x.1.2.2))]) (fun x => 6 - x.1.1) ⟨(0, 0, []), by simp⟩ ?_ ?_
  · exact weak_hd [] rfl ⟨rfl, rfl, rfl, rfl, rfl, rfl, rfl, trivial⟩ ⟨⟨_, rfl, ⟨_, _, rfl, rfl, _, _, rfl, rfl, _, _, rfl, rfl, _, _, rfl, rfl, _, _, rfl, rfl, _, _, rfl, .inl rfl, _, _, rfl, rfl, _, _, rfl, rfl, rfl⟩⟩, ren_row rfl rfl fun i hi j hj => absurd hi (Nat.not_lt_zero _), trivial⟩ trivial (by kernel_rfl)
  rintro ⟨⟨i, k, acc⟩, h6, ha, hk, he⟩
  have ha : acc.length = i := ha
  have hk : k ≤ T.length := hk
  have hTk : ∀ x ∈ T.drop k, x < 256 := mem_drop_lt hT k
  have hbl := bs_len T
  refine Sat.go (Eq.refl _) (NS.ite (fun h => ?_) (fun h => ?_))
  · have h : i < 6 := by have h : (i : Int) < 6 := of_decide_eq_true h
                         omega
    have he : rdLA (6 - (i + 1) + 1) T k acc = rdLA 6 T 0 [] := by rw [← he, show 6 - (i + 1) + 1 = 6 - i by omega]
    have c := rReadInt_ok ((bs T).extract (Int.toNat ((k : Nat) : Int)) (Int.toNat (((bs T).size : Nat) : Int)))
    rw [dropS _ k (by omega), ls_bs hT] at c
    refine Sat.go (Eq.refl _) (NS.need (by exact decide_eq_true ⟨Int.natCast_nonneg _, by show (k : Int) ≤ _; omega, Int.le_refl _⟩) ?_)
    refine Sat.go (Eq.refl _) (NS.call (c) rfl ?_)
    refine Sat.go (Eq.refl _) (NS.ite (fun c1 => ?_) (fun c1 => ?_))
    · have c1 : ((rdI (T.drop k)).2.2 != 0) = true := c1
      rw [rdLA_err rfl c1] at he
      have e6 : p6 T = ([], 0, (rdI (T.drop k)).2.2) := he.symm
      exact Sat.go (Eq.refl _) (NS.leaveOut rfl (Eq.refl _) (NS.ret rfl rfl (hbad (okT_f (okP_f1 (by rw [e6]; exact c1))))))
    have c1 : (rdI (T.drop k)).2.2 = 0 := by simpa using c1
    have hr : rdI (T.drop k) = ((rdI (T.drop k)).1, (rdI (T.drop k)).2.1, 0) := by rw [← c1]
    have q1 := (rdI_ok hTk hr).2.2.1
    rw [List.length_drop] at q1
    rw [rdLA_go hr] at he
    generalize (rdI (T.drop k)).1 = n at *
    generalize (rdI (T.drop k)).2.1 = b at *
    have eb : IntKind.i64.wrap ((k : Int) + (b : Int)) = ((k + b : Nat) : Int) := by rw [wrap_i64 (by omega) (by omega)]; omega
    refine Sat.go (Eq.refl _) (NS.need (decide_eq_true (by show (i + 1) * _ ≤ _; simp only [maxRow]; omega)) ?_)
    refine Sat.go (Eq.refl _) (NS.next ⟨(i + 1, k + b, acc ++ [n]), by refine ⟨?_, ?_, ?_, he⟩ <;> simp <;> omega⟩ (by simp; omega) ?_)
    refine weak_hd [(28, 47)] rfl ⟨rfl, rfl, rfl, rfl, rfl, ren_int rfl eb, ren_int rfl (i64_k (k := i) (n := 6) h (by omega)), trivial⟩ ⟨⟨_, rfl, ⟨_, _, rfl, rfl, _, _, rfl, rfl, _, _, rfl, rfl, _, _, rfl, rfl, _, _, rfl, rfl, _, _, rfl, .inl rfl, _, _, rfl, rfl, _, _, rfl, rfl, rfl⟩⟩, ren_row rfl rfl ?_, trivial⟩ trivial (by kernel_rfl)
    subst ha
    exact row_snoc (cells := nC) (l := acc) (x := n) (c := 1) rfl
  have h : i = 6 := by have h : ¬ (i : Int) < 6 := of_decide_eq_false h
                       have : i ≤ 6 := h6
                       omega
  subst h
  have e6 : p6 T = (acc, k, 0) := by unfold p6; rw [← he]; rfl
  refine Sat.go (Eq.refl _) (NS.leave rfl (Eq.refl _) ?_)
  have c := rReadText_ok ((bs T).extract (Int.toNat ((k : Nat) : Int)) (Int.toNat (((bs T).size : Nat) : Int))) (by have := ex_size (bs T) (Int.toNat ((k : Nat) : Int)) (Int.toNat (((bs T).size : Nat) : Int)); exact Nat.le_trans this (by omega))
  rw [dropS _ k (by omega), ls_bs hT] at c
  have eT : rdT (T.drop k) = pT T := by unfold pT; rw [e6]
  rw [eT] at c
  refine Sat.go (Eq.refl _) (NS.need (by exact decide_eq_true ⟨Int.natCast_nonneg _, by show (k : Int) ≤ _; omega, Int.le_refl _⟩) ?_)
  refine Sat.go (Eq.refl _) (NS.call (c) rfl ?_)
  refine Sat.go (Eq.refl _) (NS.ite (fun c2 => ?_) (fun c2 => ?_))
  · exact Sat.go (Eq.refl _) (NS.ret rfl rfl (hbad (okT_f (okP_f2 c2))))
  have c2 : (pT T).2.2 = 0 := by simpa using c2
  have rT : rdT (T.drop k) = ((pT T).1, (pT T).2.1, 0) := by rw [eT, ← c2]
  have qT := (rdT_back hTk rT).2.1
  rw [List.length_drop] at qT
  generalize hb1 : (pT T).2.1 = b1 at *
  have eb : IntKind.i64.wrap ((k : Int) + (b1 : Int)) = ((k + b1 : Nat) : Int) := by rw [wrap_i64 (by omega) (by omega)]; omega
  have c := rReadList_ok ((bs T).extract (Int.toNat ((k + b1 : Nat) : Int)) (Int.toNat (((bs T).size : Nat) : Int))) (by have := ex_size (bs T) (Int.toNat ((k + b1 : Nat) : Int)) (Int.toNat (((bs T).size : Nat) : Int)); exact Nat.le_trans this (by omega))
  rw [dropS _ (k + b1) (by omega), ls_bs hT] at c
  have eL : rdL (T.drop (k + b1)) = pL T := by unfold pL; rw [e6, hb1]
  rw [eL] at c
  refine Sat.go (Eq.refl _) (NS.need (by exact decide_eq_true (by rw [eb]; exact ⟨Int.natCast_nonneg _, by omega, Int.le_refl _⟩)) ?_)
  rw [eb]
  refine Sat.go (Eq.refl _) (NS.call (c) rfl ?_)
  refine Sat.go (Eq.refl _) (NS.ite (fun c4 => ?_) (fun c4 => ?_))
  · exact Sat.go (Eq.refl _) (NS.ret rfl rfl (hbad (okT_f (okP_f4 c4))))
  have c4 : (pL T).2.2 = 0 := by simpa using c4
  have rL : rdL (T.drop (k + b1)) = ((pL T).1, (pL T).2.1, 0) := by rw [eL, ← c4]
  have qL := (rdL_ok (mem_drop_lt hT (k + b1)) rL).2.2.1
  have qn := (rdL_ok (mem_drop_lt hT (k + b1)) rL).2.1
  rw [List.length_drop] at qL
  generalize hb2 : (pL T).2.1 = b2 at *
  have eb3 : IntKind.i64.wrap (((k + b1 : Nat) : Int) + (b2 : Int)) = ((k + b1 + b2 : Nat) : Int) := by rw [wrap_i64 (by omega) (by omega)]; omega
  refine Sat.go (Eq.refl _) (NS.ite (fun c5 => ?_) (fun c5 => ?_))
  · rw [eb3] at c5
    have c5 : ((k + b1 + b2 : Nat) : Int) ≠ ((bs T).size : Int) := by simpa using c5
    exact Sat.go (Eq.refl _) (NS.ret rfl rfl (hbad (okT_f (okP_f5 (by rw [e6, hb1, hb2]; simp only; omega)))))
  rw [eb3] at c5
  have c5 : ((k + b1 + b2 : Nat) : Int) = ((bs T).size : Int) := by simpa using c5
  refine Sat.go (Eq.refl _) (NS.ite (fun c7 => ?_) (fun c7 => ?_))
  · have c7 : (sz : Int) ≠ (s.size : Int) := by simpa using c7
    exact Sat.go (Eq.refl _) (NS.ret rfl rfl (dec_le0 (hbad2 (by omega))))
  have c7 : (sz : Int) = (s.size : Int) := by simpa using c7
  refine Sat.go (Eq.refl _) (NS.need (rfl) ?_)
  refine Sat.go (Eq.refl _) (NS.need (rfl) ?_)
  refine Sat.go (Eq.refl _) (NS.call (rgWithin_ok (acc.getD 5 default) 0 1) rfl ?_)
  refine Sat.go (Eq.refl _) (NS.ite (fun c3 => ?_) (fun c3 => ?_))
  · exact Sat.go (Eq.refl _) (NS.ret rfl rfl (hbad (okT_f (okP_f3 (by unfold n6; rw [e6]; exact not_t c3)))))
  have c3 := not_f c3
  refine Sat.go (Eq.refl _) (NS.need (rfl) ?_)
  refine Sat.go (Eq.refl _) (NS.ite (fun c6 => ?_) (fun c6 => ?_))
  · have c6 : ((((pL T).1.length : Nat) : Int).tmod 2 != 0) = true := c6
    rw [tmod2] at c6
    exact Sat.go (Eq.refl _) (NS.ret rfl rfl (hbad (okT_f (okP_f6 (by intro h0; rw [h0] at c6; cases c6)))))
  have c6 : ((((pL T).1.length : Nat) : Int).tmod 2 != 0) = false := c6
  rw [tmod2] at c6
  have c6 : (pL T).1.length % 2 = 0 := by simp at c6; omega
  have hP : okP T = true := okP_iff.2 ⟨by rw [e6], c2, by unfold n6; rw [e6]; exact c3, c4, by rw [e6, hb1, hb2]; simp only; omega, c6⟩
  have hsR : segR T = ⟨acc.getD 0 default, acc.getD 1 default, acc.getD 2 default, acc.getD 3 default, acc.getD 4 default, acc.getD 5 default == 1, bs (pT T).1, pairS (pL T).1⟩ := by unfold segR n6; rw [e6]
  have hpl := pair_len (pL T).1
  generalize (pT T).1 = D at *
  generalize (pL T).1 = L at *
  refine Sat.go (Eq.refl _) (NS.chk (by kernel_rfl) ?_)
  iterate 12 refine Sat.go (Eq.refl _) (NS.need rfl ?_)
  refine Sat.go (Eq.refl _) ?_
  refine NS.loop (σ := { j : Nat // j ≤ (pairS L).length }) (fun j => [(2, .ptr 2 0), (15, slN L), (16, .ptr 16 0), (17, .int .i64 (2 * j.1 : Nat))]) (fun j => [(2, .box zL), (16, .box [.int .i64 (acc.getD 0 default), .int .i64 (acc.getD 1 default), .int .i64 (acc.getD 2 default), .int .i64 (acc.getD 3 default), .int .i64 (acc.getD 4 default), .bool (acc.getD 5 default == 1), .str (bs D), .own 10]), (10, .row 49 2 j.1 (rowL Spn.cells ((pairS L).take j.1)))]) (fun j => (pairS L).length - j.1) ⟨0, Nat.zero_le _⟩ ?_ ?_
  · refine (weak_promoteB 16 7 10 49 2 (rowL Spn.cells []) rfl rfl rfl).trans ?_
    exact weak_hd [] rfl ⟨rfl, rfl, rfl, rfl, trivial⟩ ⟨⟨_, rfl, ⟨_, _, rfl, rfl, _, _, rfl, rfl, _, _, rfl, rfl, _, _, rfl, rfl, _, _, rfl, rfl, _, _, rfl, .inl rfl, _, _, rfl, rfl, _, _, rfl, rfl, rfl⟩⟩, ⟨_, rfl, ⟨_, _, rfl, rfl, _, _, rfl, rfl, _, _, rfl, rfl, _, _, rfl, rfl, _, _, rfl, rfl, _, _, rfl, .inl rfl, _, _, rfl, rfl, _, _, rfl, rfl, rfl⟩⟩, ren_row rfl rfl fun i hi j hj => rfl, trivial⟩ trivial (by kernel_rfl)
  rintro ⟨j, hj⟩
  refine Sat.go (Eq.refl _) (NS.ite (fun h7 => ?_) (fun h7 => ?_))
  · have h7 : 2 * j < L.length := by have h7 : ((2 * j : Nat) : Int) < L.length := of_decide_eq_true h7
                                     omega
    have hj2 : j < (pairS L).length := by omega
    have e1 : IntKind.i64.wrap (((2 * j : Nat) : Int) + 1) = ((2 * j + 1 : Nat) : Int) := by rw [wrap_i64 (by omega) (by omega)]; omega
    have e2 : IntKind.i64.wrap (((2 * j : Nat) : Int) + 2) = ((2 * (j + 1) : Nat) : Int) := by rw [wrap_i64 (by omega) (by omega)]; omega
    refine Sat.go (Eq.refl _) (NS.chk (by kernel_rfl) ?_)
    refine Sat.go (Eq.refl _) (NS.need (by exact decide_eq_true ⟨Int.natCast_nonneg _, by show ((2 * j : Nat) : Int) < L.length; omega⟩) ?_)
    refine Sat.go (Eq.refl _) (NS.need (by exact decide_eq_true (by show 0 ≤ IntKind.i64.wrap (((2 * j : Nat) : Int) + 1) ∧ IntKind.i64.wrap (((2 * j : Nat) : Int) + 1) < L.length; rw [e1]; omega)) ?_)
    refine Sat.go (Eq.refl _) (NS.need (decide_eq_true (by show (j + 1) * _ ≤ _; simp only [maxRow]; omega)) ?_)
    refine Sat.go (Eq.refl _) (NS.next ⟨j + 1, by omega⟩ (by simp; omega) ?_)
    refine weak_hd [(10, 143)] rfl ⟨rfl, rfl, rfl, ren_int rfl e2, trivial⟩ ⟨⟨_, rfl, ⟨_, _, rfl, rfl, _, _, rfl, rfl, _, _, rfl, rfl, _, _, rfl, rfl, _, _, rfl, rfl, _, _, rfl, .inl rfl, _, _, rfl, rfl, _, _, rfl, rfl, rfl⟩⟩, ⟨_, rfl, ⟨_, _, rfl, rfl, _, _, rfl, rfl, _, _, rfl, rfl, _, _, rfl, rfl, _, _, rfl, rfl, _, _, rfl, .inl rfl, _, _, rfl, rfl, _, _, rfl, rfl, rfl⟩⟩, ren_row rfl rfl ?_, trivial⟩ trivial (by kernel_rfl)
    have hs := row_snoc (cells := Spn.cells) (l := (pairS L).take j) (x := (pairS L).getD j default) (c := 2) (cs := [.int .i64 (L.getD (2 * j) default), .int .i64 (L.getD (2 * j + 1) default)]) (by rw [pair_get _ _ (by omega)]; rfl)
    rw [← take_snoc hj2, List.length_take, show min j (pairS L).length = j by omega] at hs
    intro i hi c hc
    have := hs i hi c hc
    rw [← this]
    show (if i < j then _ else _) = _
    congr 1
    show getA [A.int .i64 (L.getD (Int.toNat ((2 * j : Nat) : Int)) default), A.int .i64 (L.getD (Int.toNat (IntKind.i64.wrap (((2 * j : Nat) : Int) + 1))) default)] _ = _
    rw [e1]
    rfl
  have h7 : ¬ 2 * j < L.length := by have h7 : ¬ ((2 * j : Nat) : Int) < L.length := of_decide_eq_false h7
                                     omega
  have hj : j ≤ (pairS L).length := hj
  obtain rfl : j = (pairS L).length := by omega
  refine Sat.go (Eq.refl _) (NS.leave rfl (Eq.refl _) ?_)
  refine Sat.wk (weak_freezeB 16 7 10 rfl rfl rfl) ?_
  have cells_le : LeA (.agg [.int .i64 (acc.getD 0 default), .int .i64 (acc.getD 1 default), .int .i64 (acc.getD 2 default), .int .i64 (acc.getD 3 default), .int .i64 (acc.getD 4 default), .bool (acc.getD 5 default == 1), .str (bs D), .sl 2 (pairS L).length (rowL Spn.cells ((pairS L).take (pairS L).length))]) (.agg (segR T).cells) := by
    rw [hsR, List.take_length]; exact LeA.refl _
  refine Sat.go (Eq.refl _) (NS.call ((rgCheck_ok (segR T)).le (LeL.cons cells_le LeL.nil)) rfl ?_)
  refine Sat.go (Eq.refl _) (NS.ite (fun c8 => ?_) (fun c8 => ?_))
  · have c8 : (chkG (segR T) != 0) = true := c8
    exact Sat.go (Eq.refl _) (NS.ret rfl rfl (hbad (by rw [okT_P, hP]; simpa using c8)))
  have c8 : (chkG (segR T) != 0) = false := c8
  refine Sat.go (Eq.refl _) (NS.ret rfl rfl (LeA.trans (LeA.tup2 cells_le (LeA.refl _)) (dec_le (hdec _ (by rw [okT_P, hP]; simpa using c8) (by omega) rfl))))
end Go.Proofs.Ytbpdbibnfmdpoaa
