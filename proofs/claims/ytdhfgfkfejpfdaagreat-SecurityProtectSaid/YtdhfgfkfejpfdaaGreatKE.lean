/- The bytes of blocks. -/
import Derived.Test.YtdhfgfkfejpfdaaGreatKD
import Derived.Test.YtdhfgfkfejpfdaaGreatKW
import Derived.Test.YtdhfgfkfejpfdaaGreatVT
set_option linter.unusedSimpArgs false
set_option linter.unusedSectionVars false
set_option linter.unusedVariables false
namespace Go.Mb
open Go.Sy
theorem textM_ok {s : ByteArray} (h : s.size ≤ 65536) : textM s = (bs (payL s), 0) := by
  unfold textM
  rw [if_neg (by simp; omega), payL, bs_append, bs_ls]
theorem sealM_ok {s : ByteArray} {l : List Nat} (h : ls s = l) (hl : l.length ≤ 65536) : sealM s = (bs (sealL l), 0) := by
  have e : s.size = l.length := by rw [← h, ls_len]
  unfold sealM
  rw [if_neg (by simp; omega), h]
end Go.Mb
namespace Go.Proofs.YtdhfgfkfejpfdaaGreat
open Go.Sy Go.Mb
set_option maxRecDepth 100000
set_option linter.unusedVariables false
set_option maxHeartbeats 4000000

theorem intS_ok {n : Int} (h : inI n = true) : FnOK Tryz.prog 78 [.int .i64 n] (.tup [.str (bs (encI n)), .int .i64 0], none) := by
  have c := int_ok n
  rwa [intM_ok h] at c
theorem textS_ok {s : ByteArray} (h : s.size ≤ 65536) : FnOK Tryz.prog 76 [.str s] (.tup [.str (bs (payL s)), .int .i64 0], none) := by
  have c := text_ok s
  rwa [textM_ok h] at c
theorem sealS_ok {s : ByteArray} {l : List Nat} (h : ls s = l) (hl : l.length ≤ 65536) : FnOK Tryz.prog 79 [.str s] (.tup [.str (bs (sealL l)), .int .i64 0], none) := by
  have c := seal_ok s
  rwa [sealM_ok h hl] at c
theorem kEnc_ok (x : Blk) (h : chkK x = 0) : FnOK Tryz.prog 80 [.agg x.cells] (.tup [.str (bs (encB x)), .int .i64 0], none) := by
  have hz := chkK_zero.1 h
  have c := kCheck_ok x
  rw [h] at c
  have hk := inI_of (n := x.kind) (by omega) (by omega)
  have hf := inI_of (n := x.flags) (by omega) (by omega)
  have hi := encB_in h
  have hl : ls (bs (encI x.kind) ++ bs (encI x.flags) ++ bs (payL x.data)) = encI x.kind ++ encI x.flags ++ payL x.data := by
    rw [ls_append, ls_append, ls_bs encI_mem, ls_bs encI_mem, ls_bs (payL_lt _)]
  have hk1 := encI_len hk
  have hf1 := encI_len hf
  have hp1 := payL_len (s := x.data) (by omega)
  refine fn_ok CN rfl (by kernel_rfl) Tryz.func80 rfl ?_
  repeat' (refine Sat.go (Eq.refl _) ?_; first | (refine NS.no (rfl) ?_) | (refine NS.yes (rfl) ?_) | (refine NS.chk (by kernel_rfl) ?_) | (refine NS.need ((decide_eq_true (by simp only [maxRow, ByteArray.size_append, bs_len]; omega))) ?_) | (refine NS.call (c) rfl ?_) | (refine NS.call (intS_ok hk) rfl ?_) | (refine NS.call (intS_ok hf) rfl ?_) | (refine NS.call (textS_ok (s := x.data) (by omega)) rfl ?_) | (refine NS.call (sealS_ok hl (by omega)) rfl ?_))
  exact Sat.go (Eq.refl _) (NS.ret rfl rfl (LeA.refl _))
theorem kEncAll_ok (l : List Blk) (h : GoodL l) : FnOK Tryz.prog 59 [slBlk l] (.tup [.str (bs (encBs l)), .int .i64 0], none) := by
  have hn := h.1
  have hi := inI_nat (n := l.length) (by omega)
  have hi1 := encI_len hi
  refine fn_ok CN rfl (by kernel_rfl) Tryz.func59 rfl ?_
  refine Sat.go (Eq.refl _) (NS.no (decide_eq_false (by omega)) ?_)
  refine Sat.go (Eq.refl _) (NS.call (intS_ok hi) rfl ?_)
  refine Sat.go (Eq.refl _) ?_
  refine NS.loop (σ := { k : Nat // k ≤ l.length }) (fun k => [(0, slBlk l), (4, .str (bs (encI l.length ++ (l.take k.1).flatMap encB))), (19, slBlk l), (20, .int .i64 l.length), (21, .int .i64 k.1)]) (fun k => []) (fun k => l.length - k.1) ⟨0, Nat.zero_le _⟩ ?_ ?_
  · exact weak_hd [] rfl ⟨rfl, ren_str rfl (by simp), rfl, rfl, rfl, trivial⟩ trivial trivial (by kernel_rfl)
  rintro ⟨k, hk⟩
  have hk : k ≤ l.length := hk
  refine Sat.go (Eq.refl _) (NS.ite (fun a => ?_) (fun a => ?_))
  · have a : k < l.length := by simpa using a
    refine Sat.go (Eq.refl _) (NS.need (by simp; omega) ?_)
    have hx : l.getD k default ∈ l := by rw [getD_lt a]; exact List.getElem_mem a
    have hz := h.2.1 _ hx
    have hy := encB_len hz
    have hfl := flat_len (l := l.take k) fun y hy => h.2.1 y (List.mem_of_mem_take hy)
    rw [List.length_take] at hfl
    have e : (l.take (k + 1)).flatMap encB = (l.take k).flatMap encB ++ encB (l.getD k default) := by rw [take_snoc a]; simp
    refine Sat.go (Eq.refl _) (NS.call (kEnc_ok _ hz) rfl ?_)
    refine Sat.go (Eq.refl _) (NS.no (rfl) ?_)
    refine Sat.go (Eq.refl _) (NS.chk (by kernel_rfl) ?_)
    refine Sat.go (Eq.refl _) (NS.ite (fun b => ?_) (fun b => ?_))
    · have b : 0 < k := by have b : decide ((k : Int) > 0) = true := b; have := of_decide_eq_true b; omega
      obtain ⟨q, rfl⟩ : ∃ q, k = q + 1 := ⟨k - 1, by omega⟩
      have hq : IntKind.i64.wrap (((q + 1 : Nat) : Int) - 1) = (q : Int) := i64_s (n := 9) (by omega) (by omega)
      have hlt : (l.getD q default).kind < (l.getD (q + 1) default).kind := by
        rw [getD_lt (by omega : q < l.length), getD_lt a]
        exact List.pairwise_iff_getElem.1 h.2.2 q (q + 1) (by omega) a (by omega)
      refine Sat.go (Eq.refl _) (NS.need (by rw [hq]; exact decide_eq_true (by omega)) ?_)
      refine Sat.go (Eq.refl _) (NS.no (by rw [hq]; show decide ((l.getD (q + 1) default).kind ≤ (l.getD q default).kind) = false; exact decide_eq_false (by omega)) ?_)
      refine Sat.go (Eq.refl _) (NS.need (decide_eq_true (by simp only [maxRow]; show (bs (encI l.length ++ (l.take (q + 1)).flatMap encB)).size + (bs (encB (l.getD (q + 1) default))).size ≤ _; rw [bs_len, bs_len, List.length_append]; omega)) ?_)
      refine Sat.go (Eq.refl _) (NS.next ⟨q + 1 + 1, by omega⟩ (by show l.length - (q + 1 + 1) < l.length - (q + 1); omega) ?_)
      exact weak_hd [] rfl ⟨rfl, ren_str rfl (by show bs (encI l.length ++ (l.take (q + 1)).flatMap encB) ++ bs (encB (l.getD (q + 1) default)) = bs (encI l.length ++ (l.take (q + 1 + 1)).flatMap encB); rw [e, ← bs_append, List.append_assoc]), rfl, rfl, ren_int rfl (i64_k (by omega) (by omega)), trivial⟩ trivial trivial (by kernel_rfl)
    · refine Sat.go (Eq.refl _) (NS.need (decide_eq_true (by simp only [maxRow]; show (bs (encI l.length ++ (l.take (k)).flatMap encB)).size + (bs (encB (l.getD (k) default))).size ≤ _; rw [bs_len, bs_len, List.length_append]; omega)) ?_)
      refine Sat.go (Eq.refl _) (NS.next ⟨k + 1, by omega⟩ (by show l.length - (k + 1) < l.length - k; omega) ?_)
      exact weak_hd [] rfl ⟨rfl, ren_str rfl (by show bs (encI l.length ++ (l.take (k)).flatMap encB) ++ bs (encB (l.getD (k) default)) = bs (encI l.length ++ (l.take (k + 1)).flatMap encB); rw [e, ← bs_append, List.append_assoc]), rfl, rfl, ren_int rfl (i64_k (by omega) (by omega)), trivial⟩ trivial trivial (by kernel_rfl)
  have a : k = l.length := by have a : ¬ k < l.length := by simpa using a
                              omega
  subst a
  refine Sat.go (Eq.refl _) (NS.leave rfl (Eq.refl _) ?_)
  exact Sat.go (Eq.refl _) (NS.ret rfl rfl (LeA.of (congrArg (fun y => A.tup [.str y, .int .i64 0]) (by show bs (encI l.length ++ (l.take l.length).flatMap encB) = bs (encBs l); rw [List.take_length]; rfl))))
noncomputable def CEn : Cx := { E := EN, inl := [77], ok := EN_ok }
theorem bEnc_ok (b : Bun) (h : chkB b = 0) : FnOK Tryz.prog 58 [.agg b.cells] (.tup [.str (bs (encBun b)), .int .i64 0], none) := by
  have hz := chkB_zero.1 h
  have c := checkB_ok b
  rw [h] at c
  refine fn_ok CEn rfl (by kernel_rfl) Tryz.func58 rfl ?_
  refine Sat.go (Eq.refl _) (NS.call (c) rfl ?_)
  refine Sat.go (Eq.refl _) (NS.no (rfl) ?_)
  have hM : payL (bs [77, 66, 49]) = encI 3 ++ [77, 66, 49] := rfl
  have c3 := textS_ok (s := bs [77, 66, 49]) (by decide)
  rw [hM] at c3
  have h3 := encI3_len
  refine Sat.go (Eq.refl _) (NS.call (c3) rfl ?_)
  refine Sat.go (Eq.refl _) (NS.need (decide_eq_true (by rw [bs_len]; simp only [maxRow]; omega)) ?_)
  refine Sat.go (Eq.refl _) (NS.chk (by kernel_rfl) ?_)
  have hbl := bodyB_len hz.1 hz.2
  have hl : ls (bs ((encI 3 ++ [77, 66, 49]) ++ encL ((numsB b).take 10)) ++ bs (encBs b.l) ++ bs (payL b.pay)) = bodyB b := by
    rw [ls_append, ls_append, ls_bs fun y hy => ?_, ls_bs (encBs_lt _), ls_bs (payL_lt _)]
    · rfl
    · rcases List.mem_append.1 hy with hy | hy
      · exact head_lt y hy
      · exact encL_lt' _ y hy
  have hl2 := congrArg List.length hl
  rw [ls_len, ByteArray.size_append, ByteArray.size_append, bs_len, bs_len, bs_len] at hl2
  have hN := numsB_ok hz.1
  have hNl : (numsB b).length = 10 := rfl
  have hEl := encL_len hN
  have hpre : ∀ k, (encL ((numsB b).take k)).length ≤ 90 := fun k => by
    have := encL_len (l := (numsB b).take k) fun x hx => hN x (List.mem_of_mem_take hx)
    rw [List.length_take] at this; omega
  refine Sat.go (Eq.refl _) ?_
  refine NS.loop (σ := { k : Nat // k ≤ 10 }) (fun k => [(1, .ptr 1 0), (7, .own 26), (27, .agg [.ptr 1 0, .ptr 1 1, .ptr 1 2, .ptr 1 3, .ptr 1 4, .ptr 1 5, .ptr 1 6, .ptr 1 7, .ptr 1 8, .ptr 1 9]), (28, .int .i64 k.1)]) (fun k => [(1, .box b.cells), (26, .row 5 1 ((encI 3 ++ [77, 66, 49]) ++ encL ((numsB b).take k.1)).length (rowL bC ((encI 3 ++ [77, 66, 49]) ++ encL ((numsB b).take k.1))))]) (fun k => 10 - k.1) ⟨0, by omega⟩ ?_ ?_
  · refine weak_hd [] rfl ⟨rfl, rfl, rfl, rfl, trivial⟩ ⟨⟨_, rfl, renBun _ b⟩, ?_, trivial⟩ trivial (by kernel_rfl)
    refine ren_row rfl (by rw [bs_len]; simp [encL]) fun i hi j hj => ?_
    rw [strEl_bs head_lt i j hj]
    simp [encL]
  rintro ⟨k, hk⟩
  have hk : k ≤ 10 := hk
  refine Sat.go (Eq.refl _) (NS.ite (fun a => ?_) (fun a => ?_))
  · have a : k < 10 := by have a : decide ((k : Int) < 10) = true := a; have := of_decide_eq_true a; omega
    have hs := encL_snoc (numsB b) k (by omega)
    have hp := hpre k
    have hin := hN ((numsB b).getD k default) (by rw [getD_lt (by omega : k < (numsB b).length)]; exact List.getElem_mem _)
    have hl9 := encI_len hin
    rcases (by omega : k = 0 ∨ k = 1 ∨ k = 2 ∨ k = 3 ∨ k = 4 ∨ k = 5 ∨ k = 6 ∨ k = 7 ∨ k = 8 ∨ k = 9) with rfl | rfl | rfl | rfl | rfl | rfl | rfl | rfl | rfl | rfl
    · repeat' (refine Sat.go (Eq.refl _) ?_; first | (refine NS.no (rfl) ?_) | (refine NS.yes (rfl) ?_) | (refine NS.chk (by kernel_rfl) ?_) | (refine NS.call (intS_ok hin) rfl ?_))
      refine Sat.go (Eq.refl _) (NS.need (decide_eq_true (by simp only [maxRow]; show (((encI 3 ++ [77, 66, 49]) ++ encL ((numsB b).take 0)).length + (bs (encI ((numsB b).getD 0 default))).size) * 2 ≤ _; rw [bs_len, List.length_append]; omega)) ?_)
      refine Sat.go (Eq.refl _) (NS.next ⟨0 + 1, by omega⟩ (by show 10 - (0 + 1) < 10 - 0; omega) ?_)
      refine weak_hd [(26, 40)] rfl ⟨rfl, rfl, rfl, ren_int rfl (i64_k (k := 0) (n := 10) (by omega) (by omega)), trivial⟩ ⟨⟨_, rfl, renBun _ b⟩, ?_, trivial⟩ trivial (by kernel_rfl)
      refine ren_row rfl ?_ fun i hi j hj => ?_
      · show ((encI 3 ++ [77, 66, 49]) ++ encL ((numsB b).take 0)).length + (bs (encI ((numsB b).getD 0 default))).size = _
        rw [hs, bs_len, ← List.append_assoc]; simp only [List.length_append]
      · show (if i < ((encI 3 ++ [77, 66, 49]) ++ encL ((numsB b).take 0)).length then rowL bC ((encI 3 ++ [77, 66, 49]) ++ encL ((numsB b).take 0)) i j else strEl (bs (encI ((numsB b).getD 0 default))) (i - ((encI 3 ++ [77, 66, 49]) ++ encL ((numsB b).take 0)).length) j) = rowL bC ((encI 3 ++ [77, 66, 49]) ++ encL ((numsB b).take (0 + 1))) i j
        rw [strEl_bs encI_mem _ j hj, rowL_append, hs, List.append_assoc]
    · repeat' (refine Sat.go (Eq.refl _) ?_; first | (refine NS.no (rfl) ?_) | (refine NS.yes (rfl) ?_) | (refine NS.chk (by kernel_rfl) ?_) | (refine NS.call (intS_ok hin) rfl ?_))
      refine Sat.go (Eq.refl _) (NS.need (decide_eq_true (by simp only [maxRow]; show (((encI 3 ++ [77, 66, 49]) ++ encL ((numsB b).take 1)).length + (bs (encI ((numsB b).getD 1 default))).size) * 2 ≤ _; rw [bs_len, List.length_append]; omega)) ?_)
      refine Sat.go (Eq.refl _) (NS.next ⟨1 + 1, by omega⟩ (by show 10 - (1 + 1) < 10 - 1; omega) ?_)
      refine weak_hd [(26, 40)] rfl ⟨rfl, rfl, rfl, ren_int rfl (i64_k (k := 1) (n := 10) (by omega) (by omega)), trivial⟩ ⟨⟨_, rfl, renBun _ b⟩, ?_, trivial⟩ trivial (by kernel_rfl)
      refine ren_row rfl ?_ fun i hi j hj => ?_
      · show ((encI 3 ++ [77, 66, 49]) ++ encL ((numsB b).take 1)).length + (bs (encI ((numsB b).getD 1 default))).size = _
        rw [hs, bs_len, ← List.append_assoc]; simp only [List.length_append]
      · show (if i < ((encI 3 ++ [77, 66, 49]) ++ encL ((numsB b).take 1)).length then rowL bC ((encI 3 ++ [77, 66, 49]) ++ encL ((numsB b).take 1)) i j else strEl (bs (encI ((numsB b).getD 1 default))) (i - ((encI 3 ++ [77, 66, 49]) ++ encL ((numsB b).take 1)).length) j) = rowL bC ((encI 3 ++ [77, 66, 49]) ++ encL ((numsB b).take (1 + 1))) i j
        rw [strEl_bs encI_mem _ j hj, rowL_append, hs, List.append_assoc]
    · repeat' (refine Sat.go (Eq.refl _) ?_; first | (refine NS.no (rfl) ?_) | (refine NS.yes (rfl) ?_) | (refine NS.chk (by kernel_rfl) ?_) | (refine NS.call (intS_ok hin) rfl ?_))
      refine Sat.go (Eq.refl _) (NS.need (decide_eq_true (by simp only [maxRow]; show (((encI 3 ++ [77, 66, 49]) ++ encL ((numsB b).take 2)).length + (bs (encI ((numsB b).getD 2 default))).size) * 2 ≤ _; rw [bs_len, List.length_append]; omega)) ?_)
      refine Sat.go (Eq.refl _) (NS.next ⟨2 + 1, by omega⟩ (by show 10 - (2 + 1) < 10 - 2; omega) ?_)
      refine weak_hd [(26, 40)] rfl ⟨rfl, rfl, rfl, ren_int rfl (i64_k (k := 2) (n := 10) (by omega) (by omega)), trivial⟩ ⟨⟨_, rfl, renBun _ b⟩, ?_, trivial⟩ trivial (by kernel_rfl)
      refine ren_row rfl ?_ fun i hi j hj => ?_
      · show ((encI 3 ++ [77, 66, 49]) ++ encL ((numsB b).take 2)).length + (bs (encI ((numsB b).getD 2 default))).size = _
        rw [hs, bs_len, ← List.append_assoc]; simp only [List.length_append]
      · show (if i < ((encI 3 ++ [77, 66, 49]) ++ encL ((numsB b).take 2)).length then rowL bC ((encI 3 ++ [77, 66, 49]) ++ encL ((numsB b).take 2)) i j else strEl (bs (encI ((numsB b).getD 2 default))) (i - ((encI 3 ++ [77, 66, 49]) ++ encL ((numsB b).take 2)).length) j) = rowL bC ((encI 3 ++ [77, 66, 49]) ++ encL ((numsB b).take (2 + 1))) i j
        rw [strEl_bs encI_mem _ j hj, rowL_append, hs, List.append_assoc]
    · repeat' (refine Sat.go (Eq.refl _) ?_; first | (refine NS.no (rfl) ?_) | (refine NS.yes (rfl) ?_) | (refine NS.chk (by kernel_rfl) ?_) | (refine NS.call (intS_ok hin) rfl ?_))
      refine Sat.go (Eq.refl _) (NS.need (decide_eq_true (by simp only [maxRow]; show (((encI 3 ++ [77, 66, 49]) ++ encL ((numsB b).take 3)).length + (bs (encI ((numsB b).getD 3 default))).size) * 2 ≤ _; rw [bs_len, List.length_append]; omega)) ?_)
      refine Sat.go (Eq.refl _) (NS.next ⟨3 + 1, by omega⟩ (by show 10 - (3 + 1) < 10 - 3; omega) ?_)
      refine weak_hd [(26, 40)] rfl ⟨rfl, rfl, rfl, ren_int rfl (i64_k (k := 3) (n := 10) (by omega) (by omega)), trivial⟩ ⟨⟨_, rfl, renBun _ b⟩, ?_, trivial⟩ trivial (by kernel_rfl)
      refine ren_row rfl ?_ fun i hi j hj => ?_
      · show ((encI 3 ++ [77, 66, 49]) ++ encL ((numsB b).take 3)).length + (bs (encI ((numsB b).getD 3 default))).size = _
        rw [hs, bs_len, ← List.append_assoc]; simp only [List.length_append]
      · show (if i < ((encI 3 ++ [77, 66, 49]) ++ encL ((numsB b).take 3)).length then rowL bC ((encI 3 ++ [77, 66, 49]) ++ encL ((numsB b).take 3)) i j else strEl (bs (encI ((numsB b).getD 3 default))) (i - ((encI 3 ++ [77, 66, 49]) ++ encL ((numsB b).take 3)).length) j) = rowL bC ((encI 3 ++ [77, 66, 49]) ++ encL ((numsB b).take (3 + 1))) i j
        rw [strEl_bs encI_mem _ j hj, rowL_append, hs, List.append_assoc]
    · repeat' (refine Sat.go (Eq.refl _) ?_; first | (refine NS.no (rfl) ?_) | (refine NS.yes (rfl) ?_) | (refine NS.chk (by kernel_rfl) ?_) | (refine NS.call (intS_ok hin) rfl ?_))
      refine Sat.go (Eq.refl _) (NS.need (decide_eq_true (by simp only [maxRow]; show (((encI 3 ++ [77, 66, 49]) ++ encL ((numsB b).take 4)).length + (bs (encI ((numsB b).getD 4 default))).size) * 2 ≤ _; rw [bs_len, List.length_append]; omega)) ?_)
      refine Sat.go (Eq.refl _) (NS.next ⟨4 + 1, by omega⟩ (by show 10 - (4 + 1) < 10 - 4; omega) ?_)
      refine weak_hd [(26, 40)] rfl ⟨rfl, rfl, rfl, ren_int rfl (i64_k (k := 4) (n := 10) (by omega) (by omega)), trivial⟩ ⟨⟨_, rfl, renBun _ b⟩, ?_, trivial⟩ trivial (by kernel_rfl)
      refine ren_row rfl ?_ fun i hi j hj => ?_
      · show ((encI 3 ++ [77, 66, 49]) ++ encL ((numsB b).take 4)).length + (bs (encI ((numsB b).getD 4 default))).size = _
        rw [hs, bs_len, ← List.append_assoc]; simp only [List.length_append]
      · show (if i < ((encI 3 ++ [77, 66, 49]) ++ encL ((numsB b).take 4)).length then rowL bC ((encI 3 ++ [77, 66, 49]) ++ encL ((numsB b).take 4)) i j else strEl (bs (encI ((numsB b).getD 4 default))) (i - ((encI 3 ++ [77, 66, 49]) ++ encL ((numsB b).take 4)).length) j) = rowL bC ((encI 3 ++ [77, 66, 49]) ++ encL ((numsB b).take (4 + 1))) i j
        rw [strEl_bs encI_mem _ j hj, rowL_append, hs, List.append_assoc]
    · repeat' (refine Sat.go (Eq.refl _) ?_; first | (refine NS.no (rfl) ?_) | (refine NS.yes (rfl) ?_) | (refine NS.chk (by kernel_rfl) ?_) | (refine NS.call (intS_ok hin) rfl ?_))
      refine Sat.go (Eq.refl _) (NS.need (decide_eq_true (by simp only [maxRow]; show (((encI 3 ++ [77, 66, 49]) ++ encL ((numsB b).take 5)).length + (bs (encI ((numsB b).getD 5 default))).size) * 2 ≤ _; rw [bs_len, List.length_append]; omega)) ?_)
      refine Sat.go (Eq.refl _) (NS.next ⟨5 + 1, by omega⟩ (by show 10 - (5 + 1) < 10 - 5; omega) ?_)
      refine weak_hd [(26, 40)] rfl ⟨rfl, rfl, rfl, ren_int rfl (i64_k (k := 5) (n := 10) (by omega) (by omega)), trivial⟩ ⟨⟨_, rfl, renBun _ b⟩, ?_, trivial⟩ trivial (by kernel_rfl)
      refine ren_row rfl ?_ fun i hi j hj => ?_
      · show ((encI 3 ++ [77, 66, 49]) ++ encL ((numsB b).take 5)).length + (bs (encI ((numsB b).getD 5 default))).size = _
        rw [hs, bs_len, ← List.append_assoc]; simp only [List.length_append]
      · show (if i < ((encI 3 ++ [77, 66, 49]) ++ encL ((numsB b).take 5)).length then rowL bC ((encI 3 ++ [77, 66, 49]) ++ encL ((numsB b).take 5)) i j else strEl (bs (encI ((numsB b).getD 5 default))) (i - ((encI 3 ++ [77, 66, 49]) ++ encL ((numsB b).take 5)).length) j) = rowL bC ((encI 3 ++ [77, 66, 49]) ++ encL ((numsB b).take (5 + 1))) i j
        rw [strEl_bs encI_mem _ j hj, rowL_append, hs, List.append_assoc]
    · repeat' (refine Sat.go (Eq.refl _) ?_; first | (refine NS.no (rfl) ?_) | (refine NS.yes (rfl) ?_) | (refine NS.chk (by kernel_rfl) ?_) | (refine NS.call (intS_ok hin) rfl ?_))
      refine Sat.go (Eq.refl _) (NS.need (decide_eq_true (by simp only [maxRow]; show (((encI 3 ++ [77, 66, 49]) ++ encL ((numsB b).take 6)).length + (bs (encI ((numsB b).getD 6 default))).size) * 2 ≤ _; rw [bs_len, List.length_append]; omega)) ?_)
      refine Sat.go (Eq.refl _) (NS.next ⟨6 + 1, by omega⟩ (by show 10 - (6 + 1) < 10 - 6; omega) ?_)
      refine weak_hd [(26, 40)] rfl ⟨rfl, rfl, rfl, ren_int rfl (i64_k (k := 6) (n := 10) (by omega) (by omega)), trivial⟩ ⟨⟨_, rfl, renBun _ b⟩, ?_, trivial⟩ trivial (by kernel_rfl)
      refine ren_row rfl ?_ fun i hi j hj => ?_
      · show ((encI 3 ++ [77, 66, 49]) ++ encL ((numsB b).take 6)).length + (bs (encI ((numsB b).getD 6 default))).size = _
        rw [hs, bs_len, ← List.append_assoc]; simp only [List.length_append]
      · show (if i < ((encI 3 ++ [77, 66, 49]) ++ encL ((numsB b).take 6)).length then rowL bC ((encI 3 ++ [77, 66, 49]) ++ encL ((numsB b).take 6)) i j else strEl (bs (encI ((numsB b).getD 6 default))) (i - ((encI 3 ++ [77, 66, 49]) ++ encL ((numsB b).take 6)).length) j) = rowL bC ((encI 3 ++ [77, 66, 49]) ++ encL ((numsB b).take (6 + 1))) i j
        rw [strEl_bs encI_mem _ j hj, rowL_append, hs, List.append_assoc]
    · repeat' (refine Sat.go (Eq.refl _) ?_; first | (refine NS.no (rfl) ?_) | (refine NS.yes (rfl) ?_) | (refine NS.chk (by kernel_rfl) ?_) | (refine NS.call (intS_ok hin) rfl ?_))
      refine Sat.go (Eq.refl _) (NS.need (decide_eq_true (by simp only [maxRow]; show (((encI 3 ++ [77, 66, 49]) ++ encL ((numsB b).take 7)).length + (bs (encI ((numsB b).getD 7 default))).size) * 2 ≤ _; rw [bs_len, List.length_append]; omega)) ?_)
      refine Sat.go (Eq.refl _) (NS.next ⟨7 + 1, by omega⟩ (by show 10 - (7 + 1) < 10 - 7; omega) ?_)
      refine weak_hd [(26, 40)] rfl ⟨rfl, rfl, rfl, ren_int rfl (i64_k (k := 7) (n := 10) (by omega) (by omega)), trivial⟩ ⟨⟨_, rfl, renBun _ b⟩, ?_, trivial⟩ trivial (by kernel_rfl)
      refine ren_row rfl ?_ fun i hi j hj => ?_
      · show ((encI 3 ++ [77, 66, 49]) ++ encL ((numsB b).take 7)).length + (bs (encI ((numsB b).getD 7 default))).size = _
        rw [hs, bs_len, ← List.append_assoc]; simp only [List.length_append]
      · show (if i < ((encI 3 ++ [77, 66, 49]) ++ encL ((numsB b).take 7)).length then rowL bC ((encI 3 ++ [77, 66, 49]) ++ encL ((numsB b).take 7)) i j else strEl (bs (encI ((numsB b).getD 7 default))) (i - ((encI 3 ++ [77, 66, 49]) ++ encL ((numsB b).take 7)).length) j) = rowL bC ((encI 3 ++ [77, 66, 49]) ++ encL ((numsB b).take (7 + 1))) i j
        rw [strEl_bs encI_mem _ j hj, rowL_append, hs, List.append_assoc]
    · repeat' (refine Sat.go (Eq.refl _) ?_; first | (refine NS.no (rfl) ?_) | (refine NS.yes (rfl) ?_) | (refine NS.chk (by kernel_rfl) ?_) | (refine NS.call (intS_ok hin) rfl ?_))
      refine Sat.go (Eq.refl _) (NS.need (decide_eq_true (by simp only [maxRow]; show (((encI 3 ++ [77, 66, 49]) ++ encL ((numsB b).take 8)).length + (bs (encI ((numsB b).getD 8 default))).size) * 2 ≤ _; rw [bs_len, List.length_append]; omega)) ?_)
      refine Sat.go (Eq.refl _) (NS.next ⟨8 + 1, by omega⟩ (by show 10 - (8 + 1) < 10 - 8; omega) ?_)
      refine weak_hd [(26, 40)] rfl ⟨rfl, rfl, rfl, ren_int rfl (i64_k (k := 8) (n := 10) (by omega) (by omega)), trivial⟩ ⟨⟨_, rfl, renBun _ b⟩, ?_, trivial⟩ trivial (by kernel_rfl)
      refine ren_row rfl ?_ fun i hi j hj => ?_
      · show ((encI 3 ++ [77, 66, 49]) ++ encL ((numsB b).take 8)).length + (bs (encI ((numsB b).getD 8 default))).size = _
        rw [hs, bs_len, ← List.append_assoc]; simp only [List.length_append]
      · show (if i < ((encI 3 ++ [77, 66, 49]) ++ encL ((numsB b).take 8)).length then rowL bC ((encI 3 ++ [77, 66, 49]) ++ encL ((numsB b).take 8)) i j else strEl (bs (encI ((numsB b).getD 8 default))) (i - ((encI 3 ++ [77, 66, 49]) ++ encL ((numsB b).take 8)).length) j) = rowL bC ((encI 3 ++ [77, 66, 49]) ++ encL ((numsB b).take (8 + 1))) i j
        rw [strEl_bs encI_mem _ j hj, rowL_append, hs, List.append_assoc]
    · repeat' (refine Sat.go (Eq.refl _) ?_; first | (refine NS.no (rfl) ?_) | (refine NS.yes (rfl) ?_) | (refine NS.chk (by kernel_rfl) ?_) | (refine NS.call (intS_ok hin) rfl ?_))
      refine Sat.go (Eq.refl _) (NS.need (decide_eq_true (by simp only [maxRow]; show (((encI 3 ++ [77, 66, 49]) ++ encL ((numsB b).take 9)).length + (bs (encI ((numsB b).getD 9 default))).size) * 2 ≤ _; rw [bs_len, List.length_append]; omega)) ?_)
      refine Sat.go (Eq.refl _) (NS.next ⟨9 + 1, by omega⟩ (by show 10 - (9 + 1) < 10 - 9; omega) ?_)
      refine weak_hd [(26, 40)] rfl ⟨rfl, rfl, rfl, ren_int rfl (i64_k (k := 9) (n := 10) (by omega) (by omega)), trivial⟩ ⟨⟨_, rfl, renBun _ b⟩, ?_, trivial⟩ trivial (by kernel_rfl)
      refine ren_row rfl ?_ fun i hi j hj => ?_
      · show ((encI 3 ++ [77, 66, 49]) ++ encL ((numsB b).take 9)).length + (bs (encI ((numsB b).getD 9 default))).size = _
        rw [hs, bs_len, ← List.append_assoc]; simp only [List.length_append]
      · show (if i < ((encI 3 ++ [77, 66, 49]) ++ encL ((numsB b).take 9)).length then rowL bC ((encI 3 ++ [77, 66, 49]) ++ encL ((numsB b).take 9)) i j else strEl (bs (encI ((numsB b).getD 9 default))) (i - ((encI 3 ++ [77, 66, 49]) ++ encL ((numsB b).take 9)).length) j) = rowL bC ((encI 3 ++ [77, 66, 49]) ++ encL ((numsB b).take (9 + 1))) i j
        rw [strEl_bs encI_mem _ j hj, rowL_append, hs, List.append_assoc]
  have a : k = 10 := by have a : decide ((k : Int) < 10) = false := a; have := of_decide_eq_false a; omega
  subst a
  refine Sat.go (Eq.refl _) (NS.leave rfl (Eq.refl _) ?_)
  refine Sat.go (Eq.refl _) (NS.call (kEncAll_ok b.l hz.2) rfl ?_)
  refine Sat.go (Eq.refl _) (NS.call (textS_ok (s := b.pay) (by have := pay_len hz.1.2.2.2.2.2.2.2; omega)) rfl ?_)
  refine Sat.go (Eq.refl _) (NS.need (allN_row fun i hi => rfl) ?_)
  rw [bytesOf_row ((encI 3 ++ [77, 66, 49]) ++ encL ((numsB b).take 10))]
  repeat' (refine Sat.go (Eq.refl _) ?_; first | (refine NS.no (rfl) ?_) | (refine NS.yes (rfl) ?_) | (refine NS.chk (by kernel_rfl) ?_) | (refine NS.need ((decide_eq_true (by simp only [maxRow, ByteArray.size_append, bs_len]; omega))) ?_) | (refine NS.call (sealS_ok hl (by omega)) rfl ?_))
  exact Sat.go (Eq.refl _) (NS.ret rfl rfl (LeA.refl _))
end Go.Proofs.YtdhfgfkfejpfdaaGreat
