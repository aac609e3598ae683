/- The reference's bytes of blocks and bundles; its tag. -/
import Derived.Test.YtdhfgfkfejpfdaaGreatKRB
import Derived.Test.YtdhfgfkfejpfdaaGreatKZA
import Derived.Test.YtdhfgfkfejpfdaaGreatKI
set_option linter.unusedSimpArgs false
set_option linter.unusedSectionVars false
set_option linter.unusedVariables false
namespace Go.Mb
open Go.Sy
set_option linter.unusedVariables false
def rr (l : List Blk) : Nat → List Blk
  | 0 => l
  | j + 1 => remB (rr l j) ((j : Int) + 1)
theorem rr_len (l : List Blk) : ∀ j, (rr l j).length ≤ l.length
  | 0 => Nat.le_refl _
  | j + 1 => Nat.le_trans (List.length_filter_le _ _) (rr_len l j)
theorem rr4 (l : List Blk) : rr l 4 = rem4 l := rfl
end Go.Mb
namespace Go.Proofs.YtdhfgfkfejpfdaaGreat
open Go.Sy Go.Mb
set_option maxRecDepth 100000
set_option linter.unusedVariables false
set_option maxHeartbeats 4000000

theorem rIntS_ok {n : Int} (h : inI n = true) : FnOK Tryz.prog 67 [.int .i64 n] (.tup [.str (bs (encI n)), .int .i64 0], none) := by
  have c := rInt_ok n
  rwa [intM_ok h] at c
theorem rTextS_ok {s : ByteArray} (h : s.size ≤ 65536) : FnOK Tryz.prog 66 [.str s] (.tup [.str (bs (payL s)), .int .i64 0], none) := by
  have c := rText_ok s
  rwa [textM_ok h] at c
theorem rSealS_ok {s : ByteArray} {l : List Nat} (h : ls s = l) (hl : l.length ≤ 65536) : FnOK Tryz.prog 69 [.str s] (.tup [.str (bs (sealL l)), .int .i64 0], none) := by
  have c := rSeal_ok s
  rwa [sealM_ok h hl] at c
theorem rKEnc_ok (x : Blk) (h : chkK x = 0) : FnOK Tryz.prog 83 [.agg x.cells] (.tup [.str (bs (encB x)), .int .i64 0], none) := by
  have hz := chkK_zero.1 h
  have c := rK_ok x
  rw [h] at c
  have hk := inI_of (n := x.kind) (by omega) (by omega)
  have hf := inI_of (n := x.flags) (by omega) (by omega)
  have hi := encB_in h
  have hl : ls (bs (encI x.kind) ++ bs (encI x.flags) ++ bs (payL x.data)) = encI x.kind ++ encI x.flags ++ payL x.data := by
    rw [ls_append, ls_append, ls_bs encI_mem, ls_bs encI_mem, ls_bs (payL_lt _)]
  have hk1 := encI_len hk
  have hf1 := encI_len hf
  have hp1 := payL_len (s := x.data) (by omega)
  refine fn_ok CN rfl (by kernel_rfl) Tryz.func83 rfl ?_
  repeat' (refine Sat.go (Eq.refl _) ?_; first | (refine NS.no (rfl) ?_) | (refine NS.yes (rfl) ?_) | (refine NS.chk (by kernel_rfl) ?_) | (refine NS.need ((decide_eq_true (by simp only [maxRow, ByteArray.size_append, bs_len]; omega))) ?_) | (refine NS.call (c) rfl ?_) | (refine NS.call (rIntS_ok hk) rfl ?_) | (refine NS.call (rIntS_ok hf) rfl ?_) | (refine NS.call (rTextS_ok (s := x.data) (by omega)) rfl ?_) | (refine NS.call (rSealS_ok hl (by omega)) rfl ?_))
  exact Sat.go (Eq.refl _) (NS.ret rfl rfl (LeA.refl _))
theorem rKEncAll_ok (l : List Blk) (h : GoodL l) : FnOK Tryz.prog 68 [slBlk l] (.tup [.str (bs (encBs l)), .int .i64 0], none) := by
  have hn := h.1
  have hi := inI_nat (n := l.length) (by omega)
  have hi1 := encI_len hi
  refine fn_ok CN rfl (by kernel_rfl) Tryz.func68 rfl ?_
  refine Sat.go (Eq.refl _) (NS.call (rCheckAll_ok l h) rfl ?_)
  refine Sat.go (Eq.refl _) (NS.no (rfl) ?_)
  refine Sat.go (Eq.refl _) (NS.call (rIntS_ok hi) rfl ?_)
  refine Sat.go (Eq.refl _) ?_
  refine NS.loop (σ := { k : Nat // k ≤ l.length }) (fun k => [(0, slBlk l), (5, .str (bs (encI l.length ++ (l.take k.1).flatMap encB))), (7, .int .i64 k.1)]) (fun k => []) (fun k => l.length - k.1) ⟨0, Nat.zero_le _⟩ ?_ ?_
  · exact weak_hd [] rfl ⟨rfl, ren_str rfl (by simp), rfl, trivial⟩ trivial trivial (by kernel_rfl)
  rintro ⟨k, hk⟩
  have hk : k ≤ l.length := hk
  refine Sat.go (Eq.refl _) (NS.ite (fun a => ?_) (fun a => ?_))
  · have a : k < l.length := by simpa using a
    refine Sat.go (Eq.refl _) (NS.need (by simp; omega) ?_)
    have hx : l.getD k default ∈ l := by rw [getD_lt a]; exact List.getElem_mem a
    have hz := h.2.1 _ hx
    have hy := encB_len hz
    have hfl := flat_len (l := l.take k) fun y hy => h.2.1 y (List.mem_of_mem_take hy)
    rw [List.length_take] at hfl
    have e : (l.take (k + 1)).flatMap encB = (l.take k).flatMap encB ++ encB (l.getD k default) := by rw [take_snoc a]; simp
    refine Sat.go (Eq.refl _) (NS.call (rKEnc_ok _ hz) rfl ?_)
    refine Sat.go (Eq.refl _) (NS.need (decide_eq_true (by show (bs (encI l.length ++ (l.take k).flatMap encB)).size + (bs (encB (l.getD k default))).size ≤ _; rw [bs_len, bs_len, List.length_append]; omega)) ?_)
    refine Sat.go (Eq.refl _) (NS.next ⟨k + 1, by omega⟩ (by show l.length - (k + 1) < l.length - k; omega) ?_)
    exact weak_hd [] rfl ⟨rfl, ren_str rfl (by show bs (encI l.length ++ (l.take k).flatMap encB) ++ bs (encB (l.getD k default)) = bs (encI l.length ++ (l.take (k + 1)).flatMap encB); rw [e, ← bs_append, List.append_assoc]), ren_int rfl (i64_k (k := k) (n := l.length) a (by omega)), trivial⟩ trivial trivial (by kernel_rfl)
  have a : k = l.length := by have a : ¬ k < l.length := by simpa using a
                              omega
  subst a
  refine Sat.go (Eq.refl _) (NS.leave rfl (Eq.refl _) ?_)
  exact Sat.go (Eq.refl _) (NS.ret rfl rfl (LeA.of (congrArg (fun y => A.tup [.str y, .int .i64 0]) (by show bs (encI l.length ++ (l.take l.length).flatMap encB) = bs (encBs l); rw [List.take_length]; rfl))))
theorem rBEnc_ok (b : Bun) (h : chkB b = 0) : FnOK Tryz.prog 45 [.agg b.cells] (.tup [.str (bs (encBun b)), .int .i64 0], none) := by
  have hz := chkB_zero.1 h
  have c := rCheckB_ok b
  rw [h] at c
  have hM : payL (bs [77, 66, 49]) = encI 3 ++ [77, 66, 49] := rfl
  have c3 := rTextS_ok (s := bs [77, 66, 49]) (by decide)
  rw [hM] at c3
  have h3 := encI3_len
  have hbl := bodyB_len hz.1 hz.2
  have hl : ls (bs ((encI 3 ++ [77, 66, 49]) ++ encL ((numsB b).take 10)) ++ bs (encBs b.l) ++ bs (payL b.pay)) = bodyB b := by
    rw [ls_append, ls_append, ls_bs fun y hy => ?_, ls_bs (encBs_lt _), ls_bs (payL_lt _)]
    · rfl
    · rcases List.mem_append.1 hy with hy | hy
      · exact head_lt y hy
      · exact encL_lt' _ y hy
  have hl2 := congrArg List.length hl
  rw [ls_len, ByteArray.size_append, ByteArray.size_append, bs_len, bs_len, bs_len] at hl2
  have hN := numsB_ok hz.1
  have hNl : (numsB b).length = 10 := rfl
  have hEl := encL_len hN
  have hpre : ∀ k, (encL ((numsB b).take k)).length ≤ 90 := fun k => by
    have := encL_len (l := (numsB b).take k) fun x hx => hN x (List.mem_of_mem_take hx)
    rw [List.length_take] at this; omega
  refine fn_ok CN rfl (by kernel_rfl) Tryz.func45 rfl ?_
  refine Sat.go (Eq.refl _) (NS.call (c) rfl ?_)
  refine Sat.go (Eq.refl _) (NS.no (rfl) ?_)
  refine Sat.go (Eq.refl _) (NS.call (c3) rfl ?_)
  refine Sat.go (Eq.refl _) ?_
  refine NS.loop (σ := { k : Nat // k ≤ 10 }) (fun k => [(1, .ptr 1 0), (5, .str (bs ((encI 3 ++ [77, 66, 49]) ++ encL ((numsB b).take k.1)))), (7, .own 51), (8, .int .i64 k.1)]) (fun k => [(1, .box b.cells), (51, .row 3 1 10 (rowL nC (numsB b)))]) (fun k => 10 - k.1) ⟨0, by omega⟩ ?_ ?_
  · refine weak_hd [] rfl ⟨rfl, ren_str rfl (by simp [encL]), rfl, rfl, trivial⟩ ⟨⟨_, rfl, renBun _ b⟩, ren_row rfl rfl fun i hi j hj => ?_, trivial⟩ trivial (by kernel_rfl)
    have hi : i < 10 := hi
    obtain rfl : j = 0 := by have hj : j < 1 := hj; omega
    rcases (by omega : i = 0 ∨ i = 1 ∨ i = 2 ∨ i = 3 ∨ i = 4 ∨ i = 5 ∨ i = 6 ∨ i = 7 ∨ i = 8 ∨ i = 9) with rfl | rfl | rfl | rfl | rfl | rfl | rfl | rfl | rfl | rfl <;> rfl
  rintro ⟨k, hk⟩
  have hk : k ≤ 10 := hk
  refine Sat.go (Eq.refl _) (NS.ite (fun a => ?_) (fun a => ?_))
  · have a : k < 10 := by have a : decide ((k : Int) < 10) = true := a; have := of_decide_eq_true a; omega
    have hs := encL_snoc (numsB b) k (by omega)
    have hp := hpre k
    have hin := hN ((numsB b).getD k default) (by rw [getD_lt (by omega : k < (numsB b).length)]; exact List.getElem_mem _)
    have hl9 := encI_len hin
    refine Sat.go (Eq.refl _) (NS.need (by show decide (0 ≤ (k : Int) ∧ (k : Int) < ((10 : Nat) : Int)) = true; exact decide_eq_true (by omega)) ?_)
    refine Sat.go (Eq.refl _) (NS.need (by show decide (((k : Nat) : Int).toNat < 10) = true; exact decide_eq_true (by omega)) ?_)
    refine Sat.go (Eq.refl _) (NS.call (rIntS_ok hin) rfl ?_)
    refine Sat.go (Eq.refl _) (NS.need (decide_eq_true (by show (bs ((encI 3 ++ [77, 66, 49]) ++ encL ((numsB b).take k))).size + (bs (encI ((numsB b).getD k default))).size ≤ _; rw [bs_len, bs_len, List.length_append]; omega)) ?_)
    refine Sat.go (Eq.refl _) (NS.next ⟨k + 1, by omega⟩ (by show 10 - (k + 1) < 10 - k; omega) ?_)
    exact weak_hd [] rfl ⟨rfl, ren_str rfl (by show bs ((encI 3 ++ [77, 66, 49]) ++ encL ((numsB b).take k)) ++ bs (encI ((numsB b).getD k default)) = bs ((encI 3 ++ [77, 66, 49]) ++ encL ((numsB b).take (k + 1))); rw [hs, ← bs_append, List.append_assoc]), rfl, ren_int rfl (i64_k (k := k) (n := 10) a (by omega)), trivial⟩ ⟨⟨_, rfl, renBun _ b⟩, ren_row rfl rfl fun _ _ _ _ => rfl, trivial⟩ trivial (by kernel_rfl)
  have a : k = 10 := by have a : decide ((k : Int) < 10) = false := a; have := of_decide_eq_false a; omega
  subst a
  refine Sat.go (Eq.refl _) (NS.leave rfl (Eq.refl _) ?_)
  refine Sat.go (Eq.refl _) (NS.call (rKEncAll_ok b.l hz.2) rfl ?_)
  refine Sat.go (Eq.refl _) (NS.call (rTextS_ok (s := b.pay) (by have := pay_len hz.1.2.2.2.2.2.2.2; omega)) rfl ?_)
  repeat' (refine Sat.go (Eq.refl _) ?_; first | (refine NS.no (rfl) ?_) | (refine NS.yes (rfl) ?_) | (refine NS.chk (by kernel_rfl) ?_) | (refine NS.need ((decide_eq_true (by simp only [maxRow, ByteArray.size_append, bs_len]; omega))) ?_) | (refine NS.call (rSealS_ok hl (by omega)) rfl ?_))
  exact Sat.go (Eq.refl _) (NS.ret rfl rfl (LeA.refl _))
theorem rTag_ok (b : Bun) (h : chkB b = 0) (n : Int) (hn : okN n) (key : ByteArray) (hk : key.size = 16) : FnOK Tryz.prog 25 [.agg b.cells, .int .i64 n, .str key] (.str (bs (sgnM b n.toNat key)), none) := by
  have hn2 := hn
  unfold okN at hn2
  obtain ⟨m, rfl⟩ : ∃ m : Nat, n = m := ⟨n.toNat, by omega⟩
  have hnt : ((m : Nat) : Int).toNat = m := by omega
  have hw : IntKind.u8.wrap ((m : Nat) : Int) = ((m : Nat) : Int) := by rw [wrap_u8m]; omega
  have hb : bytesOf (fun i j => getA [A.int .u8 (IntKind.u8.wrap (m : Int))] (i * 1 + j)) 1 = bs [m] := by rw [hw]; exact bytes1 m
  have hsd : (sdt b).length ≤ 15000 := encBun_len (b := { b with l := rem4 b.l }) (chkB_zero.1 h).1 (rem4_good (goodL_of h))
  have hc := chnL_msg m (sdt b) (by omega) (encBun_lt _)
  have hml : (msgL m (sdt b)).length = 17 + (sdt b).length := by
    unfold msgL
    simp only [List.length_append, List.length_singleton, bytesN_len]
  have c := rChain_ok key [bs [m], bs (sdt b)] hk (by rw [hc, hml]; omega) (by show 2 ≤ 1000; decide)
  rw [hc] at c
  have hb8 := (goodL_of h).1
  refine fn_ok CN rfl (by kernel_rfl) Tryz.func25 rfl ?_
  refine Sat.go (Eq.refl _) ?_
  refine NS.loop (σ := { j : Nat // j ≤ 4 }) (fun j => [(1, .int .i64 m), (2, .str key), (3, .ptr 3 0), (7, .int .i64 ((j.1 : Int) + 1))]) (fun j => [(3, .box ({ b with l := rr b.l j.1 } : Bun).cells)]) (fun j => 4 - j.1) ⟨0, by omega⟩ ?_ ?_
  · exact weak_hd [] rfl ⟨rfl, rfl, rfl, rfl, trivial⟩ ⟨⟨_, rfl, renBun _ b⟩, trivial⟩ trivial (by kernel_rfl)
  rintro ⟨j, hj⟩
  have hj : j ≤ 4 := hj
  refine Sat.go (Eq.refl _) (NS.ite (fun a => ?_) (fun a => ?_))
  · have a : j < 4 := by have a : decide ((j : Int) + 1 ≤ 4) = true := a; have := of_decide_eq_true a; omega
    refine Sat.go (Eq.refl _) (NS.call (rRemove_ok (rr b.l j) (by have := rr_len b.l j; omega) ((j : Int) + 1)) rfl ?_)
    refine Sat.go (Eq.refl _) (NS.next ⟨j + 1, by omega⟩ (by show 4 - (j + 1) < 4 - j; omega) ?_)
    exact weak_hd [] rfl ⟨rfl, rfl, rfl, ren_int rfl (by show IntKind.i64.wrap ((j : Int) + 1 + 1) = ((j + 1 : Nat) : Int) + 1; rw [wrap_i64 (by omega) (by omega)]; omega), trivial⟩ ⟨⟨_, rfl, renBun _ { b with l := rr b.l (j + 1) }⟩, trivial⟩ trivial (by kernel_rfl)
  have a : j = 4 := by have a : decide ((j : Int) + 1 ≤ 4) = false := a; have := of_decide_eq_false a; omega
  subst a
  refine Sat.go (Eq.refl _) (NS.leave rfl (Eq.refl _) ?_)
  refine Sat.go (Eq.refl _) (NS.call (rBEnc_ok { b with l := rem4 b.l } (chkB_with h (rem4_good (goodL_of h)))) rfl ?_)
  refine Sat.go (Eq.refl _) (NS.need (allN_row fun i hi => by rw [Nat.lt_one_iff.1 hi]; rfl) ?_)
  refine Sat.go (Eq.refl _) (NS.call (c.le (LeL.cons (LeA.refl _) (LeL.cons (LeA.sl rfl (fun i hi j hj => ?_)) LeL.nil))) rfl ?_)
  · have hi : i < 2 := hi
    have hj : j < 1 := hj
    obtain rfl : j = 0 := by omega
    rcases (by omega : i = 0 ∨ i = 1) with rfl | rfl
    · exact congrArg A.str hb
    · rfl
  exact Sat.go (Eq.refl _) (NS.ret rfl rfl (LeA.refl _))
end Go.Proofs.YtdhfgfkfejpfdaaGreat
