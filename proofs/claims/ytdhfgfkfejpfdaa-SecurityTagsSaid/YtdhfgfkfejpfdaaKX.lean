/- SecurityTags. -/
import Derived.Test.YtdhfgfkfejpfdaaKYB
import Derived.Test.YtdhfgfkfejpfdaaKZA
set_option linter.unusedSimpArgs false
set_option linter.unusedSectionVars false
set_option linter.unusedVariables false
namespace Go.Mb
open Go.Sy
set_option linter.unusedVariables false
theorem chkBs_ne {l : List Blk} : chkBs l ≠ 22 ∧ chkBs l ≠ 7 := by
  have hk : ∀ x : Blk, chkK x ≠ 22 ∧ chkK x ≠ 7 := fun x => by unfold chkK; (repeat' split) <;> decide
  have hf : ∀ l : List Blk, fstE l ≠ 22 ∧ fstE l ≠ 7 := by
    intro l
    induction l with
    | nil => decide
    | cons x l ih => rw [fstE]; split; exact hk x; exact ih
  unfold chkBs
  split
  · decide
  · split
    · exact hf l
    · split <;> decide
theorem chkB_ne {b : Bun} : chkB b ≠ 22 := by
  have hd : chkDst b.dest ≠ 22 := by unfold chkDst; (repeat' split) <;> decide
  have hp : chkP b ≠ 22 := by unfold chkP; (repeat' split) <;> decide
  have hb := (chkBs_ne (l := b.l)).1
  unfold chkB
  (repeat' split) <;> first | assumption | decide
theorem verM_cases {b : Bun} {n : Int} {key : ByteArray} (h : verM b n key = 0 ∨ verM b n key = 22) : PA b n key ∧ (fndS (sgB b) n).2 = true := by
  unfold verM at h
  split at h <;> rename_i h1
  · have h1 : chkAll b n key ≠ 0 := by simpa using h1
    rcases h with h | h
    · exact absurd h h1
    · exfalso
      have hb := chkB_ne (b := b)
      unfold chkAll at h
      split at h
      · exact hb h
      · split at h
        · cases h
        · split at h
          · cases h
          · split at h <;> cases h
  have hp := chkAll_iff.1 (by simpa using h1 : chkAll b n key = 0)
  split at h <;> rename_i h2
  · rcases h with h | h <;> cases h
  · exact ⟨hp, by simpa using h2⟩
theorem verM_eq {b : Bun} {n : Int} {key : ByteArray} (h : PA b n key) {t : List Nat} (hf : fndS (sgB b) n = (t, true)) : verM b n key = if ((bs t).toList == (bs (sgnM b n.toNat key)).toList) = true then 0 else 22 := by
  unfold verM
  rw [if_neg (by rw [chkAll_iff.2 h]; simp), hf, if_neg (by simp)]
  by_cases hq : ((bs t).toList == (bs (sgnM b n.toNat key)).toList) = true
  · rw [if_pos hq, if_neg (by simp only [bne, hq]; simp)]
  · have hq2 : ((bs t).toList == (bs (sgnM b n.toNat key)).toList) = false := by simpa using hq
    rw [if_neg hq, if_pos (by simp only [bne, hq2]; simp)]
theorem rem4_keep {l : List Blk} (h : GoodL l) : keepG (fun x : Blk => decide (x.kind ≤ 4)) l = rem4 l := by
  unfold keepG rem4 remB
  simp only [List.filter_filter]
  refine List.filter_congr fun x hx => ?_
  have := (chkK_zero.1 (h.2.1 x hx)).1
  rw [Bool.eq_iff_iff]
  simp only [Bool.not_eq_true', decide_eq_false_iff_not, Bool.and_eq_true, bne_iff_ne, ne_eq]
  constructor <;> (intro hh; omega)
theorem tagS2 (s : ByteArray) (k : Nat) (h : 9 * k + 9 ≤ s.size) : s.extract ((9 * k + 1 : Nat) : Int).toNat ((9 * k + 9 : Nat) : Int).toNat = bs (((ls s).drop (9 * k + 1)).take 8) := by
  apply ls_inj
  rw [ls_extract, ls_bs (fun x hx => ls_lt s x (List.mem_of_mem_drop (List.mem_of_mem_take hx)))]
  show ((ls s).take (9 * k + 9)).drop (9 * k + 1) = _
  rw [List.drop_take]
  congr 1; omega
theorem tags_bool (x : Bool) : (x == ((if x = true then (0 : Int) else 22) == 0)) = true := by cases x <;> rfl
end Go.Mb
namespace Go.Proofs.Ytdhfgfkfejpfdaa
open Go.Sy Go.Mb
set_option maxRecDepth 100000
set_option linter.unusedVariables false
set_option maxHeartbeats 4000000

theorem tags1_ok (x : Blk) : FnOK Try.prog 17 [.agg x.cells] (.bool (decide (x.kind ≤ 4)), none) := by
  refine fn_ok CN rfl (by kernel_rfl) Try.func17 rfl ?_
  exact Sat.go (Eq.refl _) (NS.ret rfl rfl (LeA.refl _))
theorem idxB0_ok (l : List Blk) (hl : l.length ≤ 1000000) (f : Nat) (p : Blk → Bool) (hc : ∀ x, FnOK Try.prog f [.agg (Blk.cells x)] (.bool (p x), none)) : FnOK Try.prog 41 [slBlk l, .fn f []] (.int .i64 (idx p l), none) := by
  refine fn_ok CN rfl (by kernel_rfl) Try.func41 rfl ?_
  refine Sat.go (Eq.refl _) ?_
  refine NS.loop (σ := { k : Nat // k ≤ l.length ∧ ∀ i, i < k → p (l.getD i default) = false }) (fun k => [(0, slBlk l), (1, .fn f []), (7, .int .i64 l.length), (8, .int .i64 k.1)]) (fun _ => []) (fun k => l.length - k.1) ⟨0, Nat.zero_le _, fun i hi => by omega⟩ ?_ ?_
  · exact weak_hd [] rfl ⟨rfl, rfl, rfl, rfl, trivial⟩ trivial trivial (by kernel_rfl)
  rintro ⟨k, hk, hn⟩
  refine Sat.go (Eq.refl _) (NS.ite (fun h => ?_) (fun h => ?_))
  · have h : k < l.length := by simpa using h
    repeat' (first | (refine Sat.go (Eq.refl _) (NS.chk (by kernel_rfl) ?_)) | (refine Sat.go (Eq.refl _) (NS.need (by simp; omega) ?_)))
    refine Sat.go (Eq.refl _) (NS.call (hc (l.getD k default)) rfl ?_)
    refine Sat.go (Eq.refl _) (NS.ite (fun h2 => ?_) (fun h2 => ?_))
    · exact Sat.go (Eq.refl _) (NS.leaveOut rfl (Eq.refl _) (NS.ret rfl rfl (LeA.of (congrArg (A.int .i64) ((idx_found (by omega) h2 hn).symm)))))
    · refine Sat.go (Eq.refl _) (NS.next ⟨k + 1, by omega, fun i hi => ?_⟩ (by simp; omega) ?_)
      · by_cases hik : i = k
        · subst hik; exact h2
        · exact hn i (by omega)
      · exact weak_hd [] rfl ⟨rfl, rfl, rfl, ren_int rfl (i64_k (by omega) (by omega)), trivial⟩ trivial trivial (by kernel_rfl)
  · have h : ¬ k < l.length := by simpa using h
    refine Sat.go (Eq.refl _) (NS.leave rfl (Eq.refl _) ?_)
    exact Sat.go (Eq.refl _) (NS.ret rfl rfl (LeA.of (congrArg (A.int .i64) ((idx_none fun i hi => hn i (by omega)).symm))))
theorem cloneB_ok (l : List Blk) (hl : l.length ≤ 1000000) : FnOK Try.prog 16 [slBlk l] (.own 0, some (.row 38 3 l.length (rowL Blk.cells l))) := by
  refine fn_ok CN rfl (by kernel_rfl) Try.func16 rfl ?_
  refine Sat.go (Eq.refl _) (NS.ite (fun h0 => ?_) (fun h0 => ?_))
  · refine Sat.go (Eq.refl _) (NS.both ?_ ?_)
    · exact Sat.go (Eq.refl _) (NS.retNil (by simpa using h0) rfl rfl)
    · refine Sat.go (Eq.refl _) (NS.need (decide_eq_true (by simp only [maxRow]; omega)) ?_)
      exact Sat.go (Eq.refl _) (NS.retRow 7 rfl rfl (LeA.refl _) ⟨rfl, rfl, by simp, fun i hi j hj => by simp⟩ fun _ _ _ _ => flatBlk _ _ _)
  · refine Sat.go (Eq.refl _) (NS.need (decide_eq_true (by simp only [maxRow]; omega)) ?_)
    exact Sat.go (Eq.refl _) (NS.retRow 7 rfl rfl (LeA.refl _) ⟨rfl, rfl, by simp, fun i hi j hj => by simp⟩ fun _ _ _ _ => flatBlk _ _ _)
noncomputable def CDB : Cx := { E := EN, inl := [15], ok := EN_ok }
theorem securityTags_ok (b : Bun) (n : Int) (key : ByteArray) : FnOK Try.prog 4 [.agg b.cells, .int .i64 n, .str key] (.bool true, none) := by
  refine fn_ok CDB rfl (by kernel_rfl) Try.func4 rfl ?_
  refine Sat.go (Eq.refl _) (NS.call (greatL_ok b key) rfl ?_)
  refine Sat.go (Eq.refl _) (NS.ite (fun g1 => ?_) (fun g1 => ?_))
  · refine Sat.go (Eq.refl _) (NS.call (awake_ok) rfl ?_)
    exact Sat.go (Eq.refl _) (NS.ret rfl rfl (LeA.refl _))
  refine Sat.go (Eq.refl _) (NS.call (verify_ok b n key) rfl ?_)
  by_cases hv : verM b n key = 0 ∨ verM b n key = 22
  · obtain ⟨pa, hf⟩ := verM_cases hv
    have hg := goodL_of pa.ok.chk
    have hfb := found_of hf
    have hn2 := pa.rng
    unfold okN at hn2
    obtain ⟨m, rfl⟩ : ∃ m : Nat, n = m := ⟨n.toNat, by omega⟩
    have hnt : ((m : Nat) : Int).toNat = m := by omega
    have hw : IntKind.u8.wrap ((m : Nat) : Int) = ((m : Nat) : Int) := by rw [wrap_u8m]; omega
    have hb : bytesOf (fun i j => getA [A.int .u8 (IntKind.u8.wrap (m : Int))] (i * 1 + j)) 1 = bs [m] := by rw [hw]; exact bytes1 m
    have hsd : (sdt b).length ≤ 15000 := encBun_len (b := { b with l := rem4 b.l }) (chkB_zero.1 pa.ok.chk).1 (rem4_good hg)
    have hc2 := chnL_msg m (sdt b) (by omega) (encBun_lt _)
    have hml : (msgL m (sdt b)).length = 17 + (sdt b).length := by
      unfold msgL
      simp only [List.length_append, List.length_singleton, bytesN_len]
    have c := chain_ok key [bs [m], bs (sdt b)] pa.key (by rw [hc2, hml]; omega) (by show 2 ≤ 1000; decide)
    rw [hc2] at c
    have ce := bEnc_ok { b with l := rem4 b.l } (chkB_with pa.ok.chk (rem4_good hg))
    have cf := find_ok b.l (by have := hg.1; omega) 4
    have hk4 := (fndB_some hfb).2
    have hd := fndB_data b.l (good_data hg) 4
    have h94 := auth9 pa.ok
    have hsg : sgB b = sgs (ls (authD b)) := rfl
    obtain ⟨s, hsx⟩ : ∃ s, authD b = s := ⟨_, rfl⟩
    obtain ⟨g, hgx⟩ : ∃ g, (fndB b.l 4).1.flags = g := ⟨_, rfl⟩
    have hfe : fndB b.l 4 = (⟨4, g, s⟩, true) := by
      refine Prod.ext ?_ hfb
      show (⟨(fndB b.l 4).1.kind, (fndB b.l 4).1.flags, (fndB b.l 4).1.data⟩ : Blk) = ⟨4, g, s⟩
      rw [hk4, hgx, show (fndB b.l 4).1.data = s from hsx]
    rw [show (fndB b.l 4).1.data = s from hsx] at hd
    rw [hfe] at cf
    rw [hsx] at h94 hsg
    have hs9 := h94.1
    have hL := ls_len s
    have hS := sgs_len (ls s)
    have hg8 := hg.1
    have hbl : b.cells = [.int .i64 b.id.src, .int .i64 b.id.cre, .int .i64 b.id.seq, .int .i64 b.id.off, .int .i64 b.id.tot, .int .i64 b.dest.kind, .int .i64 b.dest.num, .int .i64 b.life, .int .i64 b.prio, .int .i64 b.flags, slBlk b.l, .str b.pay] := rfl
    have h4 := fndB_some hfb
    have hcl := cloneB_ok b.l (by omega)
    have hc := tags1_ok
    have hkeep := rem4_keep hg
    obtain ⟨p, hpdef⟩ : ∃ p : Blk → Bool, (fun x : Blk => decide (x.kind ≤ 4)) = p := ⟨_, rfl⟩
    have hpz : ∀ z : Blk, decide (z.kind ≤ 4) = p z := fun z => congrFun hpdef z
    simp only [hpz] at hc
    rw [hpdef] at hkeep
    by_cases h0 : verM b (m : Int) key = 0
    · refine Sat.go (Eq.refl _) (NS.no (by show (verM b (m : Int) key != 0) = false; rw [h0]; rfl) ?_)
      refine Sat.go (Eq.refl _) (NS.call (cf) rfl ?_)
      refine Sat.go (Eq.refl _) (NS.call (hcl) rfl ?_)
      refine Sat.go (Eq.refl _) (NS.call (idxB0_ok b.l (by omega) _ p hc) rfl ?_)
      rcases idx_cases p b.l with ⟨e, hno⟩ | ⟨k, hk, e, hpk, hnp⟩
      · exfalso
        have := hno _ h4.1
        rw [← hpz, h4.2] at this; cases this
      refine Sat.go (Eq.refl _) (NS.no (by rw [e]; rw [beq_eq_false_iff_ne]; omega) ?_)
      obtain ⟨hi0, hl0⟩ := delG_start (p := p) hk hpk hnp
      refine Sat.go (Eq.refl _) ?_
      refine NS.loop (σ := { q : Nat × List Blk // DelG p b.l q.2 q.1 }) (fun q => [(0, .own 40), (1, .fn 17 []), (5, .int .i64 (keepG p (b.l.take q.1.1)).length), (6, .int .i64 q.1.1)]) (fun q => [(40, .row 38 3 q.1.2.length (rowL Blk.cells q.1.2))]) (fun q => b.l.length - q.1.1) ⟨(k + 1, b.l), hi0⟩ ?_ ?_
      · exact weak_hd [] rfl ⟨rfl, rfl, ren_int rfl (by rw [e]; show (k : Int) = ((keepG p (b.l.take (k + 1))).length : Int); rw [hl0]), ren_int rfl (by rw [e, wrap_i64 (by omega) (by omega)]; rfl), trivial⟩ ⟨ren_row rfl rfl fun _ _ _ _ => rfl, trivial⟩ (by repeat' (first | exact trivial | refine ⟨.inr rfl, ?_⟩ | refine ⟨.inl rfl, ?_⟩)) (by kernel_rfl)
      rintro ⟨⟨j, M⟩, hi⟩
      have hi : DelG p b.l M j := hi
      have hle := keepG_le p b.l j
      have hM := hi.1
      have hj := hi.2.1
      refine Sat.go (Eq.refl _) (NS.ite (fun a => ?_) (fun a => ?_))
      · have a : j < b.l.length := by have a : decide ((j : Int) < (M.length : Int)) = true := a; have := of_decide_eq_true a; omega
        have hMj := hi.2.2.2 j (Nat.le_refl _) a
        repeat' (first | (refine Sat.go (Eq.refl _) (NS.chk (by kernel_rfl) ?_)) | (refine Sat.go (Eq.refl _) (NS.need (by show decide (0 ≤ (j : Int) ∧ (j : Int) < (M.length : Int)) = true; exact decide_eq_true (by omega)) ?_)) | (refine Sat.go (Eq.refl _) (NS.need (by show decide (((j : Nat) : Int).toNat < M.length) = true; exact decide_eq_true (by omega)) ?_)))
        refine Sat.go (Eq.refl _) (NS.call (hc (M.getD j default)) rfl ?_)
        refine Sat.go (Eq.refl _) (NS.ite (fun h3 => ?_) (fun h3 => ?_))
        · have hpj : p (b.l.getD j default) = false := by rw [← hMj]; exact not_t h3
          have hnx := delG_keep hi a hpj
          repeat' (first | (refine Sat.go (Eq.refl _) (NS.chk (by kernel_rfl) ?_)) | (refine Sat.go (Eq.refl _) (NS.need (by show decide (0 ≤ ((keepG p (b.l.take j)).length : Int) ∧ ((keepG p (b.l.take j)).length : Int) < (M.length : Int)) = true; exact decide_eq_true (by omega)) ?_)) | (refine Sat.go (Eq.refl _) (NS.need (by show decide ((((keepG p (b.l.take j)).length : Nat) : Int).toNat < M.length) = true; exact decide_eq_true (by omega)) ?_)))
          refine Sat.go (Eq.refl _) (NS.next ⟨(j + 1, M.set (keepG p (b.l.take j)).length (b.l.getD j default)), hnx⟩ (by show b.l.length - (j + 1) < b.l.length - j; omega) ?_)
          refine weak_hd [] rfl ⟨rfl, rfl, ren_int rfl ?_, ren_int rfl (i64_k (k := j) (n := b.l.length) a (by omega)), trivial⟩ ⟨ren_row rfl (by simp) (fun q hq jj hjj => ?_), trivial⟩ (by repeat' (first | exact trivial | refine ⟨.inr rfl, ?_⟩ | refine ⟨.inl rfl, ?_⟩)) (by kernel_rfl)
          · show IntKind.i64.wrap (((keepG p (b.l.take j)).length : Int) + 1) = ((keepG p (b.l.take (j + 1))).length : Int)
            rw [wrap_i64 (by omega) (by omega), keepG_snoc a, hpj]; simp
          · have hrs := row_setG (cells := Blk.cells) (c := 3) M (keepG p (b.l.take j)).length (M.getD j default) (by omega) q jj hjj
            have hset : M.set (keepG p (b.l.take j)).length (M.getD j default) = M.set (keepG p (b.l.take j)).length (b.l.getD j default) := by rw [hMj]
            show _ = rowL Blk.cells (M.set (keepG p (b.l.take j)).length (b.l.getD j default)) q jj
            rw [← hset]
            exact hrs
        · have hpj : p (b.l.getD j default) = true := by rw [← hMj]; exact not_f h3
          obtain ⟨hnx, hsame⟩ := delG_drop hi a hpj
          refine Sat.go (Eq.refl _) (NS.next ⟨(j + 1, M), hnx⟩ (by show b.l.length - (j + 1) < b.l.length - j; omega) ?_)
          exact weak_hd [] rfl ⟨rfl, rfl, ren_int rfl (by show ((keepG p (b.l.take j)).length : Int) = ((keepG p (b.l.take (j + 1))).length : Int); rw [hsame]), ren_int rfl (i64_k (k := j) (n := b.l.length) a (by omega)), trivial⟩ ⟨ren_row rfl rfl (fun _ _ _ _ => rfl), trivial⟩ (by repeat' (first | exact trivial | refine ⟨.inr rfl, ?_⟩ | refine ⟨.inl rfl, ?_⟩)) (by kernel_rfl)
      have a : j = b.l.length := by have a : decide ((j : Int) < (M.length : Int)) = false := a; have := of_decide_eq_false a; omega
      subst a
      have hend := delG_end hi
      have hlt := keepG_lt hk hpk
      have hkk : (keepG p (b.l.take b.l.length)).length = (keepG p b.l).length := by rw [List.take_length]
      refine Sat.go (Eq.refl _) (NS.leave rfl (Eq.refl _) ?_)
      refine Sat.go (Eq.refl _) (NS.need (decide_eq_true ⟨by omega, by show ((keepG p (b.l.take b.l.length)).length : Int) ≤ (M.length : Int); omega, by show (M.length : Int) ≤ (M.length : Int); omega⟩) ?_)
      refine Sat.go (Eq.refl _) (NS.need (decide_eq_true (by show 0 < ((M.length : Int) - ((keepG p (b.l.take b.l.length)).length : Int)).toNat; omega)) ?_)
      refine Sat.go (Eq.refl _) (NS.need (decide_eq_true (by show (0 : Int) ≤ 0 ∧ (0 : Int) ≤ ((keepG p (b.l.take b.l.length)).length : Int) ∧ ((keepG p (b.l.take b.l.length)).length : Int) ≤ (M.length : Int); omega)) ?_)
      have hv1 : (((keepG p (b.l.take b.l.length)).length : Int) - 0).toNat = (keepG p b.l).length := by rw [hkk]; omega
      have hv2 : ∀ i, i < (((keepG p (b.l.take b.l.length)).length : Int) - 0).toNat → ∀ jj, jj < 3 → ∀ a : A, (if ((keepG p (b.l.take b.l.length)).length : Int).toNat ≤ (0 : Int).toNat + i ∧ (0 : Int).toNat + i < ((keepG p (b.l.take b.l.length)).length : Int).toNat + ((M.length : Int) - ((keepG p (b.l.take b.l.length)).length : Int)).toNat then a else rowL Blk.cells M ((0 : Int).toNat + i) jj) = rowL Blk.cells (keepG p b.l) i jj := by
        intro i hi jj hjj a
        rw [if_neg (by omega), show (0 : Int).toNat + i = i by omega]
        unfold rowL
        rw [hend i (by omega)]
      refine Sat.go (Eq.refl _) (NS.call (ce.le (LeL.cons (LeA.agg (.cons (.refl _) (.cons (.refl _) (.cons (.refl _) (.cons (.refl _) (.cons (.refl _) (.cons (.refl _) (.cons (.refl _) (.cons (.refl _) (.cons (.refl _) (.cons (.refl _) (.cons (LeA.sl (hv1.trans (congrArg List.length hkeep)) fun i hi jj hjj => (hv2 i hi jj hjj _).trans (by rw [hkeep])) (.cons (.refl _) .nil))))))))))))) LeL.nil)) rfl ?_)
      refine Sat.go (Eq.refl _) (NS.need (allN_row fun i hi => by rw [Nat.lt_one_iff.1 hi]; rfl) ?_)
      refine Sat.go (Eq.refl _) (NS.call (c.le (LeL.cons (LeA.refl _) (LeL.cons (LeA.sl rfl (fun i hi j hj => ?_)) LeL.nil))) rfl ?_)
      · have hi : i < 2 := hi
        have hj : j < 1 := hj
        obtain rfl : j = 0 := by omega
        rcases (by omega : i = 0 ∨ i = 1) with rfl | rfl
        · exact congrArg A.str hb
        · rfl
      refine Sat.go (Eq.refl _) (NS.no (rfl) ?_)
      refine Sat.go (Eq.refl _) (NS.no (rfl) ?_)
      refine Sat.go (Eq.refl _) (NS.no (rfl) ?_)
      refine Sat.go (Eq.refl _) ?_
      refine NS.loop (σ := { k : Nat // 9 * k ≤ s.size ∧ ∀ q, q < k → (((sgs (ls s)).getD q default).1 : Int) ≠ (m : Int) }) (fun k => [(1, .int .i64 m), (7, .int .i64 (verM b (m : Int) key)), (8, .ptr 8 0), (13, .str (bs (sgnM b m key))), (15, .int .i64 ((9 * k.1 : Nat) : Int))]) (fun k => [(8, .box [.int .i64 4, .int .i64 g, .str s])]) (fun k => s.size - 9 * k.1) ⟨0, by omega, fun q hq => absurd hq (Nat.not_lt_zero _)⟩ ?_ ?_
      · exact weak_hd [] rfl ⟨rfl, rfl, rfl, rfl, rfl, trivial⟩ ⟨⟨_, rfl, _, _, rfl, rfl, _, _, rfl, rfl, _, _, rfl, rfl, rfl⟩, trivial⟩ trivial (by kernel_rfl)
      rintro ⟨k, hk9, hno⟩
      have hk9 : 9 * k ≤ s.size := hk9
      have hno : ∀ q, q < k → (((sgs (ls s)).getD q default).1 : Int) ≠ (m : Int) := hno
      have hw9 : IntKind.i64.wrap (((9 * k : Nat) : Int) + 9) = ((9 * k + 9 : Nat) : Int) := by rw [wrap_i64 (by omega) (by omega)]; omega
      have hw1 : IntKind.i64.wrap (((9 * k : Nat) : Int) + 1) = ((9 * k + 1 : Nat) : Int) := by rw [wrap_i64 (by omega) (by omega)]; omega
      refine Sat.go (Eq.refl _) (NS.ite (fun a => ?_) (fun a => ?_))
      · have a : 9 * k + 9 ≤ s.size := by have a : decide (IntKind.i64.wrap (((9 * k : Nat) : Int) + 9) ≤ (s.size : Int)) = true := a; rw [hw9] at a; have := of_decide_eq_true a; omega
        have hlt : k < (sgs (ls s)).length := by omega
        have hgk := sgs_get (l := ls s) (k := k) (by omega)
        have hg9 : IntKind.i64.wrap (((s.data.toList.getD ((9 * k : Nat) : Int).toNat 0).toNat : Nat) : Int) = (((ls s).getD (9 * k) 0 : Nat) : Int) := byteS s (9 * k) (.inr trivial)
        refine Sat.go (Eq.refl _) (NS.need (by show decide ((0 : Int) ≤ ((9 * k : Nat) : Int) ∧ ((9 * k : Nat) : Int) < (s.size : Int)) = true; exact decide_eq_true (by omega)) ?_)
        refine Sat.go (Eq.refl _) (NS.ite (fun d => ?_) (fun d => ?_))
        · have d : (((ls s).getD (9 * k) 0 : Nat) : Int) = (m : Int) := by rw [← hg9]; have d : (_ == _) = true := d; exact eq_of_beq d
          have hfd : fndS (sgB b) (m : Int) = (((ls s).drop (9 * k + 1)).take 8, true) := by
            have hmem : ((ls s).getD (9 * k) 0, ((ls s).drop (9 * k + 1)).take 8) ∈ sgB b := by rw [hsg, ← hgk, getD_lt hlt]; exact List.getElem_mem hlt
            have := fndS_mem pa.ok.good hmem
            rw [← this]
            show fndS (sgB b) (m : Int) = fndS (sgB b) (((ls s).getD (9 * k) 0 : Nat) : Int)
            rw [d]
          have hve := verM_eq pa hfd
          rw [hnt] at hve
          have hx : s.extract (IntKind.i64.wrap (((9 * k : Nat) : Int) + 1)).toNat (IntKind.i64.wrap (((9 * k : Nat) : Int) + 9)).toNat = bs (((ls s).drop (9 * k + 1)).take 8) := by rw [hw1, hw9]; exact tagS2 s k (by omega)
          refine Sat.go (Eq.refl _) (NS.need (by show decide ((0 : Int) ≤ IntKind.i64.wrap (((9 * k : Nat) : Int) + 1) ∧ IntKind.i64.wrap (((9 * k : Nat) : Int) + 1) ≤ IntKind.i64.wrap (((9 * k : Nat) : Int) + 9) ∧ IntKind.i64.wrap (((9 * k : Nat) : Int) + 9) ≤ (s.size : Int)) = true; rw [hw1, hw9]; exact decide_eq_true (by omega)) ?_)
          refine Sat.go (Eq.refl _) (NS.yes (by show (((s.extract (IntKind.i64.wrap (((9 * k : Nat) : Int) + 1)).toNat (IntKind.i64.wrap (((9 * k : Nat) : Int) + 9)).toNat).toList == (bs (sgnM b m key)).toList) == (verM b (m : Int) key == 0)) = true; rw [hx, hve]; exact tags_bool _) ?_)
          refine Sat.go (Eq.refl _) (NS.call (awake_ok) rfl ?_)
          exact Sat.go (Eq.refl _) (NS.ret rfl rfl (LeA.refl _))
        · have d : ¬ (((ls s).getD (9 * k) 0 : Nat) : Int) = (m : Int) := by rw [← hg9]; have d : (_ == _) = false := d; exact fun h => by rw [h] at d; simp at d
          refine Sat.go (Eq.refl _) (NS.next ⟨k + 1, by omega, fun q hq => ?_⟩ (by show s.size - 9 * (k + 1) < s.size - 9 * k; omega) ?_)
          · by_cases hqk : q = k
            · rw [hqk, hgk]; exact d
            · exact hno q (by omega)
          · exact weak_hd [] rfl ⟨rfl, rfl, rfl, rfl, ren_int rfl (nine (k := k) (by omega)), trivial⟩ ⟨⟨_, rfl, _, _, rfl, rfl, _, _, rfl, rfl, _, _, rfl, rfl, rfl⟩, trivial⟩ trivial (by kernel_rfl)
      have a : ¬ 9 * k + 9 ≤ s.size := by have a : decide (IntKind.i64.wrap (((9 * k : Nat) : Int) + 9) ≤ (s.size : Int)) = false := a; rw [hw9] at a; have := of_decide_eq_false a; omega
      exfalso
      have : (fndS (sgB b) (m : Int)).2 = false := fndS_none.2 fun p hp => by
        rw [hsg] at hp
        obtain ⟨i, hi, rfl⟩ := List.getElem_of_mem hp
        have := hno i (by omega)
        rw [getD_lt hi] at this
        exact this
      rw [this] at hf; cases hf
    · have h1 : verM b (m : Int) key = 22 := by rcases hv with h | h; exact absurd h h0; exact h
      refine Sat.go (Eq.refl _) (NS.yes (by show (verM b (m : Int) key != 0) = true; simpa using h0) ?_)
      refine Sat.go (Eq.refl _) (NS.no (by show (verM b (m : Int) key != 22) = false; rw [h1]; rfl) ?_)
      refine Sat.go (Eq.refl _) (NS.call (cf) rfl ?_)
      refine Sat.go (Eq.refl _) (NS.call (hcl) rfl ?_)
      refine Sat.go (Eq.refl _) (NS.call (idxB0_ok b.l (by omega) _ p hc) rfl ?_)
      rcases idx_cases p b.l with ⟨e, hno⟩ | ⟨k, hk, e, hpk, hnp⟩
      · exfalso
        have := hno _ h4.1
        rw [← hpz, h4.2] at this; cases this
      refine Sat.go (Eq.refl _) (NS.no (by rw [e]; rw [beq_eq_false_iff_ne]; omega) ?_)
      obtain ⟨hi0, hl0⟩ := delG_start (p := p) hk hpk hnp
      refine Sat.go (Eq.refl _) ?_
      refine NS.loop (σ := { q : Nat × List Blk // DelG p b.l q.2 q.1 }) (fun q => [(0, .own 40), (1, .fn 17 []), (5, .int .i64 (keepG p (b.l.take q.1.1)).length), (6, .int .i64 q.1.1)]) (fun q => [(40, .row 38 3 q.1.2.length (rowL Blk.cells q.1.2))]) (fun q => b.l.length - q.1.1) ⟨(k + 1, b.l), hi0⟩ ?_ ?_
      · exact weak_hd [] rfl ⟨rfl, rfl, ren_int rfl (by rw [e]; show (k : Int) = ((keepG p (b.l.take (k + 1))).length : Int); rw [hl0]), ren_int rfl (by rw [e, wrap_i64 (by omega) (by omega)]; rfl), trivial⟩ ⟨ren_row rfl rfl fun _ _ _ _ => rfl, trivial⟩ (by repeat' (first | exact trivial | refine ⟨.inr rfl, ?_⟩ | refine ⟨.inl rfl, ?_⟩)) (by kernel_rfl)
      rintro ⟨⟨j, M⟩, hi⟩
      have hi : DelG p b.l M j := hi
      have hle := keepG_le p b.l j
      have hM := hi.1
      have hj := hi.2.1
      refine Sat.go (Eq.refl _) (NS.ite (fun a => ?_) (fun a => ?_))
      · have a : j < b.l.length := by have a : decide ((j : Int) < (M.length : Int)) = true := a; have := of_decide_eq_true a; omega
        have hMj := hi.2.2.2 j (Nat.le_refl _) a
        repeat' (first | (refine Sat.go (Eq.refl _) (NS.chk (by kernel_rfl) ?_)) | (refine Sat.go (Eq.refl _) (NS.need (by show decide (0 ≤ (j : Int) ∧ (j : Int) < (M.length : Int)) = true; exact decide_eq_true (by omega)) ?_)) | (refine Sat.go (Eq.refl _) (NS.need (by show decide (((j : Nat) : Int).toNat < M.length) = true; exact decide_eq_true (by omega)) ?_)))
        refine Sat.go (Eq.refl _) (NS.call (hc (M.getD j default)) rfl ?_)
        refine Sat.go (Eq.refl _) (NS.ite (fun h3 => ?_) (fun h3 => ?_))
        · have hpj : p (b.l.getD j default) = false := by rw [← hMj]; exact not_t h3
          have hnx := delG_keep hi a hpj
          repeat' (first | (refine Sat.go (Eq.refl _) (NS.chk (by kernel_rfl) ?_)) | (refine Sat.go (Eq.refl _) (NS.need (by show decide (0 ≤ ((keepG p (b.l.take j)).length : Int) ∧ ((keepG p (b.l.take j)).length : Int) < (M.length : Int)) = true; exact decide_eq_true (by omega)) ?_)) | (refine Sat.go (Eq.refl _) (NS.need (by show decide ((((keepG p (b.l.take j)).length : Nat) : Int).toNat < M.length) = true; exact decide_eq_true (by omega)) ?_)))
          refine Sat.go (Eq.refl _) (NS.next ⟨(j + 1, M.set (keepG p (b.l.take j)).length (b.l.getD j default)), hnx⟩ (by show b.l.length - (j + 1) < b.l.length - j; omega) ?_)
          refine weak_hd [] rfl ⟨rfl, rfl, ren_int rfl ?_, ren_int rfl (i64_k (k := j) (n := b.l.length) a (by omega)), trivial⟩ ⟨ren_row rfl (by simp) (fun q hq jj hjj => ?_), trivial⟩ (by repeat' (first | exact trivial | refine ⟨.inr rfl, ?_⟩ | refine ⟨.inl rfl, ?_⟩)) (by kernel_rfl)
          · show IntKind.i64.wrap (((keepG p (b.l.take j)).length : Int) + 1) = ((keepG p (b.l.take (j + 1))).length : Int)
            rw [wrap_i64 (by omega) (by omega), keepG_snoc a, hpj]; simp
          · have hrs := row_setG (cells := Blk.cells) (c := 3) M (keepG p (b.l.take j)).length (M.getD j default) (by omega) q jj hjj
            have hset : M.set (keepG p (b.l.take j)).length (M.getD j default) = M.set (keepG p (b.l.take j)).length (b.l.getD j default) := by rw [hMj]
            show _ = rowL Blk.cells (M.set (keepG p (b.l.take j)).length (b.l.getD j default)) q jj
            rw [← hset]
            exact hrs
        · have hpj : p (b.l.getD j default) = true := by rw [← hMj]; exact not_f h3
          obtain ⟨hnx, hsame⟩ := delG_drop hi a hpj
          refine Sat.go (Eq.refl _) (NS.next ⟨(j + 1, M), hnx⟩ (by show b.l.length - (j + 1) < b.l.length - j; omega) ?_)
          exact weak_hd [] rfl ⟨rfl, rfl, ren_int rfl (by show ((keepG p (b.l.take j)).length : Int) = ((keepG p (b.l.take (j + 1))).length : Int); rw [hsame]), ren_int rfl (i64_k (k := j) (n := b.l.length) a (by omega)), trivial⟩ ⟨ren_row rfl rfl (fun _ _ _ _ => rfl), trivial⟩ (by repeat' (first | exact trivial | refine ⟨.inr rfl, ?_⟩ | refine ⟨.inl rfl, ?_⟩)) (by kernel_rfl)
      have a : j = b.l.length := by have a : decide ((j : Int) < (M.length : Int)) = false := a; have := of_decide_eq_false a; omega
      subst a
      have hend := delG_end hi
      have hlt := keepG_lt hk hpk
      have hkk : (keepG p (b.l.take b.l.length)).length = (keepG p b.l).length := by rw [List.take_length]
      refine Sat.go (Eq.refl _) (NS.leave rfl (Eq.refl _) ?_)
      refine Sat.go (Eq.refl _) (NS.need (decide_eq_true ⟨by omega, by show ((keepG p (b.l.take b.l.length)).length : Int) ≤ (M.length : Int); omega, by show (M.length : Int) ≤ (M.length : Int); omega⟩) ?_)
      refine Sat.go (Eq.refl _) (NS.need (decide_eq_true (by show 0 < ((M.length : Int) - ((keepG p (b.l.take b.l.length)).length : Int)).toNat; omega)) ?_)
      refine Sat.go (Eq.refl _) (NS.need (decide_eq_true (by show (0 : Int) ≤ 0 ∧ (0 : Int) ≤ ((keepG p (b.l.take b.l.length)).length : Int) ∧ ((keepG p (b.l.take b.l.length)).length : Int) ≤ (M.length : Int); omega)) ?_)
      have hv1 : (((keepG p (b.l.take b.l.length)).length : Int) - 0).toNat = (keepG p b.l).length := by rw [hkk]; omega
      have hv2 : ∀ i, i < (((keepG p (b.l.take b.l.length)).length : Int) - 0).toNat → ∀ jj, jj < 3 → ∀ a : A, (if ((keepG p (b.l.take b.l.length)).length : Int).toNat ≤ (0 : Int).toNat + i ∧ (0 : Int).toNat + i < ((keepG p (b.l.take b.l.length)).length : Int).toNat + ((M.length : Int) - ((keepG p (b.l.take b.l.length)).length : Int)).toNat then a else rowL Blk.cells M ((0 : Int).toNat + i) jj) = rowL Blk.cells (keepG p b.l) i jj := by
        intro i hi jj hjj a
        rw [if_neg (by omega), show (0 : Int).toNat + i = i by omega]
        unfold rowL
        rw [hend i (by omega)]
      refine Sat.go (Eq.refl _) (NS.call (ce.le (LeL.cons (LeA.agg (.cons (.refl _) (.cons (.refl _) (.cons (.refl _) (.cons (.refl _) (.cons (.refl _) (.cons (.refl _) (.cons (.refl _) (.cons (.refl _) (.cons (.refl _) (.cons (.refl _) (.cons (LeA.sl (hv1.trans (congrArg List.length hkeep)) fun i hi jj hjj => (hv2 i hi jj hjj _).trans (by rw [hkeep])) (.cons (.refl _) .nil))))))))))))) LeL.nil)) rfl ?_)
      refine Sat.go (Eq.refl _) (NS.need (allN_row fun i hi => by rw [Nat.lt_one_iff.1 hi]; rfl) ?_)
      refine Sat.go (Eq.refl _) (NS.call (c.le (LeL.cons (LeA.refl _) (LeL.cons (LeA.sl rfl (fun i hi j hj => ?_)) LeL.nil))) rfl ?_)
      · have hi : i < 2 := hi
        have hj : j < 1 := hj
        obtain rfl : j = 0 := by omega
        rcases (by omega : i = 0 ∨ i = 1) with rfl | rfl
        · exact congrArg A.str hb
        · rfl
      refine Sat.go (Eq.refl _) (NS.no (rfl) ?_)
      refine Sat.go (Eq.refl _) (NS.no (rfl) ?_)
      refine Sat.go (Eq.refl _) (NS.no (rfl) ?_)
      refine Sat.go (Eq.refl _) ?_
      refine NS.loop (σ := { k : Nat // 9 * k ≤ s.size ∧ ∀ q, q < k → (((sgs (ls s)).getD q default).1 : Int) ≠ (m : Int) }) (fun k => [(1, .int .i64 m), (7, .int .i64 (verM b (m : Int) key)), (8, .ptr 8 0), (13, .str (bs (sgnM b m key))), (15, .int .i64 ((9 * k.1 : Nat) : Int))]) (fun k => [(8, .box [.int .i64 4, .int .i64 g, .str s])]) (fun k => s.size - 9 * k.1) ⟨0, by omega, fun q hq => absurd hq (Nat.not_lt_zero _)⟩ ?_ ?_
      · exact weak_hd [] rfl ⟨rfl, rfl, rfl, rfl, rfl, trivial⟩ ⟨⟨_, rfl, _, _, rfl, rfl, _, _, rfl, rfl, _, _, rfl, rfl, rfl⟩, trivial⟩ trivial (by kernel_rfl)
      rintro ⟨k, hk9, hno⟩
      have hk9 : 9 * k ≤ s.size := hk9
      have hno : ∀ q, q < k → (((sgs (ls s)).getD q default).1 : Int) ≠ (m : Int) := hno
      have hw9 : IntKind.i64.wrap (((9 * k : Nat) : Int) + 9) = ((9 * k + 9 : Nat) : Int) := by rw [wrap_i64 (by omega) (by omega)]; omega
      have hw1 : IntKind.i64.wrap (((9 * k : Nat) : Int) + 1) = ((9 * k + 1 : Nat) : Int) := by rw [wrap_i64 (by omega) (by omega)]; omega
      refine Sat.go (Eq.refl _) (NS.ite (fun a => ?_) (fun a => ?_))
      · have a : 9 * k + 9 ≤ s.size := by have a : decide (IntKind.i64.wrap (((9 * k : Nat) : Int) + 9) ≤ (s.size : Int)) = true := a; rw [hw9] at a; have := of_decide_eq_true a; omega
        have hlt : k < (sgs (ls s)).length := by omega
        have hgk := sgs_get (l := ls s) (k := k) (by omega)
        have hg9 : IntKind.i64.wrap (((s.data.toList.getD ((9 * k : Nat) : Int).toNat 0).toNat : Nat) : Int) = (((ls s).getD (9 * k) 0 : Nat) : Int) := byteS s (9 * k) (.inr trivial)
        refine Sat.go (Eq.refl _) (NS.need (by show decide ((0 : Int) ≤ ((9 * k : Nat) : Int) ∧ ((9 * k : Nat) : Int) < (s.size : Int)) = true; exact decide_eq_true (by omega)) ?_)
        refine Sat.go (Eq.refl _) (NS.ite (fun d => ?_) (fun d => ?_))
        · have d : (((ls s).getD (9 * k) 0 : Nat) : Int) = (m : Int) := by rw [← hg9]; have d : (_ == _) = true := d; exact eq_of_beq d
          have hfd : fndS (sgB b) (m : Int) = (((ls s).drop (9 * k + 1)).take 8, true) := by
            have hmem : ((ls s).getD (9 * k) 0, ((ls s).drop (9 * k + 1)).take 8) ∈ sgB b := by rw [hsg, ← hgk, getD_lt hlt]; exact List.getElem_mem hlt
            have := fndS_mem pa.ok.good hmem
            rw [← this]
            show fndS (sgB b) (m : Int) = fndS (sgB b) (((ls s).getD (9 * k) 0 : Nat) : Int)
            rw [d]
          have hve := verM_eq pa hfd
          rw [hnt] at hve
          have hx : s.extract (IntKind.i64.wrap (((9 * k : Nat) : Int) + 1)).toNat (IntKind.i64.wrap (((9 * k : Nat) : Int) + 9)).toNat = bs (((ls s).drop (9 * k + 1)).take 8) := by rw [hw1, hw9]; exact tagS2 s k (by omega)
          refine Sat.go (Eq.refl _) (NS.need (by show decide ((0 : Int) ≤ IntKind.i64.wrap (((9 * k : Nat) : Int) + 1) ∧ IntKind.i64.wrap (((9 * k : Nat) : Int) + 1) ≤ IntKind.i64.wrap (((9 * k : Nat) : Int) + 9) ∧ IntKind.i64.wrap (((9 * k : Nat) : Int) + 9) ≤ (s.size : Int)) = true; rw [hw1, hw9]; exact decide_eq_true (by omega)) ?_)
          refine Sat.go (Eq.refl _) (NS.yes (by show (((s.extract (IntKind.i64.wrap (((9 * k : Nat) : Int) + 1)).toNat (IntKind.i64.wrap (((9 * k : Nat) : Int) + 9)).toNat).toList == (bs (sgnM b m key)).toList) == (verM b (m : Int) key == 0)) = true; rw [hx, hve]; exact tags_bool _) ?_)
          refine Sat.go (Eq.refl _) (NS.call (awake_ok) rfl ?_)
          exact Sat.go (Eq.refl _) (NS.ret rfl rfl (LeA.refl _))
        · have d : ¬ (((ls s).getD (9 * k) 0 : Nat) : Int) = (m : Int) := by rw [← hg9]; have d : (_ == _) = false := d; exact fun h => by rw [h] at d; simp at d
          refine Sat.go (Eq.refl _) (NS.next ⟨k + 1, by omega, fun q hq => ?_⟩ (by show s.size - 9 * (k + 1) < s.size - 9 * k; omega) ?_)
          · by_cases hqk : q = k
            · rw [hqk, hgk]; exact d
            · exact hno q (by omega)
          · exact weak_hd [] rfl ⟨rfl, rfl, rfl, rfl, ren_int rfl (nine (k := k) (by omega)), trivial⟩ ⟨⟨_, rfl, _, _, rfl, rfl, _, _, rfl, rfl, _, _, rfl, rfl, rfl⟩, trivial⟩ trivial (by kernel_rfl)
      have a : ¬ 9 * k + 9 ≤ s.size := by have a : decide (IntKind.i64.wrap (((9 * k : Nat) : Int) + 9) ≤ (s.size : Int)) = false := a; rw [hw9] at a; have := of_decide_eq_false a; omega
      exfalso
      have : (fndS (sgB b) (m : Int)).2 = false := fndS_none.2 fun p hp => by
        rw [hsg] at hp
        obtain ⟨i, hi, rfl⟩ := List.getElem_of_mem hp
        have := hno i (by omega)
        rw [getD_lt hi] at this
        exact this
      rw [this] at hf; cases hf
  · simp only [not_or] at hv
    refine Sat.go (Eq.refl _) (NS.yes (by show (verM b n key != 0) = true; simpa using hv.1) ?_)
    refine Sat.go (Eq.refl _) (NS.yes (by show (verM b n key != 22) = true; simpa using hv.2) ?_)
    refine Sat.go (Eq.refl _) (NS.call (awake_ok) rfl ?_)
    exact Sat.go (Eq.refl _) (NS.ret rfl rfl (LeA.refl _))
end Go.Proofs.Ytdhfgfkfejpfdaa
