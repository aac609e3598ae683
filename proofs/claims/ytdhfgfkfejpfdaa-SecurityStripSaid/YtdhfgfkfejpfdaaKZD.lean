/- The reference's Signers and Strip. -/
import Derived.Test.YtdhfgfkfejpfdaaKZC
import Derived.Test.YtdhfgfkfejpfdaaKM
set_option linter.unusedSimpArgs false
set_option linter.unusedSectionVars false
set_option linter.unusedVariables false
namespace Go.Mb
open Go.Sy
set_option linter.unusedVariables false
theorem cut_bytes {S : List Sg} (h : GoodS S) {k : Nat} (hk : k < S.length) {n : Int} (hn : ((S.getD k default).1 : Int) = n) {s : ByteArray} (e : enS S = ls s) :
    s.extract (0 : Int).toNat ((9 * k : Nat) : Int).toNat ++ s.extract ((9 * k + 9 : Nat) : Int).toNat ((s.size : Nat) : Int).toNat = bs (enS (S.filter fun p => (p.1 : Int) != n)) := by
  have e1 := enS_take h.tags k (by omega)
  have e2 := enS_take h.tags (k + 1) (by omega)
  have hl : ∀ m, ∀ x ∈ enS (S.take m), x < 256 := fun m x hx => h.lt x (by
    have : enS S = enS (S.take m) ++ enS (S.drop m) := by rw [← enS_append, List.take_append_drop]
    rw [this]; exact List.mem_append_left _ hx)
  rw [cut_at h hk hn, enS_append, bs_append]
  congr 1
  · apply ls_inj
    rw [ls_extract, ls_bs (hl k), ← e1.1, e]
    simp
    omega
  · apply ls_inj
    rw [ls_extract, ls_bs (fun x hx => h.lt x (by
      have : enS S = enS (S.take (k + 1)) ++ enS (S.drop (k + 1)) := by rw [← enS_append, List.take_append_drop]
      rw [this]; exact List.mem_append_right _ hx)), ← e2.2, e, take_all (by rw [ls_len]; omega)]
    congr 1
theorem cut_len {S : List Sg} (h : GoodS S) {k : Nat} (hk : k < S.length) {n : Int} (hn : ((S.getD k default).1 : Int) = n) : (S.filter fun p => (p.1 : Int) != n).length = S.length - 1 := by
  rw [cut_at h hk hn, List.length_append, List.length_take, List.length_drop]; omega
end Go.Mb
namespace Go.Proofs.Ytdhfgfkfejpfdaa
open Go.Sy Go.Mb
set_option maxRecDepth 100000
set_option linter.unusedVariables false
set_option maxHeartbeats 4000000

theorem rStrip_ok (b : Bun) (n : Int) : FnOK Try.prog 28 [.agg b.cells, .int .i64 n] (bunR (stripM b n), none) := by
  have c15 := rCheck15_ok b n
  unfold stripM
  by_cases h1 : (chkB b != 0) = true
  · rw [if_pos h1]
    rw [show chk15 b n = chkB b from if_pos h1] at c15
    refine fn_ok CN rfl (by kernel_rfl) Try.func28 rfl ?_
    refine Sat.go (Eq.refl _) (NS.call (c15) rfl ?_)
    refine Sat.go (Eq.refl _) (NS.yes (h1) ?_)
    exact Sat.go (Eq.refl _) (NS.ret rfl rfl (zero_le _))
  rw [if_neg h1]
  by_cases h2 : (decide (n < 0) || decide (n ≥ 16)) = true
  · rw [if_pos h2]
    rw [show chk15 b n = 2 from (if_neg h1).trans (if_pos h2)] at c15
    refine fn_ok CN rfl (by kernel_rfl) Try.func28 rfl ?_
    refine Sat.go (Eq.refl _) (NS.call (c15) rfl ?_)
    refine Sat.go (Eq.refl _) (NS.yes (rfl) ?_)
    exact Sat.go (Eq.refl _) (NS.ret rfl rfl (zero_le _))
  rw [if_neg h2]
  rw [show chk15 b n = 0 from (if_neg h1).trans (if_neg h2)] at c15
  have h1 : chkB b = 0 := by simpa using h1
  have hg := goodL_of h1
  have ci := rIntact_ok b hg
  by_cases h3 : dmgB b = true
  · rw [if_pos h3]
    rw [if_pos h3] at ci
    refine fn_ok CN rfl (by kernel_rfl) Try.func28 rfl ?_
    refine Sat.go (Eq.refl _) (NS.call (c15) rfl ?_)
    refine Sat.go (Eq.refl _) (NS.no (rfl) ?_)
    refine Sat.go (Eq.refl _) (NS.call (ci) rfl ?_)
    refine Sat.go (Eq.refl _) (NS.yes (rfl) ?_)
    exact Sat.go (Eq.refl _) (NS.ret rfl rfl (zero_le _))
  rw [if_neg h3]
  rw [if_neg h3] at ci
  have h3 : dmgB b = false := by simpa using h3
  have hok : Okb b := ⟨h1, h3⟩
  have hd := fndB_data b.l (good_data hg) 4
  obtain ⟨h9, hsz, hen⟩ := auth9 hok
  have hgs := hok.good
  have cp := rPlace_ok (authD b) hd h9 n
  rw [show sgs (ls (authD b)) = sgB b from rfl] at cp
  by_cases h4 : (fndS (sgB b) n).2 = false
  · rw [if_pos (by rw [h4]; rfl)]
    rw [show plc (sgB b) n = -1 from if_pos (fndS_idx.1 h4)] at cp
    refine fn_ok CN rfl (by kernel_rfl) Try.func28 rfl ?_
    refine Sat.go (Eq.refl _) (NS.call (c15) rfl ?_)
    refine Sat.go (Eq.refl _) (NS.no (rfl) ?_)
    refine Sat.go (Eq.refl _) (NS.call (ci) rfl ?_)
    refine Sat.go (Eq.refl _) (NS.no (rfl) ?_)
    refine Sat.go (Eq.refl _) (NS.call (rSignatures_ok b hg) rfl ?_)
    refine Sat.go (Eq.refl _) (NS.call (cp) rfl ?_)
    refine Sat.go (Eq.refl _) (NS.yes (rfl) ?_)
    exact Sat.go (Eq.refl _) (NS.ret rfl rfl (zero_le _))
  have h4 : (fndS (sgB b) n).2 = true := by simpa using h4
  rw [if_neg (by rw [h4]; simp)]
  have hfb : (fndB b.l 4).2 = true := by
    cases hb : (fndB b.l 4).2 with
    | true => rfl
    | false => rw [sgB_none hb] at h4; cases h4
  have hix : ¬ idx (fun p : Sg => (p.1 : Int) == n) (sgB b) < 0 := fun h => by rw [fndS_idx.2 h] at h4; cases h4
  have hpl : plc (sgB b) n = 9 * idx (fun p : Sg => (p.1 : Int) == n) (sgB b) := if_neg hix
  rcases idx_cases (fun p : Sg => (p.1 : Int) == n) (sgB b) with ⟨e, _⟩ | ⟨k, hk, e, hpk, _⟩
  · exact absurd (by rw [e]; decide) hix
  have hkn : (((sgB b).getD k default).1 : Int) = n := by simpa using hpk
  rw [hpl, e, show (9 : Int) * (k : Int) = ((9 * k : Nat) : Int) by omega] at cp
  have hcl := cut_len hgs hk hkn
  have hcb := cut_bytes hgs hk hkn hen
  obtain ⟨F, hF⟩ : ∃ F, (sgB b).filter (fun p => (p.1 : Int) != n) = F := ⟨_, rfl⟩
  have hFg : GoodS F := by rw [← hF]; exact hgs.filter _
  rw [hF] at hcl hcb ⊢
  have hln := hgs.len
  refine fn_ok CN rfl (by kernel_rfl) Try.func28 rfl ?_
  refine Sat.go (Eq.refl _) (NS.call (c15) rfl ?_)
  refine Sat.go (Eq.refl _) (NS.no (rfl) ?_)
  refine Sat.go (Eq.refl _) (NS.call (ci) rfl ?_)
  refine Sat.go (Eq.refl _) (NS.no (rfl) ?_)
  refine Sat.go (Eq.refl _) (NS.call (rSignatures_ok b hg) rfl ?_)
  obtain ⟨s, hs⟩ : ∃ s, authD b = s := ⟨_, rfl⟩
  rw [hs] at cp hcb hsz ⊢
  refine Sat.go (Eq.refl _) (NS.call (cp) rfl ?_)
  refine Sat.go (Eq.refl _) (NS.no (decide_eq_false (by omega)) ?_)
  by_cases h8 : F = []
  · rw [h8] at hcl
    rw [h8]
    refine Sat.go (Eq.refl _) (NS.yes (by show ((s.size : Int) == 9) = true; rw [beq_iff_eq]; simp at hcl; omega) ?_)
    refine Sat.go (Eq.refl _) (NS.call (rRemove_ok b.l (by have := hg.1; omega) 4) rfl ?_)
    exact Sat.go (Eq.refl _) (NS.ret rfl rfl (LeA.refl _))
  rw [if_neg (by cases F <;> simp_all)]
  have hF1 : 1 ≤ F.length := by cases F with
    | nil => exact absurd rfl h8
    | cons _ _ => simp
  refine Sat.go (Eq.refl _) (NS.no (by show ((s.size : Int) == 9) = false; rw [beq_eq_false_iff_ne]; omega) ?_)
  have hw : IntKind.i64.wrap (((9 * k : Nat) : Int) + 9) = ((9 * k + 9 : Nat) : Int) := by rw [wrap_i64 (by omega) (by omega)]; omega
  refine Sat.go (Eq.refl _) (NS.chk (by kernel_rfl) ?_)
  refine Sat.go (Eq.refl _) (NS.need (by show decide ((0 : Int) ≤ 0 ∧ (0 : Int) ≤ ((9 * k : Nat) : Int) ∧ ((9 * k : Nat) : Int) ≤ (s.size : Int)) = true; exact decide_eq_true (by omega)) ?_)
  refine Sat.go (Eq.refl _) (NS.need (by show decide ((0 : Int) ≤ IntKind.i64.wrap (((9 * k : Nat) : Int) + 9) ∧ IntKind.i64.wrap (((9 * k : Nat) : Int) + 9) ≤ (s.size : Int) ∧ (s.size : Int) ≤ (s.size : Int)) = true; rw [hw]; exact decide_eq_true (by omega)) ?_)
  have hFl := hFg.len
  have hFs : (bs (enS F)).size ≤ 1024 := by rw [bs_len, enS_len hFg.tags]; omega
  refine Sat.go (Eq.refl _) (NS.need (by show decide ((s.extract (0 : Int).toNat ((9 * k : Nat) : Int).toNat).size + (s.extract (IntKind.i64.wrap (((9 * k : Nat) : Int) + 9)).toNat ((s.size : Nat) : Int).toNat).size ≤ 9223372036854775807) = true; rw [hw, ← ByteArray.size_append, hcb]; exact decide_eq_true (by omega)) ?_)
  have cw := rWith_ok b hg (bs (enS F)) hFs
  have hr := (setS_room h1 F).2 (room_of h1 hfb)
  unfold setS at hr
  simp only at hr
  have hput : (putM b.l ⟨4, (fndB b.l 4).1.flags, bs (enS F)⟩) = (putL b.l (newB b F), 0) := if_neg (by show ¬ decide (((putL b.l (newB b F)).length : Int) > 8) = true; simp; omega)
  rw [hput] at cw
  refine Sat.go (Eq.refl _) (NS.call (cw.le (LeL.cons (LeA.refl _) (LeL.cons (LeA.of (by show A.str (s.extract (0 : Int).toNat ((9 * k : Nat) : Int).toNat ++ s.extract (IntKind.i64.wrap (((9 * k : Nat) : Int) + 9)).toNat ((s.size : Nat) : Int).toNat) = A.str (bs (enS F)); rw [hw, hcb])) LeL.nil))) rfl ?_)
  exact Sat.go (Eq.refl _) (NS.ret rfl rfl (LeA.refl _))
theorem rSigners_ok (b : Bun) : FnOK Try.prog 26 [.agg b.cells] (.tup [slN (signersM b).1, .int .i64 (signersM b).2], none) := by
  unfold signersM
  refine fn_ok CN rfl (by kernel_rfl) Try.func26 rfl ?_
  refine Sat.go (Eq.refl _) (NS.call (rCheckB_ok b) rfl ?_)
  refine Sat.go (Eq.refl _) (NS.ite (fun h1 => ?_) (fun h1 => ?_))
  · rw [if_pos h1]
    exact Sat.go (Eq.refl _) (NS.ret rfl rfl (LeA.tup2 (LeA.nil' rfl) (LeA.refl _)))
  rw [if_neg (by rw [show (chkB b != 0) = false from h1]; simp)]
  have h1 : chkB b = 0 := by simpa using h1
  have hg := goodL_of h1
  refine Sat.go (Eq.refl _) (NS.call (rIntact_ok b hg) rfl ?_)
  refine Sat.go (Eq.refl _) (NS.ite (fun h2 => ?_) (fun h2 => ?_))
  · have h2 : dmgB b = true := by cases h : dmgB b <;> simp_all
    rw [h2]
    exact Sat.go (Eq.refl _) (NS.ret rfl rfl (LeA.tup2 (LeA.nil' rfl) (LeA.refl _)))
  have h2 : dmgB b = false := by cases h : dmgB b <;> simp_all
  rw [h2]
  obtain ⟨h9, hsz, hen⟩ := auth9 ⟨h1, h2⟩
  have hd := fndB_data b.l (good_data hg) 4
  refine Sat.go (Eq.refl _) (NS.call (rSignatures_ok b hg) rfl ?_)
  have hsg : sgB b = sgs (ls (authD b)) := rfl
  rw [hsg] at hsz hen ⊢
  have hd : (authD b).size ≤ 1000000 := hd
  obtain ⟨s, hs⟩ : ∃ s, authD b = s := ⟨_, rfl⟩
  rw [hs] at hd hsz hen h9 ⊢
  have hL := ls_len s
  have hS := sgs_len (ls s)
  refine Sat.go (Eq.refl _) ?_
  refine NS.loop (σ := { k : Nat // 9 * k ≤ s.size }) (fun k => [(6, .str s), (7, .own 7), (8, .int .i64 ((9 * k.1 : Nat) : Int))]) (fun k => [(7, .row 3 1 (((sgs (ls s)).take k.1).map sgI).length (rowL nC (((sgs (ls s)).take k.1).map sgI)))]) (fun k => s.size - 9 * k.1) ⟨0, by omega⟩ ?_ ?_
  · refine (weak_promote 7 7 3 1 (rowL nC []) rfl rfl).trans ?_
    exact weak_hd [] rfl ⟨rfl, rfl, rfl, trivial⟩ ⟨ren_row rfl rfl fun _ _ _ _ => rfl, trivial⟩ trivial (by kernel_rfl)
  rintro ⟨k, hk⟩
  have hk : 9 * k ≤ s.size := hk
  refine Sat.go (Eq.refl _) (NS.ite (fun b => ?_) (fun b => ?_))
  · have b : 9 * k < s.size := by have b : decide (((9 * k : Nat) : Int) < (s.size : Int)) = true := b; have := of_decide_eq_true b; omega
    have hlt : k < (sgs (ls s)).length := by omega
    have hln : (((sgs (ls s)).take k).map sgI).length = k := by rw [List.length_map, List.length_take]; omega
    have hg : IntKind.i64.wrap (((s.data.toList.getD ((9 * k : Nat) : Int).toNat 0).toNat : Nat) : Int) = (((ls s).getD (9 * k) 0 : Nat) : Int) := byteS s (9 * k) (.inr trivial)
    refine Sat.go (Eq.refl _) (NS.need (by simp; omega) ?_)
    refine Sat.go (Eq.refl _) (NS.need (decide_eq_true (by simp only [maxRow]; show ((((sgs (ls s)).take k).map sgI).length + 1) * _ ≤ _; rw [hln]; omega)) ?_)
    have e : ((sgs (ls s)).take (k + 1)).map sgI = ((sgs (ls s)).take k).map sgI ++ [(((ls s).getD (9 * k) 0 : Nat) : Int)] := by
      rw [take_snoc hlt, sgs_get (by omega), List.map_append]; rfl
    refine Sat.go (Eq.refl _) (NS.next ⟨k + 1, by omega⟩ (by show s.size - 9 * (k + 1) < s.size - 9 * k; omega) ?_)
    refine weak_hd [(7, 33)] rfl ⟨rfl, rfl, ren_int rfl (nine (k := k) (by omega)), trivial⟩ ⟨?_, trivial⟩ trivial (by kernel_rfl)
    simp only [e]
    exact ren_row rfl (by rw [List.length_append]; rfl) (fun i hi j hj => row_snoc (cells := nC) (l := ((sgs (ls s)).take k).map sgI) (x := (((ls s).getD (9 * k) 0 : Nat) : Int)) (congrArg (fun y => [A.int .i64 y]) hg) i (by rw [List.length_append] at hi; exact hi) j hj)
  have b : 9 * k = s.size := by have b : decide (((9 * k : Nat) : Int) < (s.size : Int)) = false := b; have := of_decide_eq_false b; omega
  have e : (sgs (ls s)).take k = sgs (ls s) := take_all (by omega)
  refine Sat.go (Eq.refl _) (NS.leave rfl (Eq.refl _) ?_)
  exact Sat.go (Eq.refl _) (NS.ret rfl rfl (LeA.tup2 (LeA.sl (by show (((sgs (ls s)).take k).map sgI).length = _; rw [e]; rfl) (fun i hi j hj => by show rowL nC (((sgs (ls s)).take k).map sgI) i j = _; rw [e]; rfl)) (LeA.refl _)))
end Go.Proofs.Ytdhfgfkfejpfdaa
