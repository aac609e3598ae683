/- The reference's Protect; SecurityProtect. -/
import Derived.Test.YtdhfgfkfejpfdaaGreatKRD
set_option linter.unusedSimpArgs false
set_option linter.unusedSectionVars false
set_option linter.unusedVariables false
namespace Go.Mb
open Go.Sy
set_option linter.unusedVariables false
theorem protM_le (b : Bun) (n : Int) (key : ByteArray) : (protM b n key).1.l.length ≤ 1000000 := by
  by_cases h : (protM b n key).2 = 0
  · obtain ⟨pa, hf, hr, e⟩ := protM_ok.1 (show protM b n key = ((protM b n key).1, 0) by rw [← h])
    rw [e]
    have := (setS_room pa.ok.chk (insS (n.toNat, sgnM b n.toNat key) (sgB b))).2 hr
    omega
  · rw [protM_fst h]; exact Nat.zero_le _
end Go.Mb
namespace Go.Proofs.YtdhfgfkfejpfdaaGreat
open Go.Sy Go.Mb
set_option maxRecDepth 100000
set_option linter.unusedVariables false
set_option maxHeartbeats 4000000

noncomputable def EPz : Env := { P := Tryz.prog, eqT := lookE eqTab, frz := [65] }
theorem EPz_ok : EqOK EPz := eqOK_of eqTab_ok
noncomputable def CPz : Cx := { E := EPz, inl := [], ok := EPz_ok }
theorem rProtect_ok (b : Bun) (n : Int) (key : ByteArray) : FnOK Tryz.prog 7 [.agg b.cells, .int .i64 n, .str key] (bunR (protM b n key), none) := by
  have c15 := rCheck15_ok b n
  have hpr := @protM_ok b
  unfold protM chkAll
  by_cases h1 : (chkB b != 0) = true
  · simp only [if_pos h1]
    rw [show chk15 b n = chkB b from if_pos h1] at c15
    refine fn_ok CPz rfl (by kernel_rfl) Tryz.func7 rfl ?_
    refine Sat.go (Eq.refl _) (NS.call (c15) rfl ?_)
    refine Sat.go (Eq.refl _) (NS.yes (h1) ?_)
    exact Sat.go (Eq.refl _) (NS.ret rfl rfl (zero_le _))
  simp only [if_neg h1]
  by_cases h2 : (decide (n < 0) || decide (n ≥ 16)) = true
  · simp only [if_pos h2]
    rw [show chk15 b n = 2 from (if_neg h1).trans (if_pos h2)] at c15
    refine fn_ok CPz rfl (by kernel_rfl) Tryz.func7 rfl ?_
    refine Sat.go (Eq.refl _) (NS.call (c15) rfl ?_)
    refine Sat.go (Eq.refl _) (NS.yes (rfl) ?_)
    exact Sat.go (Eq.refl _) (NS.ret rfl rfl (zero_le _))
  simp only [if_neg h2]
  rw [show chk15 b n = 0 from (if_neg h1).trans (if_neg h2)] at c15
  by_cases hk : ((key.size : Int) != 16) = true
  · simp only [if_pos hk]
    refine fn_ok CPz rfl (by kernel_rfl) Tryz.func7 rfl ?_
    refine Sat.go (Eq.refl _) (NS.call (c15) rfl ?_)
    refine Sat.go (Eq.refl _) (NS.no (rfl) ?_)
    refine Sat.go (Eq.refl _) (NS.yes (hk) ?_)
    exact Sat.go (Eq.refl _) (NS.ret rfl rfl (zero_le _))
  simp only [if_neg hk]
  have hks : key.size = 16 := by simp at hk; omega
  have hk : ((key.size : Int) != 16) = false := by simpa using hk
  have h1 : chkB b = 0 := by simpa using h1
  have hg := goodL_of h1
  have ci := rIntact_ok b hg
  by_cases h3 : dmgB b = true
  · simp only [if_pos h3]
    rw [if_pos h3] at ci
    refine fn_ok CPz rfl (by kernel_rfl) Tryz.func7 rfl ?_
    refine Sat.go (Eq.refl _) (NS.call (c15) rfl ?_)
    refine Sat.go (Eq.refl _) (NS.no (rfl) ?_)
    refine Sat.go (Eq.refl _) (NS.no (hk) ?_)
    refine Sat.go (Eq.refl _) (NS.call (ci) rfl ?_)
    refine Sat.go (Eq.refl _) (NS.yes (rfl) ?_)
    exact Sat.go (Eq.refl _) (NS.ret rfl rfl (zero_le _))
  simp only [if_neg h3]
  rw [if_neg h3] at ci
  rw [if_neg (by simp)]
  have h3 : dmgB b = false := by simpa using h3
  have hok : Okb b := ⟨h1, h3⟩
  have hd := fndB_data b.l (good_data hg) 4
  obtain ⟨h9, hsz, hen⟩ := auth9 hok
  have hgs := hok.good
  have hn : okN n := by unfold okN; simp only [Bool.or_eq_true, decide_eq_true_eq, not_or] at h2; omega
  have ct := rTag_ok b h1 n hn key hks
  have cp := rPlace_ok (authD b) hd h9 n
  rw [show sgs (ls (authD b)) = sgB b from rfl] at cp
  have cs := rSignatures_ok b hg
  by_cases h4 : (fndS (sgB b) n).2 = true
  · rw [if_pos h4]
    have hix : ¬ idx (fun p : Sg => (p.1 : Int) == n) (sgB b) < 0 := fun h => by rw [fndS_idx.2 h] at h4; cases h4
    have hpl : plc (sgB b) n = 9 * idx (fun p : Sg => (p.1 : Int) == n) (sgB b) := if_neg hix
    refine fn_ok CPz rfl (by kernel_rfl) Tryz.func7 rfl ?_
    refine Sat.go (Eq.refl _) (NS.call (c15) rfl ?_)
    refine Sat.go (Eq.refl _) (NS.no (rfl) ?_)
    refine Sat.go (Eq.refl _) (NS.no (hk) ?_)
    refine Sat.go (Eq.refl _) (NS.call (ci) rfl ?_)
    refine Sat.go (Eq.refl _) (NS.no (rfl) ?_)
    refine Sat.go (Eq.refl _) (NS.call (cs) rfl ?_)
    refine Sat.go (Eq.refl _) (NS.call (cp) rfl ?_)
    refine Sat.go (Eq.refl _) (NS.yes (by show decide (plc (sgB b) n ≥ 0) = true; rw [hpl]; exact decide_eq_true (by omega)) ?_)
    exact Sat.go (Eq.refl _) (NS.ret rfl rfl (zero_le _))
  rw [if_neg h4]
  have h4 : (fndS (sgB b) n).2 = false := by simpa using h4
  rw [show plc (sgB b) n = -1 from if_pos (fndS_idx.1 h4)] at cp
  have pa : PA b n key := ⟨hok, hn, hks⟩
  have hIns := fresh_ins pa h4
  obtain ⟨m, rfl⟩ : ∃ m : Nat, n = m := ⟨n.toNat, by unfold okN at hn; omega⟩
  have hn2 := hn
  unfold okN at hn2
  have hnt : ((m : Nat) : Int).toNat = m := by omega
  rw [hnt] at hIns ct ⊢
  have hne : ∀ p ∈ sgB b, p.1 ≠ ((m, sgnM b m key) : Sg).1 := fun p hp e => fndS_none.1 h4 p hp (by rw [e])
  have hrl := setS_room h1 (insS (m, sgnM b m key) (sgB b))
  have hln := hgs.len
  by_cases h5 : ((authD b).toList == ByteArray.empty.toList) = true ∧ b.l.length ≥ 8
  · have hfb : (fndB b.l 4).2 = false := by
      cases hb : (fndB b.l 4).2 with
      | false => rfl
      | true =>
        have he := h5.1
        rw [beq_iff_eq, ba_inj] at he
        have := (hok.enc hb).2
        rw [he] at hsz
        have h0 : (sgB b).length = 0 := by have : (ByteArray.empty).size = 0 := rfl; omega
        exact absurd (List.length_eq_zero_iff.1 h0) this
    have hbig : decide (((putL b.l (newB b (insS (m, sgnM b m key) (sgB b)))).length : Int) > 8) = true := by
      rw [putL_len hg.2.2]
      have : remB b.l (newB b (insS (m, sgnM b m key) (sgB b))).kind = b.l := remB_none hfb
      rw [this]; exact decide_eq_true (by omega)
    rw [if_pos hbig]
    refine fn_ok CPz rfl (by kernel_rfl) Tryz.func7 rfl ?_
    refine Sat.go (Eq.refl _) (NS.call (c15) rfl ?_)
    refine Sat.go (Eq.refl _) (NS.no (rfl) ?_)
    refine Sat.go (Eq.refl _) (NS.no (hk) ?_)
    refine Sat.go (Eq.refl _) (NS.call (ci) rfl ?_)
    refine Sat.go (Eq.refl _) (NS.no (rfl) ?_)
    refine Sat.go (Eq.refl _) (NS.call (cs) rfl ?_)
    refine Sat.go (Eq.refl _) (NS.call (cp) rfl ?_)
    refine Sat.go (Eq.refl _) (NS.no (rfl) ?_)
    refine Sat.go (Eq.refl _) (NS.yes (h5.1) ?_)
    refine Sat.go (Eq.refl _) (NS.yes (by show decide ((b.l.length : Int) ≥ 8) = true; exact decide_eq_true (by omega)) ?_)
    exact Sat.go (Eq.refl _) (NS.ret rfl rfl (zero_le _))
  have hroom : room b := by
    by_cases hb : (fndB b.l 4).2 = true
    · exact room_of h1 hb
    · have hb : (fndB b.l 4).2 = false := by simpa using hb
      have he : authD b = .empty := by unfold authD; rw [(fndB_none hb).1]; rfl
      have : ¬ b.l.length ≥ 8 := fun h => h5 ⟨by rw [he]; exact beq_self_eq_true _, h⟩
      unfold room
      rw [remB_none hb]; omega
  have hsm := hrl.2 hroom
  have hsm : (putL b.l (newB b (insS (m, sgnM b m key) (sgB b)))).length ≤ 8 := hsm
  rw [if_neg (by simp; omega)]
  have hput : putM b.l ⟨4, (fndB b.l 4).1.flags, bs (enS (insS (m, sgnM b m key) (sgB b)))⟩ = (putL b.l (newB b (insS (m, sgnM b m key) (sgB b))), 0) := if_neg (by show ¬ decide (((putL b.l (newB b (insS (m, sgnM b m key) (sgB b)))).length : Int) > 8) = true; simp; omega)
  have hFl := hIns.len
  have hFs : (bs (enS (insS (m, sgnM b m key) (sgB b)))).size ≤ 1024 := by rw [bs_len, enS_len hIns.tags]; omega
  have cw := rWith_ok b hg (bs (enS (insS (m, sgnM b m key) (sgB b)))) hFs
  rw [hput] at cw
  have hw : IntKind.u8.wrap ((m : Nat) : Int) = ((m : Nat) : Int) := by rw [wrap_u8m]; omega
  have hb1 : bytesOf (fun i j => getA [A.int .u8 (IntKind.u8.wrap (m : Int))] (i * 1 + j)) 1 = bs [m] := by rw [hw]; exact bytes1 m
  have hS : sgB b = sgs (ls (authD b)) := rfl
  obtain ⟨s, hs⟩ : ∃ s, authD b = s := ⟨_, rfl⟩
  rw [hs] at cs hS hsz hen h5 h9 cp
  have hd : s.size ≤ 1000000 := by rw [← hs]; exact hd
  have hL := ls_len s
  refine fn_ok CPz rfl (by kernel_rfl) Tryz.func7 rfl ?_
  refine Sat.go (Eq.refl _) (NS.call (c15) rfl ?_)
  refine Sat.go (Eq.refl _) (NS.no (rfl) ?_)
  refine Sat.go (Eq.refl _) (NS.no (hk) ?_)
  refine Sat.go (Eq.refl _) (NS.call (ci) rfl ?_)
  refine Sat.go (Eq.refl _) (NS.no (rfl) ?_)
  refine Sat.go (Eq.refl _) (NS.call (cs) rfl ?_)
  refine Sat.go (Eq.refl _) (NS.call (cp) rfl ?_)
  refine Sat.go (Eq.refl _) (NS.no (rfl) ?_)
  by_cases h6 : (s.toList == ByteArray.empty.toList) = true
  · refine Sat.go (Eq.refl _) (NS.yes (h6) ?_)
    refine Sat.go (Eq.refl _) (NS.no (by show decide ((b.l.length : Int) ≥ 8) = false; exact decide_eq_false (fun h => h5 ⟨h6, by omega⟩)) ?_)
    refine Sat.go (Eq.refl _) ?_
    refine NS.loop (σ := { k : Nat // pos m (sgB b) k }) (fun k => [(1, .int .i64 m), (2, .str key), (3, .ptr 3 0), (6, .ptr 6 0), (10, .str s), (11, .int .i64 ((9 * k.1 : Nat) : Int))]) (fun k => [(3, .box b.cells), (6, .box [.int .i64 0, .int .i64 0, .int .i64 0, .int .i64 0, .int .i64 0, .int .i64 0, .int .i64 0, .int .i64 0, .int .i64 0, .int .i64 0, .nils, .str .empty])]) (fun k => (sgB b).length - k.1) ⟨0, Nat.zero_le _, fun q hq => absurd hq (Nat.not_lt_zero _)⟩ ?_ ?_
    · exact weak_hd [] rfl ⟨rfl, rfl, rfl, rfl, rfl, rfl, trivial⟩ ⟨⟨_, rfl, renBun _ b⟩, ⟨_, rfl, _, _, rfl, rfl, _, _, rfl, rfl, _, _, rfl, rfl, _, _, rfl, rfl, _, _, rfl, rfl, _, _, rfl, rfl, _, _, rfl, rfl, _, _, rfl, rfl, _, _, rfl, rfl, _, _, rfl, rfl, _, _, rfl, rfl, _, _, rfl, rfl, rfl⟩, trivial⟩ trivial (by kernel_rfl)
    rintro ⟨k, hps⟩
    have hps : pos m (sgB b) k := hps
    have hk1 := hps.1
    refine Sat.go (Eq.refl _) (NS.ite (fun a => ?_) (fun a => ?_))
    · have a : k < (sgB b).length := by have a : decide (((9 * k : Nat) : Int) < (s.size : Int)) = true := a; have := of_decide_eq_true a; omega
      have hgk : (sgB b).getD k default = ((ls s).getD (9 * k) 0, ((ls s).drop (9 * k + 1)).take 8) := by rw [hS, sgs_get (by omega)]
      have hg9 : IntKind.i64.wrap (((s.data.toList.getD ((9 * k : Nat) : Int).toNat 0).toNat : Nat) : Int) = (((ls s).getD (9 * k) 0 : Nat) : Int) := byteS s (9 * k) (.inr trivial)
      refine Sat.go (Eq.refl _) (NS.need (by show decide ((0 : Int) ≤ ((9 * k : Nat) : Int) ∧ ((9 * k : Nat) : Int) < (s.size : Int)) = true; exact decide_eq_true (by omega)) ?_)
      refine Sat.go (Eq.refl _) (NS.ite (fun c => ?_) (fun c => ?_))
      · have c : ((sgB b).getD k default).1 < m := by
          have c : decide (IntKind.i64.wrap (((s.data.toList.getD ((9 * k : Nat) : Int).toNat 0).toNat : Nat) : Int) < (m : Int)) = true := c
          rw [hg9] at c
          rw [hgk]; have := of_decide_eq_true c; show (ls s).getD (9 * k) 0 < m; omega
        refine Sat.go (Eq.refl _) (NS.next ⟨k + 1, by omega, fun q hq => ?_⟩ (by show (sgB b).length - (k + 1) < (sgB b).length - k; omega) ?_)
        · by_cases hqk : q = k
          · rw [hqk]; exact c
          · exact hps.2 q (by omega)
        · exact weak_hd [] rfl ⟨rfl, rfl, rfl, rfl, rfl, ren_int rfl (nine (k := k) (by omega)), trivial⟩ ⟨⟨_, rfl, renBun _ b⟩, ⟨_, rfl, _, _, rfl, rfl, _, _, rfl, rfl, _, _, rfl, rfl, _, _, rfl, rfl, _, _, rfl, rfl, _, _, rfl, rfl, _, _, rfl, rfl, _, _, rfl, rfl, _, _, rfl, rfl, _, _, rfl, rfl, _, _, rfl, rfl, _, _, rfl, rfl, rfl⟩, trivial⟩ trivial (by kernel_rfl)
      · have h0 : k < (sgB b).length → ¬ ((sgB b).getD k default).1 < m := by
          have c : decide (IntKind.i64.wrap (((s.data.toList.getD ((9 * k : Nat) : Int).toNat 0).toNat : Nat) : Int) < (m : Int)) = false := c
          rw [hg9] at c
          intro _
          rw [hgk]; have := of_decide_eq_false c; show ¬ (ls s).getD (9 * k) 0 < m; omega
        refine Sat.go (Eq.refl _) (NS.leave rfl (Eq.refl _) ?_)
        have hib := ins_bytes hgs (x := (m, sgnM b m key)) hps h0 hne hen (bs (sgnM b m key)) rfl
        have hsz2 := congrArg ByteArray.size hib
        rw [ByteArray.size_append, ByteArray.size_append, ByteArray.size_append] at hsz2
        have hone : (bs [((m, sgnM b m key) : Sg).1]).size = 1 := bs_len _
        have hone2 : (bs [m]).size = 1 := bs_len _
        refine Sat.go (Eq.refl _) (NS.chk (by kernel_rfl) ?_)
        refine Sat.go (Eq.refl _) (NS.need (by show decide ((0 : Int) ≤ 0 ∧ (0 : Int) ≤ ((9 * k : Nat) : Int) ∧ ((9 * k : Nat) : Int) ≤ (s.size : Int)) = true; exact decide_eq_true (by omega)) ?_)
        refine Sat.go (Eq.refl _) (NS.need (allN_row fun i hi => by rw [Nat.lt_one_iff.1 hi]; rfl) ?_)
        refine Sat.go (Eq.refl _) (NS.need (by show decide ((s.extract (0 : Int).toNat ((9 * k : Nat) : Int).toNat).size + (bytesOf (fun i j => getA [A.int .u8 (IntKind.u8.wrap (m : Int))] (i * 1 + j)) 1).size ≤ 9223372036854775807) = true; rw [hb1]; exact decide_eq_true (by omega)) ?_)
        refine Sat.go (Eq.refl _) (NS.call (ct) rfl ?_)
        refine Sat.go (Eq.refl _) (NS.need (by show decide ((s.extract (0 : Int).toNat ((9 * k : Nat) : Int).toNat ++ (bytesOf (fun i j => getA [A.int .u8 (IntKind.u8.wrap (m : Int))] (i * 1 + j)) 1)).size + (bs (sgnM b m key)).size ≤ 9223372036854775807) = true; rw [hb1, ByteArray.size_append]; exact decide_eq_true (by omega)) ?_)
        refine Sat.go (Eq.refl _) (NS.need (by show decide ((0 : Int) ≤ ((9 * k : Nat) : Int) ∧ ((9 * k : Nat) : Int) ≤ (s.size : Int) ∧ (s.size : Int) ≤ (s.size : Int)) = true; exact decide_eq_true (by omega)) ?_)
        refine Sat.go (Eq.refl _) (NS.need (by show decide ((s.extract (0 : Int).toNat ((9 * k : Nat) : Int).toNat ++ (bytesOf (fun i j => getA [A.int .u8 (IntKind.u8.wrap (m : Int))] (i * 1 + j)) 1) ++ bs (sgnM b m key)).size + (s.extract ((9 * k : Nat) : Int).toNat ((s.size : Nat) : Int).toNat).size ≤ 9223372036854775807) = true; rw [hb1, ByteArray.size_append, ByteArray.size_append]; exact decide_eq_true (by omega)) ?_)
        refine Sat.go (Eq.refl _) (NS.call (cw.le (LeL.cons (LeA.refl _) (LeL.cons (LeA.of (by show A.str (s.extract (0 : Int).toNat ((9 * k : Nat) : Int).toNat ++ (bytesOf (fun i j => getA [A.int .u8 (IntKind.u8.wrap (m : Int))] (i * 1 + j)) 1) ++ bs (sgnM b m key) ++ s.extract ((9 * k : Nat) : Int).toNat ((s.size : Nat) : Int).toNat) = _; rw [hb1, hib])) LeL.nil))) rfl ?_)
        exact Sat.go (Eq.refl _) (NS.ret rfl rfl (LeA.refl _))
    · have a : ¬ k < (sgB b).length := by have a : decide (((9 * k : Nat) : Int) < (s.size : Int)) = false := a; have := of_decide_eq_false a; omega
      have h0 : k < (sgB b).length → ¬ ((sgB b).getD k default).1 < m := fun h => absurd h a
      refine Sat.go (Eq.refl _) (NS.leave rfl (Eq.refl _) ?_)
      have hib := ins_bytes hgs (x := (m, sgnM b m key)) hps h0 hne hen (bs (sgnM b m key)) rfl
      have hsz2 := congrArg ByteArray.size hib
      rw [ByteArray.size_append, ByteArray.size_append, ByteArray.size_append] at hsz2
      have hone : (bs [((m, sgnM b m key) : Sg).1]).size = 1 := bs_len _
      have hone2 : (bs [m]).size = 1 := bs_len _
      refine Sat.go (Eq.refl _) (NS.chk (by kernel_rfl) ?_)
      refine Sat.go (Eq.refl _) (NS.need (by show decide ((0 : Int) ≤ 0 ∧ (0 : Int) ≤ ((9 * k : Nat) : Int) ∧ ((9 * k : Nat) : Int) ≤ (s.size : Int)) = true; exact decide_eq_true (by omega)) ?_)
      refine Sat.go (Eq.refl _) (NS.need (allN_row fun i hi => by rw [Nat.lt_one_iff.1 hi]; rfl) ?_)
      refine Sat.go (Eq.refl _) (NS.need (by show decide ((s.extract (0 : Int).toNat ((9 * k : Nat) : Int).toNat).size + (bytesOf (fun i j => getA [A.int .u8 (IntKind.u8.wrap (m : Int))] (i * 1 + j)) 1).size ≤ 9223372036854775807) = true; rw [hb1]; exact decide_eq_true (by omega)) ?_)
      refine Sat.go (Eq.refl _) (NS.call (ct) rfl ?_)
      refine Sat.go (Eq.refl _) (NS.need (by show decide ((s.extract (0 : Int).toNat ((9 * k : Nat) : Int).toNat ++ (bytesOf (fun i j => getA [A.int .u8 (IntKind.u8.wrap (m : Int))] (i * 1 + j)) 1)).size + (bs (sgnM b m key)).size ≤ 9223372036854775807) = true; rw [hb1, ByteArray.size_append]; exact decide_eq_true (by omega)) ?_)
      refine Sat.go (Eq.refl _) (NS.need (by show decide ((0 : Int) ≤ ((9 * k : Nat) : Int) ∧ ((9 * k : Nat) : Int) ≤ (s.size : Int) ∧ (s.size : Int) ≤ (s.size : Int)) = true; exact decide_eq_true (by omega)) ?_)
      refine Sat.go (Eq.refl _) (NS.need (by show decide ((s.extract (0 : Int).toNat ((9 * k : Nat) : Int).toNat ++ (bytesOf (fun i j => getA [A.int .u8 (IntKind.u8.wrap (m : Int))] (i * 1 + j)) 1) ++ bs (sgnM b m key)).size + (s.extract ((9 * k : Nat) : Int).toNat ((s.size : Nat) : Int).toNat).size ≤ 9223372036854775807) = true; rw [hb1, ByteArray.size_append, ByteArray.size_append]; exact decide_eq_true (by omega)) ?_)
      refine Sat.go (Eq.refl _) (NS.call (cw.le (LeL.cons (LeA.refl _) (LeL.cons (LeA.of (by show A.str (s.extract (0 : Int).toNat ((9 * k : Nat) : Int).toNat ++ (bytesOf (fun i j => getA [A.int .u8 (IntKind.u8.wrap (m : Int))] (i * 1 + j)) 1) ++ bs (sgnM b m key) ++ s.extract ((9 * k : Nat) : Int).toNat ((s.size : Nat) : Int).toNat) = _; rw [hb1, hib])) LeL.nil))) rfl ?_)
      exact Sat.go (Eq.refl _) (NS.ret rfl rfl (LeA.refl _))
  · refine Sat.go (Eq.refl _) (NS.no (by simpa using h6) ?_)
    refine Sat.go (Eq.refl _) ?_
    refine NS.loop (σ := { k : Nat // pos m (sgB b) k }) (fun k => [(1, .int .i64 m), (2, .str key), (3, .ptr 3 0), (6, .ptr 6 0), (10, .str s), (11, .int .i64 ((9 * k.1 : Nat) : Int))]) (fun k => [(3, .box b.cells), (6, .box [.int .i64 0, .int .i64 0, .int .i64 0, .int .i64 0, .int .i64 0, .int .i64 0, .int .i64 0, .int .i64 0, .int .i64 0, .int .i64 0, .nils, .str .empty])]) (fun k => (sgB b).length - k.1) ⟨0, Nat.zero_le _, fun q hq => absurd hq (Nat.not_lt_zero _)⟩ ?_ ?_
    · exact weak_hd [] rfl ⟨rfl, rfl, rfl, rfl, rfl, rfl, trivial⟩ ⟨⟨_, rfl, renBun _ b⟩, ⟨_, rfl, _, _, rfl, rfl, _, _, rfl, rfl, _, _, rfl, rfl, _, _, rfl, rfl, _, _, rfl, rfl, _, _, rfl, rfl, _, _, rfl, rfl, _, _, rfl, rfl, _, _, rfl, rfl, _, _, rfl, rfl, _, _, rfl, rfl, _, _, rfl, rfl, rfl⟩, trivial⟩ trivial (by kernel_rfl)
    rintro ⟨k, hps⟩
    have hps : pos m (sgB b) k := hps
    have hk1 := hps.1
    refine Sat.go (Eq.refl _) (NS.ite (fun a => ?_) (fun a => ?_))
    · have a : k < (sgB b).length := by have a : decide (((9 * k : Nat) : Int) < (s.size : Int)) = true := a; have := of_decide_eq_true a; omega
      have hgk : (sgB b).getD k default = ((ls s).getD (9 * k) 0, ((ls s).drop (9 * k + 1)).take 8) := by rw [hS, sgs_get (by omega)]
      have hg9 : IntKind.i64.wrap (((s.data.toList.getD ((9 * k : Nat) : Int).toNat 0).toNat : Nat) : Int) = (((ls s).getD (9 * k) 0 : Nat) : Int) := byteS s (9 * k) (.inr trivial)
      refine Sat.go (Eq.refl _) (NS.need (by show decide ((0 : Int) ≤ ((9 * k : Nat) : Int) ∧ ((9 * k : Nat) : Int) < (s.size : Int)) = true; exact decide_eq_true (by omega)) ?_)
      refine Sat.go (Eq.refl _) (NS.ite (fun c => ?_) (fun c => ?_))
      · have c : ((sgB b).getD k default).1 < m := by
          have c : decide (IntKind.i64.wrap (((s.data.toList.getD ((9 * k : Nat) : Int).toNat 0).toNat : Nat) : Int) < (m : Int)) = true := c
          rw [hg9] at c
          rw [hgk]; have := of_decide_eq_true c; show (ls s).getD (9 * k) 0 < m; omega
        refine Sat.go (Eq.refl _) (NS.next ⟨k + 1, by omega, fun q hq => ?_⟩ (by show (sgB b).length - (k + 1) < (sgB b).length - k; omega) ?_)
        · by_cases hqk : q = k
          · rw [hqk]; exact c
          · exact hps.2 q (by omega)
        · exact weak_hd [] rfl ⟨rfl, rfl, rfl, rfl, rfl, ren_int rfl (nine (k := k) (by omega)), trivial⟩ ⟨⟨_, rfl, renBun _ b⟩, ⟨_, rfl, _, _, rfl, rfl, _, _, rfl, rfl, _, _, rfl, rfl, _, _, rfl, rfl, _, _, rfl, rfl, _, _, rfl, rfl, _, _, rfl, rfl, _, _, rfl, rfl, _, _, rfl, rfl, _, _, rfl, rfl, _, _, rfl, rfl, _, _, rfl, rfl, rfl⟩, trivial⟩ trivial (by kernel_rfl)
      · have h0 : k < (sgB b).length → ¬ ((sgB b).getD k default).1 < m := by
          have c : decide (IntKind.i64.wrap (((s.data.toList.getD ((9 * k : Nat) : Int).toNat 0).toNat : Nat) : Int) < (m : Int)) = false := c
          rw [hg9] at c
          intro _
          rw [hgk]; have := of_decide_eq_false c; show ¬ (ls s).getD (9 * k) 0 < m; omega
        refine Sat.go (Eq.refl _) (NS.leave rfl (Eq.refl _) ?_)
        have hib := ins_bytes hgs (x := (m, sgnM b m key)) hps h0 hne hen (bs (sgnM b m key)) rfl
        have hsz2 := congrArg ByteArray.size hib
        rw [ByteArray.size_append, ByteArray.size_append, ByteArray.size_append] at hsz2
        have hone : (bs [((m, sgnM b m key) : Sg).1]).size = 1 := bs_len _
        have hone2 : (bs [m]).size = 1 := bs_len _
        refine Sat.go (Eq.refl _) (NS.chk (by kernel_rfl) ?_)
        refine Sat.go (Eq.refl _) (NS.need (by show decide ((0 : Int) ≤ 0 ∧ (0 : Int) ≤ ((9 * k : Nat) : Int) ∧ ((9 * k : Nat) : Int) ≤ (s.size : Int)) = true; exact decide_eq_true (by omega)) ?_)
        refine Sat.go (Eq.refl _) (NS.need (allN_row fun i hi => by rw [Nat.lt_one_iff.1 hi]; rfl) ?_)
        refine Sat.go (Eq.refl _) (NS.need (by show decide ((s.extract (0 : Int).toNat ((9 * k : Nat) : Int).toNat).size + (bytesOf (fun i j => getA [A.int .u8 (IntKind.u8.wrap (m : Int))] (i * 1 + j)) 1).size ≤ 9223372036854775807) = true; rw [hb1]; exact decide_eq_true (by omega)) ?_)
        refine Sat.go (Eq.refl _) (NS.call (ct) rfl ?_)
        refine Sat.go (Eq.refl _) (NS.need (by show decide ((s.extract (0 : Int).toNat ((9 * k : Nat) : Int).toNat ++ (bytesOf (fun i j => getA [A.int .u8 (IntKind.u8.wrap (m : Int))] (i * 1 + j)) 1)).size + (bs (sgnM b m key)).size ≤ 9223372036854775807) = true; rw [hb1, ByteArray.size_append]; exact decide_eq_true (by omega)) ?_)
        refine Sat.go (Eq.refl _) (NS.need (by show decide ((0 : Int) ≤ ((9 * k : Nat) : Int) ∧ ((9 * k : Nat) : Int) ≤ (s.size : Int) ∧ (s.size : Int) ≤ (s.size : Int)) = true; exact decide_eq_true (by omega)) ?_)
        refine Sat.go (Eq.refl _) (NS.need (by show decide ((s.extract (0 : Int).toNat ((9 * k : Nat) : Int).toNat ++ (bytesOf (fun i j => getA [A.int .u8 (IntKind.u8.wrap (m : Int))] (i * 1 + j)) 1) ++ bs (sgnM b m key)).size + (s.extract ((9 * k : Nat) : Int).toNat ((s.size : Nat) : Int).toNat).size ≤ 9223372036854775807) = true; rw [hb1, ByteArray.size_append, ByteArray.size_append]; exact decide_eq_true (by omega)) ?_)
        refine Sat.go (Eq.refl _) (NS.call (cw.le (LeL.cons (LeA.refl _) (LeL.cons (LeA.of (by show A.str (s.extract (0 : Int).toNat ((9 * k : Nat) : Int).toNat ++ (bytesOf (fun i j => getA [A.int .u8 (IntKind.u8.wrap (m : Int))] (i * 1 + j)) 1) ++ bs (sgnM b m key) ++ s.extract ((9 * k : Nat) : Int).toNat ((s.size : Nat) : Int).toNat) = _; rw [hb1, hib])) LeL.nil))) rfl ?_)
        exact Sat.go (Eq.refl _) (NS.ret rfl rfl (LeA.refl _))
    · have a : ¬ k < (sgB b).length := by have a : decide (((9 * k : Nat) : Int) < (s.size : Int)) = false := a; have := of_decide_eq_false a; omega
      have h0 : k < (sgB b).length → ¬ ((sgB b).getD k default).1 < m := fun h => absurd h a
      refine Sat.go (Eq.refl _) (NS.leave rfl (Eq.refl _) ?_)
      have hib := ins_bytes hgs (x := (m, sgnM b m key)) hps h0 hne hen (bs (sgnM b m key)) rfl
      have hsz2 := congrArg ByteArray.size hib
      rw [ByteArray.size_append, ByteArray.size_append, ByteArray.size_append] at hsz2
      have hone : (bs [((m, sgnM b m key) : Sg).1]).size = 1 := bs_len _
      have hone2 : (bs [m]).size = 1 := bs_len _
      refine Sat.go (Eq.refl _) (NS.chk (by kernel_rfl) ?_)
      refine Sat.go (Eq.refl _) (NS.need (by show decide ((0 : Int) ≤ 0 ∧ (0 : Int) ≤ ((9 * k : Nat) : Int) ∧ ((9 * k : Nat) : Int) ≤ (s.size : Int)) = true; exact decide_eq_true (by omega)) ?_)
      refine Sat.go (Eq.refl _) (NS.need (allN_row fun i hi => by rw [Nat.lt_one_iff.1 hi]; rfl) ?_)
      refine Sat.go (Eq.refl _) (NS.need (by show decide ((s.extract (0 : Int).toNat ((9 * k : Nat) : Int).toNat).size + (bytesOf (fun i j => getA [A.int .u8 (IntKind.u8.wrap (m : Int))] (i * 1 + j)) 1).size ≤ 9223372036854775807) = true; rw [hb1]; exact decide_eq_true (by omega)) ?_)
      refine Sat.go (Eq.refl _) (NS.call (ct) rfl ?_)
      refine Sat.go (Eq.refl _) (NS.need (by show decide ((s.extract (0 : Int).toNat ((9 * k : Nat) : Int).toNat ++ (bytesOf (fun i j => getA [A.int .u8 (IntKind.u8.wrap (m : Int))] (i * 1 + j)) 1)).size + (bs (sgnM b m key)).size ≤ 9223372036854775807) = true; rw [hb1, ByteArray.size_append]; exact decide_eq_true (by omega)) ?_)
      refine Sat.go (Eq.refl _) (NS.need (by show decide ((0 : Int) ≤ ((9 * k : Nat) : Int) ∧ ((9 * k : Nat) : Int) ≤ (s.size : Int) ∧ (s.size : Int) ≤ (s.size : Int)) = true; exact decide_eq_true (by omega)) ?_)
      refine Sat.go (Eq.refl _) (NS.need (by show decide ((s.extract (0 : Int).toNat ((9 * k : Nat) : Int).toNat ++ (bytesOf (fun i j => getA [A.int .u8 (IntKind.u8.wrap (m : Int))] (i * 1 + j)) 1) ++ bs (sgnM b m key)).size + (s.extract ((9 * k : Nat) : Int).toNat ((s.size : Nat) : Int).toNat).size ≤ 9223372036854775807) = true; rw [hb1, ByteArray.size_append, ByteArray.size_append]; exact decide_eq_true (by omega)) ?_)
      refine Sat.go (Eq.refl _) (NS.call (cw.le (LeL.cons (LeA.refl _) (LeL.cons (LeA.of (by show A.str (s.extract (0 : Int).toNat ((9 * k : Nat) : Int).toNat ++ (bytesOf (fun i j => getA [A.int .u8 (IntKind.u8.wrap (m : Int))] (i * 1 + j)) 1) ++ bs (sgnM b m key) ++ s.extract ((9 * k : Nat) : Int).toNat ((s.size : Nat) : Int).toNat) = _; rw [hb1, hib])) LeL.nil))) rfl ?_)
      exact Sat.go (Eq.refl _) (NS.ret rfl rfl (LeA.refl _))
theorem securityProtect_ok (b : Bun) (n : Int) (key : ByteArray) : FnOK Tryz.prog 3 [.agg b.cells, .int .i64 n, .str key] (.bool true, none) := by
  refine fn_ok CN rfl (by kernel_rfl) Tryz.func3 rfl ?_
  refine Sat.go (Eq.refl _) (NS.call (greatL_ok b key) rfl ?_)
  refine Sat.go (Eq.refl _) (NS.ite (fun g1 => ?_) (fun g1 => ?_))
  · refine Sat.go (Eq.refl _) (NS.call (awake_ok) rfl ?_)
    exact Sat.go (Eq.refl _) (NS.ret rfl rfl (LeA.refl _))
  refine Sat.go (Eq.refl _) (NS.call (protect_ok b n key) rfl ?_)
  refine Sat.go (Eq.refl _) (NS.call (rProtect_ok b n key) rfl ?_)
  refine Sat.go (Eq.refl _) (NS.chk (by kernel_rfl) ?_)
  refine Sat.go (Eq.refl _) (NS.call (sameB_ok (protM b n key).1 (protM_le b n key)) rfl ?_)
  refine Sat.go (Eq.refl _) (NS.yes (rfl) ?_)
  refine Sat.go (Eq.refl _) (NS.yes (by simp) ?_)
  refine Sat.go (Eq.refl _) (NS.call (verify_ok b n key) rfl ?_)
  refine Sat.go (Eq.refl _) (NS.call (rVerify_ok b n key) rfl ?_)
  refine Sat.go (Eq.refl _) (NS.yes (by simp) ?_)
  refine Sat.go (Eq.refl _) (NS.call (awake_ok) rfl ?_)
  exact Sat.go (Eq.refl _) (NS.ret rfl rfl (LeA.refl _))
end Go.Proofs.YtdhfgfkfejpfdaaGreat
