/- The reference's checks of signatures; places; with. -/
import Derived.Test.YtdhfgfkfejpfdaaGreatKZB
import Derived.Test.YtdhfgfkfejpfdaaGreatKL
set_option linter.unusedSimpArgs false
set_option linter.unusedSectionVars false
set_option linter.unusedVariables false
namespace Go.Mb
open Go.Sy
set_option linter.unusedVariables false
theorem auth_chk {b : Bun} (h : GoodL b.l) (d : ByteArray) (hd : d.size ≤ 1024) : chkK ⟨4, (fndB b.l 4).1.flags, d⟩ = 0 := by
  have hf : 0 ≤ (fndB b.l 4).1.flags ∧ (fndB b.l 4).1.flags ≤ 15 := by
    cases hb : (fndB b.l 4).2 with
    | true => have := chkK_zero.1 (h.2.1 _ (fndB_some hb).1); omega
    | false => rw [(fndB_none hb).1]; decide
  exact chkK_zero.2 ⟨by show (1 : Int) ≤ 4; decide, by show (4 : Int) ≤ 255; decide, hf.1, hf.2, hd⟩
def chk15 (b : Bun) (n : Int) : Int := if chkB b != 0 then chkB b else if decide (n < 0) || decide (n ≥ 16) then 2 else 0
end Go.Mb
namespace Go.Proofs.YtdhfgfkfejpfdaaGreat
open Go.Sy Go.Mb
set_option maxRecDepth 100000
set_option linter.unusedVariables false
set_option maxHeartbeats 4000000

theorem rIntact_ok (b : Bun) (h : GoodL b.l) : FnOK Tryz.prog 21 [.agg b.cells] (.int .i64 (if dmgB b then 11 else 0), none) := by
  have hd := fndB_data b.l (good_data h) 4
  refine fn_ok CN rfl (by kernel_rfl) Tryz.func21 rfl ?_
  refine Sat.go (Eq.refl _) (NS.call (rFind_ok b.l (by have := h.1; omega) 4) rfl ?_)
  unfold dmgB authD
  refine Sat.go (Eq.refl _) (NS.ite (fun hb => ?_) (fun hb => ?_))
  · refine Sat.go (Eq.refl _) (NS.call (rDamaged_ok _ hd) rfl ?_)
    refine Sat.go (Eq.refl _) (NS.ite (fun h2 => ?_) (fun h2 => ?_))
    · exact Sat.go (Eq.refl _) (NS.ret rfl rfl (LeA.of (congrArg (A.int .i64) (by rw [hb, h2]; rfl))))
    · exact Sat.go (Eq.refl _) (NS.ret rfl rfl (LeA.of (congrArg (A.int .i64) (by rw [hb, h2]; rfl))))
  · exact Sat.go (Eq.refl _) (NS.ret rfl rfl (LeA.of (congrArg (A.int .i64) (by rw [hb]; rfl))))
theorem rSignatures_ok (b : Bun) (h : GoodL b.l) : FnOK Tryz.prog 22 [.agg b.cells] (.str (authD b), none) := by
  refine fn_ok CN rfl (by kernel_rfl) Tryz.func22 rfl ?_
  refine Sat.go (Eq.refl _) (NS.call (rFind_ok b.l (by have := h.1; omega) 4) rfl ?_)
  exact Sat.go (Eq.refl _) (NS.ret rfl rfl (LeA.refl _))
theorem rCheck15_ok (b : Bun) (n : Int) : FnOK Tryz.prog 20 [.agg b.cells, .int .i64 n] (.int .i64 (chk15 b n), none) := by
  unfold chk15
  refine fn_ok CN rfl (by kernel_rfl) Tryz.func20 rfl ?_
  refine Sat.go (Eq.refl _) (NS.call (rCheckB_ok b) rfl ?_)
  refine Sat.go (Eq.refl _) (NS.ite (fun h1 => ?_) (fun h1 => ?_))
  · exact Sat.go (Eq.refl _) (NS.ret rfl rfl (LeA.of (congrArg (A.int .i64) (by rw [if_pos h1]))))
  rw [if_neg (by rw [show (chkB b != 0) = false from h1]; simp)]
  by_cases h2 : (decide (n < 0) || decide (n ≥ 16)) = true
  · rw [if_pos h2]
    refine Sat.go (Eq.refl _) (NS.ite (fun a => ?_) (fun a => ?_))
    · exact Sat.go (Eq.refl _) (NS.ret rfl rfl (LeA.refl _))
    refine Sat.go (Eq.refl _) (NS.yes (by rw [show decide (n < 0) = false from a, Bool.false_or] at h2; exact h2) ?_)
    exact Sat.go (Eq.refl _) (NS.ret rfl rfl (LeA.refl _))
  rw [if_neg h2]
  simp only [Bool.or_eq_true, not_or] at h2
  refine Sat.go (Eq.refl _) (NS.no (by simpa using h2.1) ?_)
  refine Sat.go (Eq.refl _) (NS.no (by simpa using h2.2) ?_)
  exact Sat.go (Eq.refl _) (NS.ret rfl rfl (LeA.refl _))
theorem rPlace_ok (s : ByteArray) (hs : s.size ≤ 1000000) (h9 : s.size % 9 = 0) (n : Int) : FnOK Tryz.prog 23 [.str s, .int .i64 n] (.int .i64 (plc (sgs (ls s)) n), none) := by
  have hL := ls_len s
  have hS := sgs_len (ls s)
  obtain ⟨p, hp⟩ : ∃ p : Sg → Bool, (fun p : Sg => (p.1 : Int) == n) = p := ⟨_, rfl⟩
  have hpz : ∀ z : Sg, p z = ((z.1 : Int) == n) := fun z => by rw [← hp]
  unfold plc
  rw [hp]
  refine fn_ok CN rfl (by kernel_rfl) Tryz.func23 rfl ?_
  refine Sat.go (Eq.refl _) ?_
  refine NS.loop (σ := { k : Nat // 9 * k ≤ s.size ∧ ∀ q, q < k → p ((sgs (ls s)).getD q default) = false }) (fun k => [(0, .str s), (1, .int .i64 n), (5, .int .i64 ((9 * k.1 : Nat) : Int))]) (fun k => []) (fun k => s.size - 9 * k.1) ⟨0, by omega, fun q hq => absurd hq (Nat.not_lt_zero _)⟩ ?_ ?_
  · exact weak_hd [] rfl ⟨rfl, rfl, rfl, trivial⟩ trivial trivial (by kernel_rfl)
  rintro ⟨k, hk, hn⟩
  have hk : 9 * k ≤ s.size := hk
  refine Sat.go (Eq.refl _) (NS.ite (fun a => ?_) (fun a => ?_))
  · have a : 9 * k < s.size := by have a : decide (((9 * k : Nat) : Int) < (s.size : Int)) = true := a; have := of_decide_eq_true a; omega
    have hlt : k < (sgs (ls s)).length := by omega
    have hpk := hpz ((sgs (ls s)).getD k default)
    rw [sgs_get (by omega)] at hpk
    refine Sat.go (Eq.refl _) (NS.need (by simp; omega) ?_)
    have hg : IntKind.i64.wrap (((s.data.toList.getD ((9 * k : Nat) : Int).toNat 0).toNat : Nat) : Int) = (((ls s).getD (9 * k) 0 : Nat) : Int) := byteS s (9 * k) (.inr trivial)
    refine Sat.go (Eq.refl _) (NS.ite (fun c => ?_) (fun c => ?_))
    · have c : p ((sgs (ls s)).getD k default) = true := by rw [sgs_get (by omega), hpk, ← hg]; exact c
      have e : idx p (sgs (ls s)) = (k : Int) := idx_found (k := k) hlt c hn
      refine Sat.go (Eq.refl _) (NS.leaveOut rfl (Eq.refl _) (NS.ret rfl rfl (LeA.of (congrArg (A.int .i64) (by rw [e, if_neg (by omega)]; show ((9 * k : Nat) : Int) = 9 * (k : Int); omega)))))
    · have c : p ((sgs (ls s)).getD k default) = false := by rw [sgs_get (by omega), hpk, ← hg]; exact c
      refine Sat.go (Eq.refl _) (NS.next ⟨k + 1, by omega, fun q hq => ?_⟩ (by show s.size - 9 * (k + 1) < s.size - 9 * k; omega) ?_)
      · by_cases hqk : q = k
        · rw [hqk]; exact c
        · exact hn q (by omega)
      · exact weak_hd [] rfl ⟨rfl, rfl, ren_int rfl (nine (k := k) (by omega)), trivial⟩ trivial trivial (by kernel_rfl)
  have a : 9 * k = s.size := by have a : decide (((9 * k : Nat) : Int) < (s.size : Int)) = false := a; have := of_decide_eq_false a; omega
  have e := idx_none (p := p) (l := sgs (ls s)) fun q hq => hn q (by omega)
  refine Sat.go (Eq.refl _) (NS.leave rfl (Eq.refl _) ?_)
  exact Sat.go (Eq.refl _) (NS.ret rfl rfl (LeA.of (congrArg (A.int .i64) (by rw [e]; rfl))))
theorem rWith_ok (b : Bun) (h : GoodL b.l) (d : ByteArray) (hd : d.size ≤ 1024) : FnOK Tryz.prog 24 [.agg b.cells, .str d] (.agg ({ b with l := (putM b.l ⟨4, (fndB b.l 4).1.flags, d⟩).1 } : Bun).cells, none) := by
  have c := rPut_ok b.l ⟨4, (fndB b.l 4).1.flags, d⟩ h (auth_chk h d hd)
  refine fn_ok CN rfl (by kernel_rfl) Tryz.func24 rfl ?_
  refine Sat.go (Eq.refl _) (NS.call (rFind_ok b.l (by have := h.1; omega) 4) rfl ?_)
  cases hb : (fndB b.l 4).2 with
  | true =>
    have hk := (fndB_some hb).2
    refine Sat.go (Eq.refl _) (NS.no (by rw [hb]; rfl) ?_)
    refine Sat.go (Eq.refl _) (NS.call (c.le (LeL.cons (LeA.refl _) (LeL.cons (LeA.of (by show A.agg [.int .i64 (fndB b.l 4).1.kind, .int .i64 (fndB b.l 4).1.flags, .str d] = _; rw [hk]; rfl)) LeL.nil))) rfl ?_)
    exact Sat.go (Eq.refl _) (NS.ret rfl rfl (LeA.refl _))
  | false =>
    have hf := (fndB_none hb).1
    refine Sat.go (Eq.refl _) (NS.yes (by rw [hb]; rfl) ?_)
    refine Sat.go (Eq.refl _) (NS.call (c.le (LeL.cons (LeA.refl _) (LeL.cons (LeA.of (by rw [hf]; rfl)) LeL.nil))) rfl ?_)
    exact Sat.go (Eq.refl _) (NS.ret rfl rfl (LeA.refl _))
end Go.Proofs.YtdhfgfkfejpfdaaGreat
