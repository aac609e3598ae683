/- The program's own checks of signatures; searching them. -/
import Derived.Test.YtdhfgfkfejpfdaaGreatKG
import Derived.Test.YtdhfgfkfejpfdaaGreatKF
set_option linter.unusedSimpArgs false
set_option linter.unusedSectionVars false
set_option linter.unusedVariables false
namespace Go.Mb
open Go.Sy
theorem fndB_data (l : List Blk) (hl : ∀ x ∈ l, x.data.size ≤ 1000000) (k : Int) : (fndB l k).1.data.size ≤ 1000000 := by
  cases hb : (fndB l k).2 with
  | true => exact hl _ (fndB_some hb).1
  | false => rw [(fndB_none hb).1]; decide
theorem good_data {l : List Blk} (h : GoodL l) : ∀ x ∈ l, x.data.size ≤ 1000000 := fun x hx => by
  have := chkK_zero.1 (h.2.1 x hx); omega
def stA (l : List Nat) (b : Bool) : A := .tup [.str (bs l), .bool b]
theorem fndS_cons (p : Sg) (l : List Sg) (n : Int) : fndS (p :: l) n = if ((p.1 : Int) == n) = true then (p.2, true) else fndS l n := by
  unfold fndS
  rw [List.find?_cons]
  cases h : ((p.1 : Int) == n) <;> simp
theorem stA_le {S : List Sg} {n : Int} {t : List Nat} {q : Bool} {x : ByteArray} (h : fndS S n = (t, q)) (e : x = bs t) : LeA (.tup [.str x, .bool q]) (stA (fndS S n).1 (fndS S n).2) := by
  rw [h, e]; exact LeA.refl _
theorem tagS (s : ByteArray) (k : Nat) (h : 9 * k + 9 ≤ s.size) : (bs ((ls s).drop (9 * k))).extract (1 : Int).toNat (9 : Int).toNat = bs (((ls s).drop (9 * k + 1)).take 8) := by
  apply ls_inj
  have hlt : ∀ j, ∀ x ∈ (ls s).drop j, x < 256 := fun j x hx => ls_lt s x (List.mem_of_mem_drop hx)
  rw [ls_extract, ls_bs (hlt _), ls_bs (fun x hx => hlt _ x (List.mem_of_mem_take hx))]
  show (((ls s).drop (9 * k)).take 9).drop 1 = _
  rw [List.drop_take, List.drop_drop]
end Go.Mb
namespace Go.Proofs.YtdhfgfkfejpfdaaGreat
open Go.Sy Go.Mb
set_option maxRecDepth 100000
set_option linter.unusedVariables false
set_option maxHeartbeats 4000000

theorem scheck_ok (b : Bun) (h : GoodL b.l) : FnOK Tryz.prog 29 [.agg b.cells] (.int .i64 (if dmgB b then 11 else 0), none) := by
  have hd := fndB_data b.l (good_data h) 4
  refine fn_ok CN rfl (by kernel_rfl) Tryz.func29 rfl ?_
  refine Sat.go (Eq.refl _) (NS.call (find_ok b.l (by have := h.1; omega) 4) rfl ?_)
  unfold dmgB authD
  refine Sat.go (Eq.refl _) (NS.ite (fun hb => ?_) (fun hb => ?_))
  · refine Sat.go (Eq.refl _) (NS.call (damaged_ok _ hd) rfl ?_)
    refine Sat.go (Eq.refl _) (NS.ite (fun h2 => ?_) (fun h2 => ?_))
    · exact Sat.go (Eq.refl _) (NS.ret rfl rfl (LeA.of (congrArg (A.int .i64) (by rw [hb, h2]; rfl))))
    · exact Sat.go (Eq.refl _) (NS.ret rfl rfl (LeA.of (congrArg (A.int .i64) (by rw [hb, h2]; rfl))))
  · exact Sat.go (Eq.refl _) (NS.ret rfl rfl (LeA.of (congrArg (A.int .i64) (by rw [hb]; rfl))))
theorem sfind_ok (b : Bun) (h : GoodL b.l) (n : Int) : FnOK Tryz.prog 14 [.agg b.cells, .int .i64 n] (stA (fndS (sgB b) n).1 (fndS (sgB b) n).2, none) := by
  have hd := fndB_data b.l (good_data h) 4
  refine fn_ok CS rfl (by kernel_rfl) Tryz.func14 rfl ?_
  refine Sat.go (Eq.refl _) (NS.call (find_ok b.l (by have := h.1; omega) 4) rfl ?_)
  unfold sgB authD
  obtain ⟨s, hs⟩ : ∃ s, (fndB b.l 4).1.data = s := ⟨_, rfl⟩
  rw [hs] at hd ⊢
  have hL := ls_len s
  have hS := sgs_len (ls s)
  refine Sat.go (Eq.refl _) ?_
  refine NS.loop (σ := { k : Nat // k ≤ s.size / 9 ∧ fndS (sgs (ls s)) n = fndS ((sgs (ls s)).drop k) n }) (fun k => [(0, .yld 27), (1, .ptr 26 0)]) (fun k => [(26, .box [.str (bs ((ls s).drop (9 * k.1)))])]) (fun k => s.size / 9 - k.1) ⟨0, Nat.zero_le _, rfl⟩ ?_ ?_
  · exact weak_hd [] rfl ⟨rfl, rfl, trivial⟩ ⟨⟨_, rfl, _, _, rfl, ren_str rfl (by rw [hs]; exact (bs_ls s).symm), rfl⟩, trivial⟩ (by repeat' (first | exact trivial | refine ⟨.inr rfl, ?_⟩ | refine ⟨.inl rfl, ?_⟩)) (by kernel_rfl)
  rintro ⟨k, hk, hn⟩
  have hk : k ≤ s.size / 9 := hk
  have hn : fndS (sgs (ls s)) n = fndS ((sgs (ls s)).drop k) n := hn
  have hsz : (bs ((ls s).drop (9 * k))).size = s.size - 9 * k := by rw [bs_len, List.length_drop, hL]
  refine Sat.go (Eq.refl _) (NS.ite (fun b => ?_) (fun b => ?_))
  · have b : 9 ≤ s.size - 9 * k := by have b : decide (((bs ((ls s).drop (9 * k))).size : Int) ≥ 9) = true := b; have := of_decide_eq_true b; omega
    refine Sat.go (Eq.refl _) (NS.chk (by kernel_rfl) ?_)
    refine Sat.go (Eq.refl _) (NS.need (by show decide ((0 : Int) ≤ 0 ∧ 0 < ((bs ((ls s).drop (9 * k))).size : Int)) = true; exact decide_eq_true (by omega)) ?_)
    refine Sat.go (Eq.refl _) (NS.need (by show decide ((0 : Int) ≤ 1 ∧ (1 : Int) ≤ 9 ∧ 9 ≤ ((bs ((ls s).drop (9 * k))).size : Int)) = true; exact decide_eq_true (by omega)) ?_)
    have hlt : k < (sgs (ls s)).length := by omega
    rw [drop_cons hlt, sgs_get (by omega), fndS_cons] at hn
    have hg := nodeG s k
    refine Sat.go (Eq.refl _) (NS.ite (fun c => ?_) (fun c => ?_))
    · have c : ((((ls s).getD (9 * k) 0 : Nat) : Int) == n) = true := by rw [← hg]; exact c
      rw [if_pos c] at hn
      exact Sat.go (Eq.refl _) (NS.leaveOut rfl (Eq.refl _) (NS.ret rfl rfl (stA_le hn (tagS s k (by omega)))))
    have c : ((((ls s).getD (9 * k) 0 : Nat) : Int) == n) = false := by rw [← hg]; exact c
    rw [if_neg (by show ¬ ((((ls s).getD (9 * k) 0 : Nat) : Int) == n) = true; rw [c]; simp)] at hn
    refine Sat.go (Eq.refl _) (NS.need (by show decide ((0 : Int) ≤ 9 ∧ 9 ≤ ((bs ((ls s).drop (9 * k))).size : Int) ∧ ((bs ((ls s).drop (9 * k))).size : Int) ≤ ((bs ((ls s).drop (9 * k))).size : Int)) = true; exact decide_eq_true (by omega)) ?_)
    refine Sat.go (Eq.refl _) (NS.next ⟨k + 1, by omega, hn⟩ (by show s.size / 9 - (k + 1) < s.size / 9 - k; omega) ?_)
    exact weak_hd [] rfl ⟨rfl, rfl, trivial⟩ ⟨⟨_, rfl, _, _, rfl, ren_str rfl (dropS s k), rfl⟩, trivial⟩ (by repeat' (first | exact trivial | refine ⟨.inr rfl, ?_⟩ | refine ⟨.inl rfl, ?_⟩)) (by kernel_rfl)
  have b : k = s.size / 9 := by have b : decide (((bs ((ls s).drop (9 * k))).size : Int) ≥ 9) = false := b; have := of_decide_eq_false b; omega
  rw [List.drop_eq_nil_of_le (by omega)] at hn
  refine Sat.go (Eq.refl _) (NS.leave rfl (Eq.refl _) ?_)
  exact Sat.go (Eq.refl _) (NS.ret rfl rfl (stA_le hn rfl))
end Go.Proofs.YtdhfgfkfejpfdaaGreat
