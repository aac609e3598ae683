/- Protect. -/
import Derived.Test.YtdhfgfkfejpfdaaGreatKL
set_option linter.unusedSimpArgs false
set_option linter.unusedSectionVars false
set_option linter.unusedVariables false
namespace Go.Mb
open Go.Sy
def bunR (r : Bun × Int) : A := .tup [.agg r.1.cells, .int .i64 r.2]
theorem zero_le (e : Int) : LeA (.tup [.agg [.int .i64 0, .int .i64 0, .int .i64 0, .int .i64 0, .int .i64 0, .int .i64 0, .int .i64 0, .int .i64 0, .int .i64 0, .int .i64 0, .nils, .str .empty], .int .i64 e]) (bunR (default, e)) :=
  LeA.tup2 (LeA.agg (.cons (.refl _) (.cons (.refl _) (.cons (.refl _) (.cons (.refl _) (.cons (.refl _) (.cons (.refl _) (.cons (.refl _) (.cons (.refl _) (.cons (.refl _) (.cons (.refl _) (.cons (LeA.nil' rfl) (.cons (.refl _) .nil))))))))))))) (.refl _)
theorem enS_put (l : List Sg) (p : Sg) : bs (enS (l ++ [p])) = bs (enS l) ++ (bs [p.1] ++ bs p.2) := by
  rw [enS_append, bs_append, ← bs_append [p.1]]
  congr 1
  show bs (enS [p]) = bs (p.1 :: p.2)
  unfold enS; simp
end Go.Mb
namespace Go.Proofs.YtdhfgfkfejpfdaaGreat
open Go.Sy Go.Mb
set_option maxRecDepth 100000
set_option linter.unusedVariables false
set_option maxHeartbeats 4000000

theorem putE {o : List Sg} {w : Nat} {T : List Nat} {z : Int} {x : ByteArray} (hz : IntKind.u8.wrap z = (w : Int)) (hx : x = bs T) : bs (enS o) ++ (bytesOf (fun i j => getA [A.int .u8 (IntKind.u8.wrap z)] (i * 1 + j)) 1 ++ x) = bs (enS (o ++ [(w, T)])) := by
  rw [hz, hx, bytes1, enS_put]
theorem putE2 {o : List Sg} {w w' : Nat} {T T' : List Nat} {z z' : Int} {x x' : ByteArray} (hz : IntKind.u8.wrap z = (w : Int)) (hx : x = bs T) (hz' : IntKind.u8.wrap z' = (w' : Int)) (hx' : x' = bs T') : (bs (enS o) ++ (bytesOf (fun i j => getA [A.int .u8 (IntKind.u8.wrap z)] (i * 1 + j)) 1 ++ x)) ++ (bytesOf (fun i j => getA [A.int .u8 (IntKind.u8.wrap z')] (i * 1 + j)) 1 ++ x') = bs (enS (o ++ [(w, T)] ++ [(w', T')])) := by
  rw [putE hz hx, putE hz' hx']
noncomputable def CPr : Cx := { E := EN, inl := [18, 34, 17], ok := EN_ok }
theorem protect_ok (b : Bun) (n : Int) (key : ByteArray) : FnOK Tryz.prog 6 [.agg b.cells, .int .i64 n, .str key] (bunR (protM b n key), none) := by
  unfold protM
  refine fn_ok CPr rfl (by kernel_rfl) Tryz.func6 rfl ?_
  refine Sat.go (Eq.refl _) (NS.call (checkAll_ok b n key) rfl ?_)
  refine Sat.go (Eq.refl _) (NS.ite (fun h1 => ?_) (fun h1 => ?_))
  · rw [if_pos h1]
    exact Sat.go (Eq.refl _) (NS.ret rfl rfl (zero_le _))
  rw [if_neg (by rw [show (chkAll b n key != 0) = false from h1]; simp)]
  have hp : PA b n key := chkAll_iff.1 (by simpa using h1)
  have hg := goodL_of hp.ok.chk
  refine Sat.go (Eq.refl _) (NS.call (sfind_ok b hg n) rfl ?_)
  refine Sat.go (Eq.refl _) (NS.ite (fun h2 => ?_) (fun h2 => ?_))
  · rw [if_pos h2]
    exact Sat.go (Eq.refl _) (NS.ret rfl rfl (zero_le _))
  rw [if_neg (by rw [h2]; simp)]
  refine Sat.go (Eq.refl _) (NS.call (sign_ok b hp.ok.chk n hp.rng key hp.key) rfl ?_)
  refine Sat.go (Eq.refl _) (NS.no (rfl) ?_)
  have hd := fndB_data b.l (good_data hg) 4
  refine Sat.go (Eq.refl _) (NS.call (find_ok b.l (by have := hg.1; omega) 4) rfl ?_)
  have hn := hp.rng
  unfold okN at hn
  obtain ⟨m, rfl⟩ : ∃ m : Nat, n = m := ⟨n.toNat, by omega⟩
  have hnt : ((m : Nat) : Int).toNat = m := by omega
  rw [hnt]
  have hS0 : sgB b = sgs (ls (fndB b.l 4).1.data) := rfl
  obtain ⟨s, hs⟩ : ∃ s, (fndB b.l 4).1.data = s := ⟨_, rfl⟩
  rw [hs] at hd hS0
  obtain ⟨t, ht⟩ : ∃ t, sgnM b m key = t := ⟨_, rfl⟩
  have ht8 : t.length = 8 := by rw [← ht]; exact sgnM_len _ _ _
  have hft : ∀ p ∈ sgs (ls s), p.2.length = 8 := fun p hp2 => by rw [← hS0] at hp2; exact (hp.ok.good.2 p hp2).2.1
  have hf16 : ∀ p ∈ sgs (ls s), p.1 < 16 := fun p hp2 => by rw [← hS0] at hp2; exact (hp.ok.good.2 p hp2).1
  rw [hS0, ht]
  have hL := ls_len s
  have hS := sgs_len (ls s)
  refine Sat.go (Eq.refl _) ?_
  refine NS.loop (σ := { x : Nat × Bool × List Sg // x.1 ≤ s.size / 9 ∧ x.2.2 ++ (if x.2.1 then (sgs (ls s)).drop x.1 else insS (m, t) ((sgs (ls s)).drop x.1)) = insS (m, t) (sgs (ls s)) ∧ x.2.2.length ≤ x.1 + (if x.2.1 then 1 else 0) ∧ ∀ p ∈ x.2.2, p.2.length = 8 }) (fun x => [(0, .yld 100), (1, .ptr 99 0)]) (fun x => [(15, .box [.str (bs (enS x.1.2.2))]), (18, .box [.bool x.1.2.1]), (99, .box [.str (bs ((ls s).drop (9 * x.1.1)))])]) (fun x => s.size / 9 - x.1.1) ⟨(0, false, []), Nat.zero_le _, rfl, Nat.zero_le _, fun p hp => by cases hp⟩ ?_ ?_
  · exact weak_hd [] rfl ⟨rfl, rfl, trivial⟩ ⟨⟨_, rfl, _, _, rfl, rfl, rfl⟩, ⟨_, rfl, _, _, rfl, ren_kb rfl rfl, rfl⟩, ⟨_, rfl, _, _, rfl, ren_str rfl (by rw [hs]; exact (bs_ls s).symm), rfl⟩, trivial⟩ (by repeat' (first | exact trivial | refine ⟨.inr rfl, ?_⟩ | refine ⟨.inl rfl, ?_⟩)) (by kernel_rfl)
  rintro ⟨⟨k, d, o⟩, hk, hi, hol, hot⟩
  have hk : k ≤ s.size / 9 := hk
  have hi : o ++ (if d then (sgs (ls s)).drop k else insS (m, t) ((sgs (ls s)).drop k)) = insS (m, t) (sgs (ls s)) := hi
  have hol : o.length ≤ k + (if d then 1 else 0) := hol
  have hot : ∀ p ∈ o, p.2.length = 8 := hot
  have hsz : (bs ((ls s).drop (9 * k))).size = s.size - 9 * k := by rw [bs_len, List.length_drop, hL]
  have hoe := enS_len hot
  have hoo : o.length ≤ k + 1 := by split at hol <;> omega
  have k1 : ∀ f, (bytesOf f 1).size + (bs t).size ≤ 9223372036854775807 := fun f => by rw [bytesOf_size, bs_len, ht8]; decide
  have k2 : ∀ f, (bs (enS o)).size + (bytesOf f 1 ++ bs t).size ≤ 9223372036854775807 := fun f => by rw [ByteArray.size_append, bytesOf_size, bs_len, bs_len, ht8, hoe]; omega
  have hm8 : IntKind.u8.wrap ((m : Nat) : Int) = ((m : Nat) : Int) := by rw [wrap_u8m]; omega
  refine Sat.go (Eq.refl _) (NS.ite (fun a => ?_) (fun a => ?_))
  · have a : 9 ≤ s.size - 9 * k := by have a : decide (((bs ((ls s).drop (9 * k))).size : Int) ≥ 9) = true := a; have := of_decide_eq_true a; omega
    refine Sat.go (Eq.refl _) (NS.chk (by kernel_rfl) ?_)
    refine Sat.go (Eq.refl _) (NS.need (by show decide ((0 : Int) ≤ 0 ∧ 0 < ((bs ((ls s).drop (9 * k))).size : Int)) = true; exact decide_eq_true (by omega)) ?_)
    refine Sat.go (Eq.refl _) (NS.need (by show decide ((0 : Int) ≤ 1 ∧ (1 : Int) ≤ 9 ∧ 9 ≤ ((bs ((ls s).drop (9 * k))).size : Int)) = true; exact decide_eq_true (by omega)) ?_)
    have hlt : k < (sgs (ls s)).length := by omega
    have hg := nodeG s k
    rw [drop_cons hlt, sgs_get (by omega)] at hi
    have hg8 : IntKind.u8.wrap (IntKind.i64.wrap (((bs ((ls s).drop (9 * k))).data.toList.getD (0 : Int).toNat 0).toNat : Int)) = (((ls s).getD (9 * k) 0 : Nat) : Int) := by
      rw [hg, wrap_u8m]; have := ls_bd s (9 * k); omega
    have hx := tagS s k (by omega)
    have hx8 : ((bs ((ls s).drop (9 * k))).extract (1 : Int).toNat (9 : Int).toNat).size = 8 := by rw [hx, bs_len, List.length_take, List.length_drop, hL]; omega
    have hoo : o.length ≤ k + 1 := by split at hol <;> omega
    have k3 : ∀ f, (bytesOf f 1).size + ((bs ((ls s).drop (9 * k))).extract (1 : Int).toNat (9 : Int).toNat).size ≤ 9223372036854775807 := fun f => by rw [bytesOf_size, hx8]; decide
    have k4 : ∀ f, (bs (enS o)).size + (bytesOf f 1 ++ (bs ((ls s).drop (9 * k))).extract (1 : Int).toNat (9 : Int).toNat).size ≤ 9223372036854775807 := fun f => by rw [ByteArray.size_append, bytesOf_size, hx8, bs_len, hoe]; omega
    have k5 : ∀ f g, (bs (enS o) ++ (bytesOf g 1 ++ bs t)).size + (bytesOf f 1 ++ (bs ((ls s).drop (9 * k))).extract (1 : Int).toNat (9 : Int).toNat).size ≤ 9223372036854775807 := fun f g => by rw [ByteArray.size_append, ByteArray.size_append, ByteArray.size_append, bytesOf_size, bytesOf_size, hx8, bs_len, hoe, bs_len, ht8]; omega
    refine Sat.go (Eq.refl _) (NS.ite (fun c => ?_) (fun c => ?_))
    · have c : d = false := by have c : (!d) = true := c; simpa using c
      subst c
      refine Sat.go (Eq.refl _) (NS.ite (fun e => ?_) (fun e => ?_))
      · refine Sat.go (Eq.refl _) (NS.need (allN_row fun i hi => by rw [Nat.lt_one_iff.1 hi]; rfl) ?_)
        refine Sat.go (Eq.refl _) (NS.need (decide_eq_true (k1 _)) ?_)
        refine Sat.go (Eq.refl _) (NS.need (decide_eq_true (k2 _)) ?_)
        refine Sat.go (Eq.refl _) (NS.need (allN_row fun i hi => by rw [Nat.lt_one_iff.1 hi]; rfl) ?_)
        refine Sat.go (Eq.refl _) (NS.need (decide_eq_true (k3 _)) ?_)
        refine Sat.go (Eq.refl _) (NS.need (decide_eq_true (k5 _ _)) ?_)
        refine Sat.go (Eq.refl _) (NS.need (by show decide ((0 : Int) ≤ 9 ∧ 9 ≤ ((bs ((ls s).drop (9 * k))).size : Int) ∧ ((bs ((ls s).drop (9 * k))).size : Int) ≤ ((bs ((ls s).drop (9 * k))).size : Int)) = true; exact decide_eq_true (by omega)) ?_)
        have e : m < (ls s).getD (9 * k) 0 := by have e : decide ((m : Int) < IntKind.i64.wrap (((bs ((ls s).drop (9 * k))).data.toList.getD (0 : Int).toNat 0).toNat : Int)) = true := e; rw [hg] at e; have := of_decide_eq_true e; omega
        refine Sat.go (Eq.refl _) (NS.next ⟨(k + 1, true, o ++ [(m, t)] ++ [((ls s).getD (9 * k) 0, ((ls s).drop (9 * k + 1)).take 8)]), by show k + 1 ≤ s.size / 9; omega, ?_, ?_, ?_⟩ (by show s.size / 9 - (k + 1) < s.size / 9 - k; omega) ?_)
        · rw [← hi]
          show _ ++ (sgs (ls s)).drop (k + 1) = o ++ insS (m, t) (((ls s).getD (9 * k) 0, ((ls s).drop (9 * k + 1)).take 8) :: (sgs (ls s)).drop (k + 1))
          rw [insS, if_pos e]; simp
        · show (o ++ [(m, t)] ++ [((ls s).getD (9 * k) 0, ((ls s).drop (9 * k + 1)).take 8)]).length ≤ (k + 1) + 1
          have hol : o.length ≤ k + 0 := hol
          simp; omega
        · intro p hp
          have hp : p ∈ o ++ [(m, t)] ++ [((ls s).getD (9 * k) 0, ((ls s).drop (9 * k + 1)).take 8)] := hp
          simp only [List.mem_append, List.mem_singleton] at hp
          rcases hp with (hp | rfl) | rfl
          · exact hot p hp
          · exact ht8
          · show (List.take 8 _).length = 8
            rw [List.length_take, List.length_drop, hL]; omega
        · exact weak_hd [] rfl ⟨rfl, rfl, trivial⟩ ⟨⟨_, rfl, _, _, rfl, ren_str rfl (putE2 hm8 rfl hg8 hx), rfl⟩, ⟨_, rfl, _, _, rfl, ren_kb rfl rfl, rfl⟩, ⟨_, rfl, _, _, rfl, ren_str rfl (dropS s k), rfl⟩, trivial⟩ (by repeat' (first | exact trivial | refine ⟨.inr rfl, ?_⟩ | refine ⟨.inl rfl, ?_⟩)) (by kernel_rfl)
      · refine Sat.go (Eq.refl _) (NS.need (allN_row fun i hi => by rw [Nat.lt_one_iff.1 hi]; rfl) ?_)
        refine Sat.go (Eq.refl _) (NS.need (decide_eq_true (k3 _)) ?_)
        refine Sat.go (Eq.refl _) (NS.need (decide_eq_true (k4 _)) ?_)
        refine Sat.go (Eq.refl _) (NS.need (by show decide ((0 : Int) ≤ 9 ∧ 9 ≤ ((bs ((ls s).drop (9 * k))).size : Int) ∧ ((bs ((ls s).drop (9 * k))).size : Int) ≤ ((bs ((ls s).drop (9 * k))).size : Int)) = true; exact decide_eq_true (by omega)) ?_)
        have e : ¬ m < (ls s).getD (9 * k) 0 := by have e : decide ((m : Int) < IntKind.i64.wrap (((bs ((ls s).drop (9 * k))).data.toList.getD (0 : Int).toNat 0).toNat : Int)) = false := e; rw [hg] at e; have := of_decide_eq_false e; omega
        refine Sat.go (Eq.refl _) (NS.next ⟨(k + 1, false, o ++ [((ls s).getD (9 * k) 0, ((ls s).drop (9 * k + 1)).take 8)]), by show k + 1 ≤ s.size / 9; omega, ?_, ?_, ?_⟩ (by show s.size / 9 - (k + 1) < s.size / 9 - k; omega) ?_)
        · rw [← hi]
          show _ ++ insS (m, t) ((sgs (ls s)).drop (k + 1)) = o ++ insS (m, t) (((ls s).getD (9 * k) 0, ((ls s).drop (9 * k + 1)).take 8) :: (sgs (ls s)).drop (k + 1))
          rw [insS, if_neg e]; simp
        · show (o ++ [((ls s).getD (9 * k) 0, ((ls s).drop (9 * k + 1)).take 8)]).length ≤ (k + 1) + 0
          have hol : o.length ≤ k + 0 := hol
          simp; omega
        · intro p hp
          have hp : p ∈ o ++ [((ls s).getD (9 * k) 0, ((ls s).drop (9 * k + 1)).take 8)] := hp
          simp only [List.mem_append, List.mem_singleton] at hp
          rcases hp with hp | rfl
          · exact hot p hp
          · show (List.take 8 _).length = 8
            rw [List.length_take, List.length_drop, hL]; omega
        · exact weak_hd [] rfl ⟨rfl, rfl, trivial⟩ ⟨⟨_, rfl, _, _, rfl, ren_str rfl (putE hg8 hx), rfl⟩, ⟨_, rfl, _, _, rfl, ren_bool rfl rfl, rfl⟩, ⟨_, rfl, _, _, rfl, ren_str rfl (dropS s k), rfl⟩, trivial⟩ (by repeat' (first | exact trivial | refine ⟨.inr rfl, ?_⟩ | refine ⟨.inl rfl, ?_⟩)) (by kernel_rfl)
    · have c : d = true := by have c : (!d) = false := c; simpa using c
      subst c
      refine Sat.go (Eq.refl _) (NS.need (allN_row fun i hi => by rw [Nat.lt_one_iff.1 hi]; rfl) ?_)
      refine Sat.go (Eq.refl _) (NS.need (decide_eq_true (k3 _)) ?_)
      refine Sat.go (Eq.refl _) (NS.need (decide_eq_true (k4 _)) ?_)
      refine Sat.go (Eq.refl _) (NS.need (by show decide ((0 : Int) ≤ 9 ∧ 9 ≤ ((bs ((ls s).drop (9 * k))).size : Int) ∧ ((bs ((ls s).drop (9 * k))).size : Int) ≤ ((bs ((ls s).drop (9 * k))).size : Int)) = true; exact decide_eq_true (by omega)) ?_)
      refine Sat.go (Eq.refl _) (NS.next ⟨(k + 1, true, o ++ [((ls s).getD (9 * k) 0, ((ls s).drop (9 * k + 1)).take 8)]), by show k + 1 ≤ s.size / 9; omega, ?_, ?_, ?_⟩ (by show s.size / 9 - (k + 1) < s.size / 9 - k; omega) ?_)
      · rw [← hi]
        show _ ++ (sgs (ls s)).drop (k + 1) = o ++ (((ls s).getD (9 * k) 0, ((ls s).drop (9 * k + 1)).take 8) :: (sgs (ls s)).drop (k + 1))
        simp
      · show (o ++ [((ls s).getD (9 * k) 0, ((ls s).drop (9 * k + 1)).take 8)]).length ≤ (k + 1) + 1
        have hol : o.length ≤ k + 1 := hol
        simp; omega
      · intro p hp
        have hp : p ∈ o ++ [((ls s).getD (9 * k) 0, ((ls s).drop (9 * k + 1)).take 8)] := hp
        simp only [List.mem_append, List.mem_singleton] at hp
        rcases hp with hp | rfl
        · exact hot p hp
        · show (List.take 8 _).length = 8
          rw [List.length_take, List.length_drop, hL]; omega
      · exact weak_hd [] rfl ⟨rfl, rfl, trivial⟩ ⟨⟨_, rfl, _, _, rfl, ren_str rfl (putE hg8 hx), rfl⟩, ⟨_, rfl, _, _, rfl, ren_bool rfl rfl, rfl⟩, ⟨_, rfl, _, _, rfl, ren_str rfl (dropS s k), rfl⟩, trivial⟩ (by repeat' (first | exact trivial | refine ⟨.inr rfl, ?_⟩ | refine ⟨.inl rfl, ?_⟩)) (by kernel_rfl)
  have a : k = s.size / 9 := by have a : decide (((bs ((ls s).drop (9 * k))).size : Int) ≥ 9) = false := a; have := of_decide_eq_false a; omega
  rw [List.drop_eq_nil_of_le (by omega : (sgs (ls s)).length ≤ k)] at hi
  have hGI := fresh_ins hp h2
  rw [hnt, ht, hS0] at hGI
  have hch := newB_chk hp.ok.chk hGI
  have fin : ∀ o2, o2 = bs (enS (insS (m, t) (sgs (ls s)))) → A.agg [.int .i64 4, .int .i64 (fndB b.l 4).1.flags, .str o2] = A.agg (newB b (insS (m, t) (sgs (ls s)))).cells := fun o2 e => by rw [e]; rfl
  have c0 := put_ok b.l (newB b (insS (m, t) (sgs (ls s)))) hg hch
  refine Sat.go (Eq.refl _) (NS.leave rfl (Eq.refl _) ?_)
  by_cases h9 : decide (((putL b.l (newB b (insS (m, t) (sgs (ls s))))).length : Int) > 8) = true
  · rw [if_pos h9]
    rw [show putM b.l (newB b (insS (m, t) (sgs (ls s)))) = ([], 4) from if_pos h9] at c0
    refine Sat.go (Eq.refl _) (NS.ite (fun c => ?_) (fun c => ?_))
    · have c : d = false := by have c : (!d) = true := c; simpa using c
      subst c
      have hi : o ++ [(m, t)] = insS (m, t) (sgs (ls s)) := hi
      refine Sat.go (Eq.refl _) (NS.need (allN_row fun i hi => by rw [Nat.lt_one_iff.1 hi]; rfl) ?_)
      refine Sat.go (Eq.refl _) (NS.need (decide_eq_true (k1 _)) ?_)
      refine Sat.go (Eq.refl _) (NS.need (decide_eq_true (k2 _)) ?_)
      refine Sat.go (Eq.refl _) (NS.call (c0.le (LeL.cons (LeA.refl _) (LeL.cons (LeA.of (fin _ ((putE hm8 rfl).trans (by rw [hi])))) LeL.nil))) rfl ?_)
      refine Sat.go (Eq.refl _) (NS.yes (rfl) ?_)
      exact Sat.go (Eq.refl _) (NS.ret rfl rfl (zero_le _))
    · have c : d = true := by have c : (!d) = false := c; simpa using c
      subst c
      have hi : o = insS (m, t) (sgs (ls s)) := by have hi : o ++ [] = _ := hi; rwa [List.append_nil] at hi
      refine Sat.go (Eq.refl _) (NS.call (c0.le (LeL.cons (LeA.refl _) (LeL.cons (LeA.of (fin _ (by show bs (enS o) = _; rw [hi]))) LeL.nil))) rfl ?_)
      refine Sat.go (Eq.refl _) (NS.yes (rfl) ?_)
      exact Sat.go (Eq.refl _) (NS.ret rfl rfl (zero_le _))
  · rw [if_neg h9]
    rw [show putM b.l (newB b (insS (m, t) (sgs (ls s)))) = (putL b.l (newB b (insS (m, t) (sgs (ls s)))), 0) from if_neg h9] at c0
    refine Sat.go (Eq.refl _) (NS.ite (fun c => ?_) (fun c => ?_))
    · have c : d = false := by have c : (!d) = true := c; simpa using c
      subst c
      have hi : o ++ [(m, t)] = insS (m, t) (sgs (ls s)) := hi
      refine Sat.go (Eq.refl _) (NS.need (allN_row fun i hi => by rw [Nat.lt_one_iff.1 hi]; rfl) ?_)
      refine Sat.go (Eq.refl _) (NS.need (decide_eq_true (k1 _)) ?_)
      refine Sat.go (Eq.refl _) (NS.need (decide_eq_true (k2 _)) ?_)
      refine Sat.go (Eq.refl _) (NS.call (c0.le (LeL.cons (LeA.refl _) (LeL.cons (LeA.of (fin _ ((putE hm8 rfl).trans (by rw [hi])))) LeL.nil))) rfl ?_)
      refine Sat.go (Eq.refl _) (NS.no (rfl) ?_)
      exact Sat.go (Eq.refl _) (NS.ret rfl rfl (LeA.refl _))
    · have c : d = true := by have c : (!d) = false := c; simpa using c
      subst c
      have hi : o = insS (m, t) (sgs (ls s)) := by have hi : o ++ [] = _ := hi; rwa [List.append_nil] at hi
      refine Sat.go (Eq.refl _) (NS.call (c0.le (LeL.cons (LeA.refl _) (LeL.cons (LeA.of (fin _ (by show bs (enS o) = _; rw [hi]))) LeL.nil))) rfl ?_)
      refine Sat.go (Eq.refl _) (NS.no (rfl) ?_)
      exact Sat.go (Eq.refl _) (NS.ret rfl rfl (LeA.refl _))
end Go.Proofs.YtdhfgfkfejpfdaaGreat
