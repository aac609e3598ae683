
/- Strip. -/
import Derived.Test.YtdhfgfkfejpfdaaKM
set_option linter.unusedSimpArgs false
set_option linter.unusedSectionVars false
set_option linter.unusedVariables false
namespace Go.Mb
open Go.Sy
theorem enS_nil {l : List Sg} : (bs (enS l)).toList == (ByteArray.empty).toList ↔ l = [] := by
  rw [beq_iff_eq, ba_inj]
  constructor
  · intro h
    cases l with
    | nil => rfl
    | cons p l =>
      have := congrArg ByteArray.size h
      rw [bs_len, enS_cons] at this
      simp at this
  · intro h; rw [h]; rfl
end Go.Mb
namespace Go.Proofs.Ytdhfgfkfejpfdaa
open Go.Sy Go.Mb
set_option maxRecDepth 100000
set_option linter.unusedVariables false
set_option maxHeartbeats 4000000

theorem strip_ok (b : Bun) (n : Int) : FnOK Try.prog 27 [.agg b.cells, .int .i64 n] (bunR (stripM b n), none) := by
  unfold stripM
  refine fn_ok CS rfl (by kernel_rfl) Try.func27 rfl ?_
  refine Sat.go (Eq.refl _) (NS.call (checkB_ok b) rfl ?_)
  refine Sat.go (Eq.refl _) (NS.ite (fun h1 => ?_) (fun h1 => ?_))
  · rw [if_pos h1]
    exact Sat.go (Eq.refl _) (NS.ret rfl rfl (zero_le _))
  rw [if_neg (by rw [show (chkB b != 0) = false from h1]; simp)]
  have h1 : chkB b = 0 := by simpa using h1
  have hg := goodL_of h1
  by_cases h2 : (decide (n < 0) || decide (n ≥ 16)) = true
  · rw [if_pos h2]
    refine Sat.go (Eq.refl _) (NS.ite (fun a => ?_) (fun a => ?_))
    · exact Sat.go (Eq.refl _) (NS.ret rfl rfl (zero_le _))
    refine Sat.go (Eq.refl _) (NS.yes (by rw [show decide (n < 0) = false from a, Bool.false_or] at h2; exact h2) ?_)
    exact Sat.go (Eq.refl _) (NS.ret rfl rfl (zero_le _))
  rw [if_neg h2]
  simp only [Bool.or_eq_true, not_or] at h2
  refine Sat.go (Eq.refl _) (NS.no (by simpa using h2.1) ?_)
  refine Sat.go (Eq.refl _) (NS.no (by simpa using h2.2) ?_)
  refine Sat.go (Eq.refl _) (NS.call (scheck_ok b hg) rfl ?_)
  refine Sat.go (Eq.refl _) (NS.ite (fun h3 => ?_) (fun h3 => ?_))
  · have h3 : dmgB b = true := by cases h : dmgB b <;> simp_all
    rw [h3]
    exact Sat.go (Eq.refl _) (NS.ret rfl rfl (zero_le _))
  have h3 : dmgB b = false := by cases h : dmgB b <;> simp_all
  rw [h3]
  have hok : Okb b := ⟨h1, h3⟩
  refine Sat.go (Eq.refl _) (NS.call (sfind_ok b hg n) rfl ?_)
  refine Sat.go (Eq.refl _) (NS.ite (fun h4 => ?_) (fun h4 => ?_))
  · rw [if_neg (by simp), if_pos h4]
    exact Sat.go (Eq.refl _) (NS.ret rfl rfl (zero_le _))
  have h4 : (fndS (sgB b) n).2 = true := by cases h : (fndS (sgB b) n).2 <;> simp_all
  rw [if_neg (by simp), if_neg (by rw [h4]; simp)]
  have hfb : (fndB b.l 4).2 = true := by
    cases hb : (fndB b.l 4).2 with
    | true => rfl
    | false => rw [sgB_none hb] at h4; cases h4
  have hk4 := (fndB_some hfb).2
  have hd := fndB_data b.l (good_data hg) 4
  refine Sat.go (Eq.refl _) (NS.call (find_ok b.l (by have := hg.1; omega) 4) rfl ?_)
  have hS0 : sgB b = sgs (ls (fndB b.l 4).1.data) := rfl
  obtain ⟨s, hs⟩ : ∃ s, (fndB b.l 4).1.data = s := ⟨_, rfl⟩
  rw [hs] at hd hS0
  have hgs := hok.good
  rw [hS0] at hgs ⊢
  have hft : ∀ p ∈ sgs (ls s), p.2.length = 8 := hgs.tags
  have hL := ls_len s
  have hS := sgs_len (ls s)
  refine Sat.go (Eq.refl _) ?_
  refine NS.loop (σ := { x : Nat // x ≤ s.size / 9 }) (fun x => [(0, .yld 93), (1, .ptr 92 0)]) (fun x => [(12, .box [.str (bs (enS (((sgs (ls s)).take x.1).filter fun p => (p.1 : Int) != n)))]), (92, .box [.str (bs ((ls s).drop (9 * x.1)))])]) (fun x => s.size / 9 - x.1) ⟨0, Nat.zero_le _⟩ ?_ ?_
  · exact weak_hd [] rfl ⟨rfl, rfl, trivial⟩ ⟨⟨_, rfl, _, _, rfl, rfl, rfl⟩, ⟨_, rfl, _, _, rfl, ren_str rfl (by rw [hs]; exact (bs_ls s).symm), rfl⟩, trivial⟩ (by repeat' (first | exact trivial | refine ⟨.inr rfl, ?_⟩ | refine ⟨.inl rfl, ?_⟩)) (by kernel_rfl)
  rintro ⟨k, hk⟩
  have hk : k ≤ s.size / 9 := hk
  have hsz : (bs ((ls s).drop (9 * k))).size = s.size - 9 * k := by rw [bs_len, List.length_drop, hL]
  obtain ⟨o, ho⟩ : ∃ o, ((sgs (ls s)).take k).filter (fun p => (p.1 : Int) != n) = o := ⟨_, rfl⟩
  have hot : ∀ p ∈ o, p.2.length = 8 := fun p hp => by rw [← ho] at hp; exact hft p (List.mem_of_mem_take (List.mem_filter.1 hp).1)
  have hol : o.length ≤ k := by rw [← ho]; exact Nat.le_trans (List.length_filter_le _ _) (by rw [List.length_take]; omega)
  have hoe := enS_len hot
  refine Sat.go (Eq.refl _) (NS.ite (fun a => ?_) (fun a => ?_))
  · have a : 9 ≤ s.size - 9 * k := by have a : decide (((bs ((ls s).drop (9 * k))).size : Int) ≥ 9) = true := a; have := of_decide_eq_true a; omega
    refine Sat.go (Eq.refl _) (NS.chk (by kernel_rfl) ?_)
    refine Sat.go (Eq.refl _) (NS.need (by show decide ((0 : Int) ≤ 0 ∧ 0 < ((bs ((ls s).drop (9 * k))).size : Int)) = true; exact decide_eq_true (by omega)) ?_)
    refine Sat.go (Eq.refl _) (NS.need (by show decide ((0 : Int) ≤ 1 ∧ (1 : Int) ≤ 9 ∧ 9 ≤ ((bs ((ls s).drop (9 * k))).size : Int)) = true; exact decide_eq_true (by omega)) ?_)
    have hlt : k < (sgs (ls s)).length := by omega
    have hg9 := nodeG s k
    have hg8 : IntKind.u8.wrap (IntKind.i64.wrap (((bs ((ls s).drop (9 * k))).data.toList.getD (0 : Int).toNat 0).toNat : Int)) = (((ls s).getD (9 * k) 0 : Nat) : Int) := by
      rw [hg9, wrap_u8m]; have := ls_bd s (9 * k); omega
    have hx := tagS s k (by omega)
    have hx8 : ((bs ((ls s).drop (9 * k))).extract (1 : Int).toNat (9 : Int).toNat).size = 8 := by rw [hx, bs_len, List.length_take, List.length_drop, hL]; omega
    have k3 : ∀ f, (bytesOf f 1).size + ((bs ((ls s).drop (9 * k))).extract (1 : Int).toNat (9 : Int).toNat).size ≤ 9223372036854775807 := fun f => by rw [bytesOf_size, hx8]; decide
    have k4 : ∀ f, (bs (enS (((sgs (ls s)).take k).filter fun p => (p.1 : Int) != n))).size + (bytesOf f 1 ++ (bs ((ls s).drop (9 * k))).extract (1 : Int).toNat (9 : Int).toNat).size ≤ 9223372036854775807 := fun f => by rw [ho, ByteArray.size_append, bytesOf_size, hx8, bs_len, hoe]; omega
    have hsn := filter_snoc (p := fun p : Sg => (p.1 : Int) != n) hlt
    rw [sgs_get (by omega)] at hsn
    refine Sat.go (Eq.refl _) (NS.ite (fun c => ?_) (fun c => ?_))
    · have c : (((((ls s).getD (9 * k) 0, ((ls s).drop (9 * k + 1)).take 8) : Sg).1 : Int) != n) = true := by show ((((ls s).getD (9 * k) 0 : Nat) : Int) != n) = true; rw [← hg9]; exact c
      rw [if_pos c] at hsn
      refine Sat.go (Eq.refl _) (NS.need (allN_row fun i hi => by rw [Nat.lt_one_iff.1 hi]; rfl) ?_)
      refine Sat.go (Eq.refl _) (NS.need (decide_eq_true (k3 _)) ?_)
      refine Sat.go (Eq.refl _) (NS.need (decide_eq_true (k4 _)) ?_)
      refine Sat.go (Eq.refl _) (NS.need (by show decide ((0 : Int) ≤ 9 ∧ 9 ≤ ((bs ((ls s).drop (9 * k))).size : Int) ∧ ((bs ((ls s).drop (9 * k))).size : Int) ≤ ((bs ((ls s).drop (9 * k))).size : Int)) = true; exact decide_eq_true (by omega)) ?_)
      refine Sat.go (Eq.refl _) (NS.next ⟨k + 1, by omega⟩ (by show s.size / 9 - (k + 1) < s.size / 9 - k; omega) ?_)
      exact weak_hd [] rfl ⟨rfl, rfl, trivial⟩ ⟨⟨_, rfl, _, _, rfl, ren_str rfl ((putE hg8 hx).trans (congrArg (fun y => bs (enS y)) hsn.symm)), rfl⟩, ⟨_, rfl, _, _, rfl, ren_str rfl (dropS s k), rfl⟩, trivial⟩ (by repeat' (first | exact trivial | refine ⟨.inr rfl, ?_⟩ | refine ⟨.inl rfl, ?_⟩)) (by kernel_rfl)
    · have c : (((((ls s).getD (9 * k) 0, ((ls s).drop (9 * k + 1)).take 8) : Sg).1 : Int) != n) = false := by show ((((ls s).getD (9 * k) 0 : Nat) : Int) != n) = false; rw [← hg9]; exact c
      rw [if_neg (by rw [c]; simp), List.append_nil] at hsn
      refine Sat.go (Eq.refl _) (NS.need (by show decide ((0 : Int) ≤ 9 ∧ 9 ≤ ((bs ((ls s).drop (9 * k))).size : Int) ∧ ((bs ((ls s).drop (9 * k))).size : Int) ≤ ((bs ((ls s).drop (9 * k))).size : Int)) = true; exact decide_eq_true (by omega)) ?_)
      refine Sat.go (Eq.refl _) (NS.next ⟨k + 1, by omega⟩ (by show s.size / 9 - (k + 1) < s.size / 9 - k; omega) ?_)
      exact weak_hd [] rfl ⟨rfl, rfl, trivial⟩ ⟨⟨_, rfl, _, _, rfl, ren_str rfl (congrArg (fun y => bs (enS y)) hsn.symm), rfl⟩, ⟨_, rfl, _, _, rfl, ren_str rfl (dropS s k), rfl⟩, trivial⟩ (by repeat' (first | exact trivial | refine ⟨.inr rfl, ?_⟩ | refine ⟨.inl rfl, ?_⟩)) (by kernel_rfl)
  have a : k = s.size / 9 := by have a : decide (((bs ((ls s).drop (9 * k))).size : Int) ≥ 9) = false := a; have := of_decide_eq_false a; omega
  have e0 : (sgs (ls s)).take k = sgs (ls s) := take_all (by omega)
  obtain ⟨F, hF⟩ : ∃ F, (sgs (ls s)).filter (fun p => (p.1 : Int) != n) = F := ⟨_, rfl⟩
  have e1 : ((sgs (ls s)).take k).filter (fun p => (p.1 : Int) != n) = F := by rw [e0, hF]
  have hFg : GoodS F := by rw [← hF]; exact hgs.filter _
  rw [hF]
  refine Sat.go (Eq.refl _) (NS.leave rfl (Eq.refl _) ?_)
  by_cases h9 : F = []
  · rw [h9]
    refine Sat.go (Eq.refl _) (NS.yes (by show ((bs (enS (((sgs (ls s)).take k).filter fun p => (p.1 : Int) != n))).toList == ByteArray.empty.toList) = true; rw [e1]; exact enS_nil.2 h9) ?_)
    refine Sat.go (Eq.refl _) (NS.call (remove_ok b.l (by have := hg.1; omega) 4) rfl ?_)
    exact Sat.go (Eq.refl _) (NS.ret rfl rfl (LeA.refl _))
  rw [if_neg (by cases F <;> simp_all)]
  refine Sat.go (Eq.refl _) (NS.no (by show ((bs (enS (((sgs (ls s)).take k).filter fun p => (p.1 : Int) != n))).toList == ByteArray.empty.toList) = false; rw [e1, ← Bool.not_eq_true]; exact fun h => h9 (enS_nil.1 h)) ?_)
  have hch := newB_chk h1 hFg
  have hr := (setS_room h1 F).2 (room_of h1 hfb)
  unfold setS at hr
  simp only at hr
  have c0 := put_ok b.l (newB b F) hg hch
  rw [show putM b.l (newB b F) = (putL b.l (newB b F), 0) from if_neg (by simp; omega)] at c0
  refine Sat.go (Eq.refl _) (NS.call (c0.le (LeL.cons (LeA.refl _) (LeL.cons (LeA.of (by show A.agg [.int .i64 (fndB b.l 4).1.kind, .int .i64 (fndB b.l 4).1.flags, .str (bs (enS (((sgs (ls s)).take k).filter fun p => (p.1 : Int) != n)))] = A.agg (newB b F).cells; rw [e1, hk4]; rfl)) LeL.nil))) rfl ?_)
  refine Sat.go (Eq.refl _) (NS.no (rfl) ?_)
  exact Sat.go (Eq.refl _) (NS.ret rfl rfl (LeA.refl _))
end Go.Proofs.Ytdhfgfkfejpfdaa
