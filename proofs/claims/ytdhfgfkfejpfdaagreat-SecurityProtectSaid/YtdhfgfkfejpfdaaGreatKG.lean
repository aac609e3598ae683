/- Signatures: damaged, find. -/
import Derived.Test.YtdhfgfkfejpfdaaGreatKC
import Derived.Test.YtdhfgfkfejpfdaaGreatKW
import Derived.Test.YtdhfgfkfejpfdaaGreatVE
import Derived.Test.YtdhfgfkfejpfdaaGreatVC
set_option linter.unusedSimpArgs false
set_option linter.unusedSectionVars false
set_option linter.unusedVariables false
namespace Go.Proofs.YtdhfgfkfejpfdaaGreat
open Go.Sy Go.Mb
set_option maxRecDepth 100000
set_option linter.unusedVariables false
set_option maxHeartbeats 4000000

noncomputable def CS : Cx := { E := EN, inl := [18, 34], ok := EN_ok }
theorem nodeG (s : ByteArray) (k : Nat) : IntKind.i64.wrap (((bs ((ls s).drop (9 * k))).data.toList.getD (0 : Int).toNat 0).toNat : Int) = (((ls s).getD (9 * k) 0 : Nat) : Int) := by
  rw [ls_get, ls_bs (fun x hx => ls_lt s x (List.mem_of_mem_drop hx)), gD_drop]
  have : (ls s).getD (9 * k + (0 : Int).toNat) 0 < 256 := ls_bd s _
  exact wrap_i64 (by omega) (by omega)
theorem dropS (s : ByteArray) (k : Nat) : (bs ((ls s).drop (9 * k))).extract (9 : Int).toNat ((bs ((ls s).drop (9 * k))).size : Int).toNat = bs ((ls s).drop (9 * (k + 1))) := by
  apply ls_inj
  have hlt : ∀ j, ∀ x ∈ (ls s).drop j, x < 256 := fun j x hx => ls_lt s x (List.mem_of_mem_drop hx)
  rw [ls_extract, ls_bs (hlt _), ls_bs (hlt _), bs_len, take_all (by simp), List.drop_drop]
  congr 1
theorem tmod9 (s : ByteArray) : (((s.size : Int).tmod 9) != 0) = (s.size % 9 != 0) := by
  have e : ((s.size : Nat) : Int).tmod 9 = ((s.size % 9 : Nat) : Int) := (Int.ofNat_tmod s.size 9).symm
  rw [e, Bool.eq_iff_iff]
  simp only [bne_iff_ne, ne_eq]; omega
theorem damaged_ok (s : ByteArray) (hs : s.size ≤ 1000000) : FnOK Tryz.prog 54 [.str s] (.bool (dmgL (ls s)), none) := by
  refine fn_ok CS rfl (by kernel_rfl) Tryz.func54 rfl ?_
  have hL := ls_len s
  have hS := sgs_len (ls s)
  refine Sat.go (Eq.refl _) ?_
  refine NS.loop (σ := { x : Nat × Int // x.1 ≤ s.size / 9 ∧ ndsOK (-1) (sgs (ls s)) = ndsOK x.2 ((sgs (ls s)).drop x.1) }) (fun x => [(0, .yld 30), (1, .ptr 29 0)]) (fun x => [(3, .box [.int .i64 x.1.2]), (29, .box [.str (bs ((ls s).drop (9 * x.1.1)))])]) (fun x => s.size / 9 - x.1.1) ⟨(0, -1), Nat.zero_le _, rfl⟩ ?_ ?_
  · exact weak_hd [] rfl ⟨rfl, rfl, trivial⟩ ⟨⟨_, rfl, _, _, rfl, rfl, rfl⟩, ⟨_, rfl, _, _, rfl, ren_str rfl (bs_ls s).symm, rfl⟩, trivial⟩ (by repeat' (first | exact trivial | refine ⟨.inr rfl, ?_⟩ | refine ⟨.inl rfl, ?_⟩)) (by kernel_rfl)
  rintro ⟨⟨k, a⟩, hk, hn⟩
  have hk : k ≤ s.size / 9 := hk
  have hn : ndsOK (-1) (sgs (ls s)) = ndsOK a ((sgs (ls s)).drop k) := hn
  have hsz : (bs ((ls s).drop (9 * k))).size = s.size - 9 * k := by rw [bs_len, List.length_drop, hL]
  refine Sat.go (Eq.refl _) (NS.ite (fun b => ?_) (fun b => ?_))
  · have b : 9 ≤ s.size - 9 * k := by have b : decide (((bs ((ls s).drop (9 * k))).size : Int) ≥ 9) = true := b; have := of_decide_eq_true b; omega
    refine Sat.go (Eq.refl _) (NS.chk (by kernel_rfl) ?_)
    refine Sat.go (Eq.refl _) (NS.need (by show decide ((0 : Int) ≤ 0 ∧ 0 < ((bs ((ls s).drop (9 * k))).size : Int)) = true; exact decide_eq_true (by omega)) ?_)
    refine Sat.go (Eq.refl _) (NS.need (by show decide ((0 : Int) ≤ 1 ∧ (1 : Int) ≤ 9 ∧ 9 ≤ ((bs ((ls s).drop (9 * k))).size : Int)) = true; exact decide_eq_true (by omega)) ?_)
    have hlt : k < (sgs (ls s)).length := by omega
    rw [drop_cons hlt, sgs_get (by omega), ndsOK] at hn
    have hg : IntKind.i64.wrap (((bs ((ls s).drop (9 * k))).data.toList.getD (0 : Int).toNat 0).toNat : Int) = (((ls s).getD (9 * k) 0 : Nat) : Int) := nodeG s k
    have hg2 : ((((ls s).getD (9 * k) 0, ((ls s).drop (9 * k + 1)).take 8) : Sg).1 : Int) = (((ls s).getD (9 * k) 0 : Nat) : Int) := rfl
    refine Sat.go (Eq.refl _) (NS.ite (fun c => ?_) (fun c => ?_))
    · have c : (((ls s).getD (9 * k) 0 : Nat) : Int) ≤ a := by rw [← hg]; exact of_decide_eq_true c
      exact Sat.go (Eq.refl _) (NS.leaveOut rfl (Eq.refl _) (NS.ret rfl rfl (LeA.of (congrArg A.bool (by unfold dmgL; rw [hn, decide_eq_false (by rw [hg2]; omega)]; rfl)))))
    have c : a < (((ls s).getD (9 * k) 0 : Nat) : Int) := by rw [← hg]; have := of_decide_eq_false c; exact Int.not_le.1 this
    rw [decide_eq_true (by rw [hg2]; exact c), Bool.true_and] at hn
    refine Sat.go (Eq.refl _) (NS.ite (fun d => ?_) (fun d => ?_))
    · have d : (((ls s).getD (9 * k) 0 : Nat) : Int) ≥ 16 := by rw [← hg]; exact of_decide_eq_true d
      exact Sat.go (Eq.refl _) (NS.leaveOut rfl (Eq.refl _) (NS.ret rfl rfl (LeA.of (congrArg A.bool (by unfold dmgL; rw [hn, decide_eq_false (by rw [hg2]; omega)]; rfl)))))
    have d : ¬ (((ls s).getD (9 * k) 0 : Nat) : Int) ≥ 16 := by rw [← hg]; exact of_decide_eq_false d
    rw [decide_eq_true (by rw [hg2]; omega), Bool.true_and] at hn
    refine Sat.go (Eq.refl _) (NS.need (by show decide ((0 : Int) ≤ 9 ∧ 9 ≤ ((bs ((ls s).drop (9 * k))).size : Int) ∧ ((bs ((ls s).drop (9 * k))).size : Int) ≤ ((bs ((ls s).drop (9 * k))).size : Int)) = true; exact decide_eq_true (by omega)) ?_)
    refine Sat.go (Eq.refl _) (NS.next ⟨(k + 1, (((ls s).getD (9 * k) 0 : Nat) : Int)), by show k + 1 ≤ s.size / 9; omega, hn⟩ (by show s.size / 9 - (k + 1) < s.size / 9 - k; omega) ?_)
    exact weak_hd [] rfl ⟨rfl, rfl, trivial⟩ ⟨⟨_, rfl, _, _, rfl, ren_int rfl hg, rfl⟩, ⟨_, rfl, _, _, rfl, ren_str rfl (dropS s k), rfl⟩, trivial⟩ (by repeat' (first | exact trivial | refine ⟨.inr rfl, ?_⟩ | refine ⟨.inl rfl, ?_⟩)) (by kernel_rfl)
  have b : k = s.size / 9 := by have b : decide (((bs ((ls s).drop (9 * k))).size : Int) ≥ 9) = false := b; have := of_decide_eq_false b; omega
  rw [List.drop_eq_nil_of_le (by omega)] at hn
  have hn : ndsOK (-1) (sgs (ls s)) = true := hn
  refine Sat.go (Eq.refl _) (NS.leave rfl (Eq.refl _) ?_)
  refine Sat.go (Eq.refl _) (NS.ite (fun e => ?_) (fun e => ?_))
  · have e : ((s.size : Int) == 0) = true := e
    simp only [beq_iff_eq] at e
    have e3 : (s.size == 0) = true := by rw [beq_iff_eq]; omega
    exact Sat.go (Eq.refl _) (NS.ret rfl rfl (LeA.of (congrArg A.bool (by unfold dmgL; rw [hn, hL, e3]; rfl))))
  have e : ((s.size : Int) == 0) = false := e
  have e2 : dmgL (ls s) = (s.size % 9 != 0) := by
    unfold dmgL
    rw [hn, hL]
    simp only [beq_eq_false_iff_ne, ne_eq] at e
    have : (s.size == 0) = false := by rw [beq_eq_false_iff_ne]; intro h; omega
    rw [this]; rfl
  refine Sat.go (Eq.refl _) (NS.need (rfl) ?_)
  exact Sat.go (Eq.refl _) (NS.ret rfl rfl (LeA.of (congrArg A.bool (by rw [tmod9, e2]))))
end Go.Proofs.YtdhfgfkfejpfdaaGreat
