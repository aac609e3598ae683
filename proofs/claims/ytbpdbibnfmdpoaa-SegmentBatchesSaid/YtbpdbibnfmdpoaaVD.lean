/- The contracts of the reader. -/
import Derived.Test.YtbpdbibnfmdpoaaVC
set_option linter.unusedSimpArgs false
set_option linter.unusedSectionVars false
set_option linter.unusedVariables false
namespace Go.Proofs.Ytbpdbibnfmdpoaa
open Go.Sy Go.Mb
set_option maxRecDepth 100000
set_option linter.unusedVariables false
set_option maxHeartbeats 1000000

noncomputable def VI : Cx := { E := EV, inl := [92, 95, 93], ok := EV_ok }
theorem rest_ok (s : ByteArray) (at_ : Nat) (e : Int) (h : at_ ≤ s.size) (hs : s.size ≤ 1000000) : FnOK Try.prog 94 [.ip 3 (getA [.str s, .int .i64 at_, .int .i64 e])] (.int .i64 (((ls s).drop at_).length : Nat), none) := by
  have hl := ls_len s
  refine fn_ok VN rfl (by kernel_rfl) Try.func94 rfl ?_
  refine Sat.go (Eq.refl _) (NS.chk (by kernel_rfl) ?_)
  exact Sat.go (Eq.refl _) (NS.ret rfl rfl (LeA.of (congrArg (A.int .i64) (by rw [wrap_i64 (by omega) (by omega), List.length_drop]; omega))))
theorem getD_drop (l : List Nat) (a i : Nat) : (l.drop a).getD i 0 = l.getD (a + i) 0 := by simp [List.getD, List.getElem?_drop]
theorem readInt_ok (s : ByteArray) (hs : s.size ≤ 1000000) : FnOK Try.prog 70 [.str s] (.tup [.int .i64 (rdI (ls s)).1, .int .i64 ((rdI (ls s)).2.1 : Nat), .int .i64 (rdI (ls s)).2.2], none) := by
  rw [show ls s = (ls s).drop 0 from rfl]
  refine fn_ok VI rfl (by kernel_rfl) Try.func70 rfl ?_
  refine Sat.go (Eq.refl _) (NS.no (rfl) ?_)
  -- the loop of groups, at place 0
  have hbnd : ∀ i, ((ls s).drop 0).getD i 0 < 256 := fun i => by rw [getD_drop]; exact ls_bd s _
  have hlt : ∀ x ∈ (ls s).drop 0, x < 256 := fun x hx => ls_lt s x (List.mem_of_mem_drop hx)
  have hdl : ((ls s).drop 0).length = s.size - 0 := by rw [List.length_drop, ls_len]
  refine Sat.go (Eq.refl _) ?_
  refine NS.loop (σ := { p : Nat × Nat × Bool // if p.2.2 then rdZ 9 ((ls s).drop 0) 0 0 = (0, p.2.1, p.1) ∧ p.2.1 < 2 ^ 63 ∧ 0 < p.1 ∧ p.1 ≤ 9 ∧ p.1 ≤ s.size - 0 else RdU ((ls s).drop 0) p.1 p.2.1 }) (fun p => [(0, .ptr 10 0), (3, .int .i64 p.1.2.1), (4, .int .i64 p.1.1), (5, .bool p.1.2.2)]) (fun p => []) (fun p => if p.1.2.2 then 0 else 10 - p.1.1) ⟨(0, 0, false), RdU.start _⟩ ?_ ?_
  · exact weak_hd [] rfl ⟨rfl, rfl, rfl, .inr rfl, trivial⟩ trivial (by repeat' (first | exact trivial | refine ⟨.inr rfl, ?_⟩ | refine ⟨.inl rfl, ?_⟩)) (by kernel_rfl)
  rintro ⟨⟨i, m, last⟩, u⟩
  simp only at u
  cases last with
  | false =>
    simp only [Bool.false_eq_true, if_false] at u
    have hi := u.le
    refine Sat.go (Eq.refl _) (NS.yes (rfl) ?_)
    refine Sat.go (Eq.refl _) (NS.ite (fun h9 => ?_) (fun h9 => ?_))
    · obtain rfl : i = 9 := by have h9 : (i : Int) = 9 := by simpa using h9
                               omega
      have hrd := u.long
      refine Sat.go (Eq.refl _) (NS.yes (rfl) ?_)
      refine Sat.go (Eq.refl _) (NS.leave rfl (Eq.refl _) ?_)
      refine Sat.go (Eq.refl _) (NS.yes (rfl) ?_)
      refine Sat.go (Eq.refl _) (NS.chk (by kernel_rfl) ?_)
      exact Sat.go (Eq.refl _) (NS.ret rfl rfl (rdI_le hrd))
    have h9 : i < 9 := by have h9 : (i : Int) ≠ 9 := by simpa using h9
                          omega
    have hm56 := u.small h9
    refine Sat.go (Eq.refl _) (NS.call (rest_ok s 0 0 (Nat.zero_le _) (by omega)) rfl ?_)
    refine Sat.go (Eq.refl _) (NS.ite (fun h1 => ?_) (fun h1 => ?_))
    · have h1 : ((((ls s).drop 0).length : Nat) : Int) = (i : Int) := eq_of_beq h1
      have h1 : ((ls s).drop 0).length = i := by omega
      have hrd := u.short h9 (by omega)
      refine Sat.go (Eq.refl _) (NS.yes (rfl) ?_)
      refine Sat.go (Eq.refl _) (NS.leave rfl (Eq.refl _) ?_)
      refine Sat.go (Eq.refl _) (NS.yes (rfl) ?_)
      refine Sat.go (Eq.refl _) (NS.chk (by kernel_rfl) ?_)
      exact Sat.go (Eq.refl _) (NS.ret rfl rfl (rdI_le hrd))
    have h1 : ((((ls s).drop 0).length : Nat) : Int) ≠ (i : Int) := ne_of_beq_false h1
    have h1 : i < ((ls s).drop 0).length := by have := u.ln; omega
    have ea : IntKind.i64.wrap ((0 : Int) + (i : Int)) = ((0 + i : Nat) : Int) := by rw [wrap_i64 (by omega) (by omega)]; omega
    have hb0 := hbnd i
    have eb : (((s.data.toList.getD (Int.toNat ((0 + i : Nat) : Int)) 0).toNat : Nat) : Int) = ((((ls s).drop 0).getD i 0 : Nat) : Int) := by rw [getD_drop, ← ls_get]; rfl
    refine Sat.go (Eq.refl _) (NS.chk (by kernel_rfl) ?_)
    refine Sat.go (Eq.refl _) (NS.need (by rw [ea]; exact decide_eq_true ⟨Int.natCast_nonneg _, by omega⟩) ?_)
    rw [ea, eb]
    generalize hbb : ((ls s).drop 0).getD i 0 = b at *
    refine Sat.go (Eq.refl _) (NS.need (rfl) ?_)
    have e1 := and127b hb0
    have e2 : IntKind.i64.wrap ((BitVec.ofInt IntKind.i64.bits (IntKind.i64.wrap ((m : Int) * 2 ^ (min (7 : Int).toNat IntKind.i64.bits))) ||| BitVec.ofInt IntKind.i64.bits (IntKind.i64.wrap (IntKind.u8.wrap ((BitVec.ofInt IntKind.u8.bits (b : Int) &&& BitVec.ofInt IntKind.u8.bits 127).toNat : Int)))).toNat : Int) = ((m * 128 + b % 128 : Nat) : Int) := by rw [e1]; exact or7 (by omega) hm56
    have e3 : IntKind.i64.wrap ((i : Int) + 1) = ((i + 1 : Nat) : Int) := i64_k (k := i) (n := 100) (by omega) (by omega)
    by_cases hc : b < 128
    · have hz := u.last h9 h1 (by rw [hbb]; exact hc)
      rw [hbb] at hz
      refine Sat.go (Eq.refl _) (NS.next ⟨(i + 1, m * 128 + b % 128, true), by simp only [if_true]; rw [Nat.mod_eq_of_lt hc]; exact ⟨hz, by omega, by omega, by omega, by omega⟩⟩ (by simp only [Bool.false_eq_true, if_true, if_false]; omega) ?_)
      exact weak_hd [] rfl ⟨rfl, ren_int rfl e2, ren_int rfl e3, ren_bool rfl (decide_eq_true (by show (b : Int) < 128; omega)), trivial⟩ trivial (by repeat' (first | exact trivial | refine ⟨.inr rfl, ?_⟩ | refine ⟨.inl rfl, ?_⟩)) (by kernel_rfl)
    · have hu := u.step hlt h9 h1 (by rw [hbb]; exact hc)
      rw [hbb] at hu
      refine Sat.go (Eq.refl _) (NS.next ⟨(i + 1, m * 128 + b % 128, false), by simp only [Bool.false_eq_true, if_false]; exact hu⟩ (by simp only [Bool.false_eq_true, if_false]; omega) ?_)
      exact weak_hd [] rfl ⟨rfl, ren_int rfl e2, ren_int rfl e3, ren_bool rfl (decide_eq_false (by show ¬ (b : Int) < 128; omega)), trivial⟩ trivial (by repeat' (first | exact trivial | refine ⟨.inr rfl, ?_⟩ | refine ⟨.inl rfl, ?_⟩)) (by kernel_rfl)
  | true =>
    simp only [if_true] at u
    obtain ⟨hz, hM, hi0, hi9, hil⟩ := u
    have hb0 := hbnd 0
    have eb : (((s.data.toList.getD (Int.toNat (0 : Int)) 0).toNat : Nat) : Int) = ((((ls s).drop 0).getD 0 0 : Nat) : Int) := by rw [getD_drop, ← ls_get]; rfl
    refine Sat.go (Eq.refl _) (NS.no (rfl) ?_)
    refine Sat.go (Eq.refl _) (NS.leave rfl (Eq.refl _) ?_)
    refine Sat.go (Eq.refl _) (NS.chk (by kernel_rfl) ?_)
    refine Sat.go (Eq.refl _) (NS.need (decide_eq_true ⟨by show (0 : Int) ≤ (0 : Int); omega, by show (0 : Int) < (s.size : Int); omega⟩) ?_)
    rw [eb]
    refine Sat.go (Eq.refl _) (NS.ite (fun h5 => ?_) (fun h5 => ?_))
    · have h5 : ((((ls s).drop 0).getD 0 0 : Nat) : Int) = 128 := eq_of_beq h5
      have hrd := rdI_bad hz (.inl (by omega))
      refine Sat.go (Eq.refl _) (NS.yes (rfl) ?_)
      refine Sat.go (Eq.refl _) (NS.yes (rfl) ?_)
      refine Sat.go (Eq.refl _) (NS.chk (by kernel_rfl) ?_)
      exact Sat.go (Eq.refl _) (NS.ret rfl rfl (rdI_le hrd))
    have h5 : ((((ls s).drop 0).getD 0 0 : Nat) : Int) ≠ 128 := ne_of_beq_false h5
    refine Sat.go (Eq.refl _) (NS.need (rfl) ?_)
    rw [shr1]
    have e1 := and1 hM
    refine Sat.go (Eq.refl _) (NS.ite (fun h6 => ?_) (fun h6 => ?_))
    · rw [e1] at h6
      have h6 : ((m % 2 : Nat) : Int) = 1 := eq_of_beq h6
      have eu : IntKind.i64.wrap (IntKind.i64.wrap (0 - ((m / 2 : Nat) : Int)) - 1) = unz m := by
        unfold unz; rw [if_pos (by omega), wrap_i64 (n := 0 - ((m / 2 : Nat) : Int)) (by omega) (by omega), wrap_i64 (by omega) (by omega)]; omega
      refine Sat.go (Eq.refl _) (NS.no (decide_eq_false (by show ¬ (m : Int) < 0; omega)) ?_)
      rw [eu]
      refine Sat.go (Eq.refl _) (NS.call (inRange_ok (unz m)) rfl ?_)
      refine Sat.go (Eq.refl _) (NS.ite (fun h7 => ?_) (fun h7 => ?_))
      · have hrd := rdI_bad hz (.inr (not_t h7))
        refine Sat.go (Eq.refl _) (NS.yes (rfl) ?_)
        refine Sat.go (Eq.refl _) (NS.yes (rfl) ?_)
        refine Sat.go (Eq.refl _) (NS.chk (by kernel_rfl) ?_)
        exact Sat.go (Eq.refl _) (NS.ret rfl rfl (rdI_le hrd))
      have h7 := not_f h7
      have hrd := rdI_good hz (by omega) h7
      have ek : IntKind.i64.wrap ((0 : Int) + (i : Int)) = ((0 + i : Nat) : Int) := by rw [wrap_i64 (by omega) (by omega)]; omega
      refine Sat.go (Eq.refl _) (NS.no (rfl) ?_)
      refine Sat.go (Eq.refl _) (NS.chk (by kernel_rfl) ?_)
      refine Sat.go (Eq.refl _) (NS.ret rfl rfl ?_)
      rw [hrd]
      exact LeA.of (congrArg (fun x => A.tup [.int .i64 (unz m), .int .i64 x, .int .i64 0]) (ek.trans (by rw [Nat.zero_add])))
    · rw [e1] at h6
      have h6 : ((m % 2 : Nat) : Int) ≠ 1 := ne_of_beq_false h6
      have eu : ((m / 2 : Nat) : Int) = unz m := by unfold unz; rw [if_neg (by omega)]
      refine Sat.go (Eq.refl _) (NS.no (decide_eq_false (by show ¬ (m : Int) < 0; omega)) ?_)
      rw [eu]
      refine Sat.go (Eq.refl _) (NS.call (inRange_ok (unz m)) rfl ?_)
      refine Sat.go (Eq.refl _) (NS.ite (fun h7 => ?_) (fun h7 => ?_))
      · have hrd := rdI_bad hz (.inr (not_t h7))
        refine Sat.go (Eq.refl _) (NS.yes (rfl) ?_)
        refine Sat.go (Eq.refl _) (NS.yes (rfl) ?_)
        refine Sat.go (Eq.refl _) (NS.chk (by kernel_rfl) ?_)
        exact Sat.go (Eq.refl _) (NS.ret rfl rfl (rdI_le hrd))
      have h7 := not_f h7
      have hrd := rdI_good hz (by omega) h7
      have ek : IntKind.i64.wrap ((0 : Int) + (i : Int)) = ((0 + i : Nat) : Int) := by rw [wrap_i64 (by omega) (by omega)]; omega
      refine Sat.go (Eq.refl _) (NS.no (rfl) ?_)
      refine Sat.go (Eq.refl _) (NS.chk (by kernel_rfl) ?_)
      refine Sat.go (Eq.refl _) (NS.ret rfl rfl ?_)
      rw [hrd]
      exact LeA.of (congrArg (fun x => A.tup [.int .i64 (unz m), .int .i64 x, .int .i64 0]) (ek.trans (by rw [Nat.zero_add])))
end Go.Proofs.Ytbpdbibnfmdpoaa
