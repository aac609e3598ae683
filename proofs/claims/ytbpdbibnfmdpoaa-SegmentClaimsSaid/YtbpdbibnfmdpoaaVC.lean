/- The contracts of reading numbers. -/
import Derived.Test.YtbpdbibnfmdpoaaVB
set_option linter.unusedSimpArgs false
set_option linter.unusedSectionVars false
set_option linter.unusedVariables false
namespace Go.Proofs.Ytbpdbibnfmdpoaa
open Go.Sy Go.Mb
set_option maxRecDepth 100000
set_option linter.unusedVariables false
set_option maxHeartbeats 1000000

theorem rdI_le {r : Int × Nat × Int} {n e : Int} {k : Nat} (h : r = (n, k, e)) : LeA (.tup [.int .i64 n, .int .i64 (k : Int), .int .i64 e]) (.tup [.int .i64 r.1, .int .i64 (r.2.1 : Nat), .int .i64 r.2.2]) := by subst h; exact LeA.refl _
theorem rdI_err {l : List Nat} {e : Int} {m k : Nat} (h : rdZ 9 l 0 0 = (e, m, k)) (he : (e != 0) = true) : rdI l = (0, 0, e) := by unfold rdI; rw [h]; simp only; rw [if_pos he]
theorem rdI_bad {l : List Nat} {m k : Nat} (h : rdZ 9 l 0 0 = (0, m, k)) (hb : l.getD 0 0 = 128 ∨ inI (unz m) = false) : rdI l = (0, 0, 11) := by
  unfold rdI; rw [h]; simp only; rw [if_neg (by simp), if_pos]
  rcases hb with hb | hb
  · rw [hb]; rfl
  · rw [hb]; simp
theorem rdI_good {l : List Nat} {m k : Nat} (h : rdZ 9 l 0 0 = (0, m, k)) (h1 : l.getD 0 0 ≠ 128) (h2 : inI (unz m) = true) : rdI l = (unz m, k, 0) := by
  unfold rdI; rw [h]; simp only; rw [if_neg (by simp), if_neg]
  rw [h2]; simpa using h1
/-- What is known while groups are read. -/
structure RdU (l : List Nat) (i m : Nat) : Prop where
  le : i ≤ 9
  eq : rdZ 9 l 0 0 = rdZ (9 - i) (l.drop i) m i
  sz : m < 128 ^ i
  ln : i ≤ l.length
theorem RdU.start (l : List Nat) : RdU l 0 0 := ⟨by omega, rfl, by simp, by omega⟩
theorem RdU.short {l : List Nat} {i m : Nat} (u : RdU l i m) (h9 : i < 9) (h : l.length ≤ i) : rdI l = (0, 0, 12) := by
  refine rdI_err (e := 12) (m := 0) (k := 0) ?_ rfl
  rw [u.eq, drop_end h]
  obtain ⟨g, hg⟩ : ∃ g, 9 - i = g + 1 := ⟨8 - i, by omega⟩
  rw [hg, rdZ]
theorem RdU.long {l : List Nat} {m : Nat} (u : RdU l 9 m) : rdI l = (0, 0, 11) := by
  refine rdI_err (e := 11) (m := 0) (k := 0) ?_ rfl
  rw [u.eq]; rfl
theorem RdU.last {l : List Nat} {i m : Nat} (u : RdU l i m) (h9 : i < 9) (h : i < l.length) (hc : l.getD i 0 < 128) : rdZ 9 l 0 0 = (0, m * 128 + l.getD i 0, i + 1) := by
  obtain ⟨g, hg⟩ : ∃ g, 9 - i = g + 1 := ⟨8 - i, by omega⟩
  have hd : l.drop i = l.getD i 0 :: l.drop (i + 1) := drop_cons h
  rw [u.eq, hd, hg, rdZ, if_pos hc]
theorem RdU.step {l : List Nat} {i m : Nat} (hl : ∀ x ∈ l, x < 256) (u : RdU l i m) (h9 : i < 9) (h : i < l.length) (hc : ¬ l.getD i 0 < 128) : RdU l (i + 1) (m * 128 + l.getD i 0 % 128) := by
  obtain ⟨g, hg⟩ : ∃ g, 9 - i = g + 1 := ⟨8 - i, by omega⟩
  have hd : l.drop i = l.getD i 0 :: l.drop (i + 1) := drop_cons h
  have h256 : l.getD i 0 < 256 := memD (p := fun x => x < 256) hl h
  have hs := u.sz
  refine ⟨by omega, ?_, ?_, h⟩
  · rw [u.eq, hd, hg, rdZ, if_neg hc, show l.getD i 0 - 128 = l.getD i 0 % 128 by omega, show 9 - (i + 1) = g by omega]
  · rw [Nat.pow_succ]; omega
theorem RdU.small {l : List Nat} {i m : Nat} (u : RdU l i m) (h9 : i < 9) : m < 2 ^ 56 := by
  have h1 : 128 ^ i ≤ 128 ^ 8 := Nat.pow_le_pow_right (by omega) (by omega)
  have := u.sz
  omega
theorem ls_bd (s : ByteArray) (i : Nat) : (ls s).getD i 0 < 256 := by
  rcases Nat.lt_or_ge i (ls s).length with h | h
  · exact memD (p := fun x => x < 256) (ls_lt s) h
  · simp [List.getD, h]
theorem u8_i64 (x : Nat) (h : x < 256) : IntKind.i64.wrap ((x : Nat) : Int) = ((x : Nat) : Int) := wrap_i64 (by omega) (by omega)
theorem tdiv2 (m : Nat) : ((m : Nat) : Int).tdiv 2 = ((m / 2 : Nat) : Int) := (Int.ofNat_tdiv m 2).symm
theorem tmod2 (m : Nat) : ((m : Nat) : Int).tmod 2 = ((m % 2 : Nat) : Int) := (Int.ofNat_tmod m 2).symm
/-- The reference's number. -/
theorem ref_neg {m : Nat} (h : m < 2 ^ 63) (hm : m % 2 = 1) : IntKind.i64.wrap ((IntKind.i64.wrap (0 - IntKind.i64.wrap ((m : Int) + 1))).tdiv 2) = unz m := by
  unfold unz
  rw [if_pos hm]
  by_cases hb : m = 2 ^ 63 - 1
  · subst hb; decide
  · rw [wrap_i64 (n := (m : Int) + 1) (by omega) (by omega), wrap_i64 (n := 0 - ((m : Int) + 1)) (by omega) (by omega)]
    have e : (0 - ((m : Int) + 1)).tdiv 2 = -((m / 2 : Nat) : Int) - 1 := by
      rw [show 0 - ((m : Int) + 1) = -(((m + 1 : Nat) : Int)) by omega, Int.neg_tdiv]
      have : (((m + 1 : Nat) : Int)).tdiv 2 = (((m + 1) / 2 : Nat) : Int) := (Int.ofNat_tdiv (m + 1) 2).symm
      rw [this]; omega
    rw [e, wrap_i64 (by omega) (by omega)]
theorem rReadInt_ok (s : ByteArray) : FnOK Try.prog 45 [.str s] (.tup [.int .i64 (rdI (ls s)).1, .int .i64 ((rdI (ls s)).2.1 : Nat), .int .i64 (rdI (ls s)).2.2], none) := by
  have hsz := ls_len s
  have hlt := ls_lt s
  refine fn_ok VN rfl (by kernel_rfl) Try.func45 rfl ?_
  refine Sat.go (Eq.refl _) ?_
  refine NS.loop (σ := { p : Nat × Nat // RdU (ls s) p.1 p.2 }) (fun p => [(0, .str s), (5, .int .i64 p.1.2), (6, .int .i64 p.1.1)]) (fun p => []) (fun p => 9 - p.1.1) ⟨(0, 0), RdU.start _⟩ ?_ ?_
  · exact weak_hd [] rfl ⟨rfl, rfl, rfl, trivial⟩ trivial trivial (by kernel_rfl)
  rintro ⟨⟨i, m⟩, u⟩
  simp only at u
  have hi := u.le
  refine Sat.go (Eq.refl _) (NS.ite (fun h9 => ?_) (fun h9 => ?_))
  · have h9 : i < 9 := by have h9 : (i : Int) < 9 := of_decide_eq_true h9
                          omega
    have hm56 := u.small h9
    refine Sat.go (Eq.refl _) (NS.ite (fun h1 => ?_) (fun h1 => ?_))
    · have h1 : s.size ≤ i := by have h1 : (i : Int) ≥ (s.size : Int) := of_decide_eq_true h1
                                 omega
      exact Sat.go (Eq.refl _) (NS.leaveOut rfl (Eq.refl _) (NS.ret rfl rfl (rdI_le (u.short h9 (by omega)))))
    have h1 : i < s.size := by have h1 : ¬ (i : Int) ≥ (s.size : Int) := of_decide_eq_false h1
                               omega
    have hbd := ls_bd s i
    have eb : (((s.data.toList.getD i 0).toNat : Nat) : Int) = (((ls s).getD i 0 : Nat) : Int) := by rw [ls_get]
    refine Sat.go (Eq.refl _) (NS.need (decide_eq_true ⟨Int.natCast_nonneg i, by show (i : Int) < _; omega⟩) ?_)
    rw [show (Int.toNat ((i : Nat) : Int)) = i from rfl, eb]
    generalize hb : (ls s).getD i 0 = b at *
    refine Sat.go (Eq.refl _) (NS.need (rfl) ?_)
    rw [u8_i64 b hbd, tmod128]
    have eM : IntKind.i64.wrap (IntKind.i64.wrap ((m : Int) * 128) + ((b % 128 : Nat) : Int)) = ((m * 128 + b % 128 : Nat) : Int) := by
      rw [wrap_i64 (n := (m : Int) * 128) (by omega) (by omega), wrap_i64 (by omega) (by omega)]; omega
    refine Sat.go (Eq.refl _) (NS.ite (fun h2 => ?_) (fun h2 => ?_))
    · have h2 : ¬ b < 128 := by have h2 : (b : Int) ≥ 128 := of_decide_eq_true h2
                                omega
      refine Sat.go (Eq.refl _) (NS.next ⟨(i + 1, m * 128 + b % 128), by have := u.step hlt h9 (by omega) (by rw [hb]; exact h2); rwa [hb] at this⟩ (by simp only; omega) ?_)
      exact weak_hd [] rfl ⟨rfl, ren_int rfl eM, ren_int rfl (i64_k (k := i) (n := 100) (by omega) (by omega)), trivial⟩ trivial trivial (by kernel_rfl)
    have h2 : b < 128 := by have h2 : ¬ (b : Int) ≥ 128 := of_decide_eq_false h2
                            omega
    have hz := u.last h9 (by omega) (by rw [hb]; exact h2)
    rw [hb] at hz
    replace eM : IntKind.i64.wrap (IntKind.i64.wrap ((m : Int) * 128) + ((b % 128 : Nat) : Int)) = ((m * 128 + b : Nat) : Int) := by rw [eM, Nat.mod_eq_of_lt h2]
    have hM63 : m * 128 + b < 2 ^ 63 := by omega
    refine Sat.go (Eq.refl _) (NS.need (rfl) ?_)
    rw [eM, tdiv2]
    generalize m * 128 + b = M at *
    have e2 : IntKind.i64.wrap ((M / 2 : Nat) : Int) = ((M / 2 : Nat) : Int) := wrap_i64 (by omega) (by omega)
    refine Sat.go (Eq.refl _) (NS.need (rfl) ?_)
    rw [tmod2, e2]
    refine Sat.go (Eq.refl _) (NS.ite (fun h3 => ?_) (fun h3 => ?_))
    · have h3 : M % 2 = 1 := by have h3 : ((M % 2 : Nat) : Int) = 1 := by simpa using h3
                                omega
      refine Sat.go (Eq.refl _) (NS.need (rfl) ?_)
      rw [ref_neg hM63 h3]
      refine Sat.go (Eq.refl _) (NS.need (decide_eq_true ⟨Int.le_refl _, by omega⟩) ?_)
      have e0 : ((((s.data.toList.getD (Int.toNat 0) 0).toNat : Nat) : Int) == 128) = ((ls s).getD 0 0 == 128) := by
        rw [show Int.toNat 0 = 0 from rfl, ls_get]
        rw [Bool.eq_iff_iff]; simp; omega
      refine Sat.go (Eq.refl _) (NS.ite (fun h5 => ?_) (fun h5 => ?_))
      · rw [e0] at h5
        exact Sat.go (Eq.refl _) (NS.leaveOut rfl (Eq.refl _) (NS.ret rfl rfl (rdI_le (rdI_bad hz (.inl (by simpa using h5))))))
      rw [e0] at h5
      refine Sat.go (Eq.refl _) (NS.ite (fun h6 => ?_) (fun h6 => ?_))
      · have h6 : unz M < -1152921504606846976 := of_decide_eq_true h6
        exact Sat.go (Eq.refl _) (NS.leaveOut rfl (Eq.refl _) (NS.ret rfl rfl (rdI_le (rdI_bad hz (.inr (by rw [← Bool.not_eq_true, inI_iff]; omega))))))
      have h6 : ¬ unz M < -1152921504606846976 := of_decide_eq_false h6
      refine Sat.go (Eq.refl _) (NS.ite (fun h7 => ?_) (fun h7 => ?_))
      · have h7 : unz M > 1152921504606846976 := of_decide_eq_true h7
        exact Sat.go (Eq.refl _) (NS.leaveOut rfl (Eq.refl _) (NS.ret rfl rfl (rdI_le (rdI_bad hz (.inr (by rw [← Bool.not_eq_true, inI_iff]; omega))))))
      have h7 : ¬ unz M > 1152921504606846976 := of_decide_eq_false h7
      have ei : IntKind.i64.wrap ((i : Int) + 1) = ((i + 1 : Nat) : Int) := i64_k (k := i) (n := 100) (by omega) (by omega)
      refine Sat.go (Eq.refl _) (NS.leaveOut rfl (Eq.refl _) (NS.ret rfl rfl ?_))
      rw [rdI_good hz (by simpa using h5) (by rw [inI_iff]; omega)]
      exact LeA.of (by rw [← ei])
    · have h3 : ¬ M % 2 = 1 := by have h3 : ((M % 2 : Nat) : Int) ≠ 1 := by simpa using h3
                                  omega
      have e3 : ((M / 2 : Nat) : Int) = unz M := by unfold unz; rw [if_neg h3]
      rw [e3]
      refine Sat.go (Eq.refl _) (NS.need (decide_eq_true ⟨Int.le_refl _, by omega⟩) ?_)
      have e0 : ((((s.data.toList.getD (Int.toNat 0) 0).toNat : Nat) : Int) == 128) = ((ls s).getD 0 0 == 128) := by
        rw [show Int.toNat 0 = 0 from rfl, ls_get]
        rw [Bool.eq_iff_iff]; simp; omega
      refine Sat.go (Eq.refl _) (NS.ite (fun h5 => ?_) (fun h5 => ?_))
      · rw [e0] at h5
        exact Sat.go (Eq.refl _) (NS.leaveOut rfl (Eq.refl _) (NS.ret rfl rfl (rdI_le (rdI_bad hz (.inl (by simpa using h5))))))
      rw [e0] at h5
      refine Sat.go (Eq.refl _) (NS.ite (fun h6 => ?_) (fun h6 => ?_))
      · have h6 : unz M < -1152921504606846976 := of_decide_eq_true h6
        exact Sat.go (Eq.refl _) (NS.leaveOut rfl (Eq.refl _) (NS.ret rfl rfl (rdI_le (rdI_bad hz (.inr (by rw [← Bool.not_eq_true, inI_iff]; omega))))))
      have h6 : ¬ unz M < -1152921504606846976 := of_decide_eq_false h6
      refine Sat.go (Eq.refl _) (NS.ite (fun h7 => ?_) (fun h7 => ?_))
      · have h7 : unz M > 1152921504606846976 := of_decide_eq_true h7
        exact Sat.go (Eq.refl _) (NS.leaveOut rfl (Eq.refl _) (NS.ret rfl rfl (rdI_le (rdI_bad hz (.inr (by rw [← Bool.not_eq_true, inI_iff]; omega))))))
      have h7 : ¬ unz M > 1152921504606846976 := of_decide_eq_false h7
      have ei : IntKind.i64.wrap ((i : Int) + 1) = ((i + 1 : Nat) : Int) := i64_k (k := i) (n := 100) (by omega) (by omega)
      refine Sat.go (Eq.refl _) (NS.leaveOut rfl (Eq.refl _) (NS.ret rfl rfl ?_))
      rw [rdI_good hz (by simpa using h5) (by rw [inI_iff]; omega)]
      exact LeA.of (by rw [← ei])
  · obtain rfl : i = 9 := by have h9 : ¬ (i : Int) < 9 := of_decide_eq_false h9
                             omega
    refine Sat.go (Eq.refl _) (NS.leave rfl (Eq.refl _) ?_)
    exact Sat.go (Eq.refl _) (NS.ret rfl rfl (rdI_le u.long))
end Go.Proofs.Ytbpdbibnfmdpoaa
