/- The contracts of the reference's checks of segments. -/
import Derived.Test.YtbpdbibnfmdpoaaGB
set_option linter.unusedSimpArgs false
set_option linter.unusedSectionVars false
set_option linter.unusedVariables false
namespace Go.Proofs.Ytbpdbibnfmdpoaa
open Go.Sy Go.Mb
set_option maxRecDepth 100000
set_option linter.unusedVariables false
set_option maxHeartbeats 4000000

theorem num_f1 {s : Seg} (h : inR s.ses 0 tMax = false) : false = numG s := by unfold numG; rw [h]; rfl
theorem inR_f_iff {n lo hi : Int} : inR n lo hi = false ↔ ¬ (lo ≤ n ∧ n ≤ hi) := by rw [← Bool.not_eq_true, inR_iff]
theorem num_of {s : Seg} {b : Bool} (h : b = true ↔ (0 ≤ s.ses ∧ s.ses ≤ tMax) ∧ (0 ≤ s.ser ∧ s.ser ≤ tMax) ∧ numK s = true) : b = numG s := by
  rw [Bool.eq_iff_iff, h]
  unfold numG
  rw [Bool.and_eq_true, Bool.and_eq_true, inR_iff, inR_iff]
theorem num1_iff {s : Seg} : num1 s = true ↔ (1 ≤ s.tot ∧ s.tot ≤ 65536) ∧ (0 ≤ s.off ∧ s.off ≤ s.tot - 1) ∧ (s.ser ≥ 1 ↔ s.chk = true) := by
  unfold num1
  rw [Bool.and_eq_true, Bool.and_eq_true, inR_iff, inR_iff, beq_iff_eq, Bool.eq_iff_iff, decide_eq_true_eq]
theorem num2_iff {s : Seg} : num2 s = true ↔ s.ser ≥ 1 ∧ (1 ≤ s.tot ∧ s.tot ≤ 65536) ∧ s.off = 0 := by
  unfold num2
  rw [Bool.and_eq_true, Bool.and_eq_true, inR_iff, beq_iff_eq, decide_eq_true_eq]
theorem num3_iff {s : Seg} : num3 s = true ↔ s.ser = 0 ∧ s.tot = 0 ∧ s.off = 0 := by
  unfold num3
  rw [Bool.and_eq_true, Bool.and_eq_true, beq_iff_eq, beq_iff_eq, beq_iff_eq]
theorem rNumbers_ok (s : Seg) (hk : inR s.kind 1 3 = true) : FnOK Try.prog 49 [.agg s.cells] (.bool (numG s), none) := by
  have hk := inR_iff.1 hk
  have etm : tMax = 1099511627776 := rfl
  refine fn_ok CN rfl (by kernel_rfl) Try.func49 rfl ?_
  refine Sat.go (Eq.refl _) (NS.call (rgWithin_ok s.ses 0 1099511627776) rfl ?_)
  refine Sat.go (Eq.refl _) (NS.ite (fun h1 => ?_) (fun h1 => ?_))
  · exact Sat.go (Eq.refl _) (NS.ret rfl rfl (LeA.of (congrArg A.bool (num_f1 (not_t h1)))))
  have h1 : 0 ≤ s.ses ∧ s.ses ≤ tMax := inR_iff.1 (not_f h1)
  refine Sat.go (Eq.refl _) (NS.ite (fun k3 => ?_) (fun k3 => ?_))
  · have k3 : s.kind = 3 := eq_of_beq k3
    have hn : numK s = num3 s := by unfold numK; rw [if_neg (by omega), if_neg (by omega)]
    refine Sat.go (Eq.refl _) (NS.ite (fun a1 => ?_) (fun a1 => ?_))
    · have a1 : s.ser = 0 := eq_of_beq a1
      refine Sat.go (Eq.refl _) (NS.ite (fun a2 => ?_) (fun a2 => ?_))
      · have a2 : s.off = 0 := eq_of_beq a2
        refine Sat.go (Eq.refl _) (NS.ret rfl rfl (LeA.of (congrArg A.bool (num_of ?_))))
        rw [hn, num3_iff, beq_iff_eq]
        constructor
        · intro h; exact ⟨h1, by omega, a1, h, a2⟩
        · rintro ⟨_, _, _, h, _⟩; exact h
      · have a2 : s.off ≠ 0 := ne_of_beq_false a2
        refine Sat.go (Eq.refl _) (NS.ret rfl rfl (LeA.of (congrArg A.bool (num_of ?_))))
        rw [hn, num3_iff]
        constructor
        · intro h; cases h
        · rintro ⟨_, _, _, _, h⟩; exact absurd h a2
    · have a1 : s.ser ≠ 0 := ne_of_beq_false a1
      refine Sat.go (Eq.refl _) (NS.ret rfl rfl (LeA.of (congrArg A.bool (num_of ?_))))
      rw [hn, num3_iff]
      constructor
      · intro h; cases h
      · rintro ⟨_, _, h, _, _⟩; exact absurd h a1
  have k3 : s.kind ≠ 3 := ne_of_beq_false k3
  refine Sat.go (Eq.refl _) (NS.call (rgWithin_ok s.tot 1 65536) rfl ?_)
  refine Sat.go (Eq.refl _) (NS.ite (fun h2 => ?_) (fun h2 => ?_))
  · have h2 := inR_f_iff.1 (not_t h2)
    refine Sat.go (Eq.refl _) (NS.ret rfl rfl (LeA.of (congrArg A.bool (num_of ?_))))
    constructor
    · intro h; cases h
    · rintro ⟨_, _, h⟩
      unfold numK at h
      split at h
      · exact absurd (num1_iff.1 h).1 h2
      · split at h
        · exact absurd (num2_iff.1 h).2.1 h2
        · omega
  have h2 := inR_iff.1 (not_f h2)
  refine Sat.go (Eq.refl _) (NS.ite (fun k2 => ?_) (fun k2 => ?_))
  · have k2 : s.kind = 2 := eq_of_beq k2
    have hn : numK s = num2 s := by unfold numK; rw [if_neg (by omega), if_pos k2]
    refine Sat.go (Eq.refl _) (NS.call (rgWithin_ok s.ser 1 1099511627776) rfl ?_)
    refine Sat.go (Eq.refl _) (NS.ite (fun a1 => ?_) (fun a1 => ?_))
    · have a1 := inR_iff.1 a1
      refine Sat.go (Eq.refl _) (NS.ret rfl rfl (LeA.of (congrArg A.bool (num_of ?_))))
      rw [hn, num2_iff, beq_iff_eq]
      constructor
      · intro h; exact ⟨h1, by omega, by omega, h2, h⟩
      · rintro ⟨_, _, _, _, h⟩; exact h
    · have a1 := inR_f_iff.1 a1
      refine Sat.go (Eq.refl _) (NS.ret rfl rfl (LeA.of (congrArg A.bool (num_of ?_))))
      rw [hn, num2_iff]
      constructor
      · intro h; cases h
      · rintro ⟨_, h, h', _⟩; exact absurd ⟨h', by omega⟩ a1
  have k2 : s.kind ≠ 2 := ne_of_beq_false k2
  have hn : numK s = num1 s := by unfold numK; rw [if_pos (by omega)]
  have e : IntKind.i64.wrap (s.tot - 1) = s.tot - 1 := wrap_i64 (by omega) (by omega)
  have c := rgWithin_ok s.off 0 (s.tot - 1)
  rw [← e] at c
  refine Sat.go (Eq.refl _) (NS.ite (fun k4 => ?_) (fun k4 => ?_))
  · have k4 : s.chk = true := k4
    refine Sat.go (Eq.refl _) (NS.call (rgWithin_ok s.ser 1 1099511627776) rfl ?_)
    refine Sat.go (Eq.refl _) (NS.ite (fun a1 => ?_) (fun a1 => ?_))
    · have a1 := inR_iff.1 a1
      refine Sat.go (Eq.refl _) (NS.call (c) rfl ?_)
      rw [e]
      refine Sat.go (Eq.refl _) (NS.ret rfl rfl (LeA.of (congrArg A.bool (num_of ?_))))
      rw [hn, num1_iff, inR_iff, k4]
      constructor
      · intro h; exact ⟨h1, by omega, h2, h, by simp; omega⟩
      · rintro ⟨_, _, _, h, _⟩; exact h
    · have a1 := inR_f_iff.1 a1
      refine Sat.go (Eq.refl _) (NS.ret rfl rfl (LeA.of (congrArg A.bool (num_of ?_))))
      rw [hn, num1_iff, k4]
      constructor
      · intro h; cases h
      · rintro ⟨_, h, _, _, h'⟩
        exact absurd ⟨h'.2 rfl, by omega⟩ a1
  · have k4 : s.chk = false := k4
    refine Sat.go (Eq.refl _) (NS.ite (fun a1 => ?_) (fun a1 => ?_))
    · have a1 : s.ser = 0 := eq_of_beq a1
      refine Sat.go (Eq.refl _) (NS.call (c) rfl ?_)
      rw [e]
      refine Sat.go (Eq.refl _) (NS.ret rfl rfl (LeA.of (congrArg A.bool (num_of ?_))))
      rw [hn, num1_iff, inR_iff, k4]
      constructor
      · intro h; exact ⟨h1, by omega, h2, h, by simp; omega⟩
      · rintro ⟨_, _, _, h, _⟩; exact h
    · have a1 : s.ser ≠ 0 := ne_of_beq_false a1
      refine Sat.go (Eq.refl _) (NS.ret rfl rfl (LeA.of (congrArg A.bool (num_of ?_))))
      rw [hn, num1_iff, k4]
      constructor
      · intro h; cases h
      · rintro ⟨_, h, _, _, h'⟩
        have : ¬ s.ser ≥ 1 := fun h2 => by have := h'.1 h2; cases this
        omega
theorem inside_nil (t : Int) : insideM [] t = true := rfl
theorem size_b (s : ByteArray) : ((s.size : Int) == 0) = (s.size == 0) := by rw [Bool.eq_iff_iff, beq_iff_eq, beq_iff_eq]; omega
theorem rContents_ok (s : Seg) (hk : inR s.kind 1 3 = true) (hn : numG s = true) : FnOK Try.prog 50 [.agg s.cells] (.bool (othG s), none) := by
  have hk := inR_iff.1 hk
  unfold numG at hn
  rw [Bool.and_eq_true, Bool.and_eq_true] at hn
  obtain ⟨_, _, hn⟩ := hn
  refine fn_ok CN rfl (by kernel_rfl) Try.func50 rfl ?_
  refine Sat.go (Eq.refl _) (NS.ite (fun k1 => ?_) (fun k1 => ?_))
  · have k1 : s.kind = 1 := eq_of_beq k1
    have hn1 := num1_iff.1 (by unfold numK at hn; rw [if_pos k1] at hn; exact hn)
    have e : IntKind.i64.wrap (s.tot - s.off) = s.tot - s.off := wrap_i64 (by omega) (by omega)
    have ho : othG s = oth1 s := by unfold othG; rw [if_pos k1]
    rw [ho]
    refine Sat.go (Eq.refl _) (NS.call (rgWithin_ok s.data.size 1 16) rfl ?_)
    refine Sat.go (Eq.refl _) (NS.ite (fun a1 => ?_) (fun a1 => ?_))
    · have a1 := inR_iff.1 a1
      refine Sat.go (Eq.refl _) (NS.ite (fun a2 => ?_) (fun a2 => ?_))
      · rw [e] at a2
        have a2 : (s.data.size : Int) ≤ s.tot - s.off := of_decide_eq_true a2
        exact Sat.go (Eq.refl _) (NS.ret rfl rfl (LeA.of (congrArg A.bool (by unfold oth1; rw [inR_iff.2 (by omega), natbeq]; rfl))))
      · rw [e] at a2
        have a2 : ¬ (s.data.size : Int) ≤ s.tot - s.off := of_decide_eq_false a2
        exact Sat.go (Eq.refl _) (NS.ret rfl rfl (LeA.of (congrArg A.bool (by unfold oth1; rw [inR_f_iff.2 (by omega)]; rfl))))
    · have a1 := inR_f_iff.1 a1
      exact Sat.go (Eq.refl _) (NS.ret rfl rfl (LeA.of (congrArg A.bool (by unfold oth1; rw [inR_f_iff.2 (by omega)]; rfl))))
  have k1 : s.kind ≠ 1 := ne_of_beq_false k1
  refine Sat.go (Eq.refl _) (NS.ite (fun c1 => ?_) (fun c1 => ?_))
  · have c1 : (!s.chk) = true := c1
    refine Sat.go (Eq.refl _) (NS.ite (fun c2 => ?_) (fun c2 => ?_))
    · have c2 : (s.data.size == 0) = true := by rw [← size_b]; exact c2
      have hnd : noData s = true := by unfold noData; rw [c1, c2]; rfl
      refine Sat.go (Eq.refl _) (NS.ite (fun k2 => ?_) (fun k2 => ?_))
      · have k2 : s.kind = 2 := eq_of_beq k2
        have ho : othG s = insideM s.claims s.tot := by unfold othG oth2; rw [if_neg k1, if_pos k2, hnd]; rfl
        rw [ho]
        refine Sat.go (Eq.refl _) (NS.call (rInside_ok s.claims s.tot) rfl ?_)
        refine Sat.go (Eq.refl _) (NS.ite (fun a1 => ?_) (fun a1 => ?_))
        · exact Sat.go (Eq.refl _) (NS.ret rfl rfl (LeA.of (congrArg A.bool (a1.symm))))
        · refine Sat.go (Eq.refl _) (NS.ret rfl rfl (LeA.of (congrArg A.bool (?_))))
          rw [a1]
          rw [← Bool.not_eq_true]
          intro h
          have h : (s.claims.length : Int) = 0 := eq_of_beq h
          have : s.claims = [] := List.eq_nil_of_length_eq_zero (by omega)
          rw [this] at a1; cases a1
      · have k2 : s.kind ≠ 2 := ne_of_beq_false k2
        have ho : othG s = (s.claims.length == 0) := by unfold othG oth3; rw [if_neg k1, if_neg k2, hnd]; rfl
        exact Sat.go (Eq.refl _) (NS.ret rfl rfl (LeA.of (congrArg A.bool (by rw [ho, ← natbeq]))))
    · have c2 : (s.data.size == 0) = false := by rw [← size_b]; exact c2
      have hnd : noData s = false := by unfold noData; rw [c2]; simp
      have ho : othG s = false := by unfold othG oth2 oth3; rw [if_neg k1, hnd]; simp
      exact Sat.go (Eq.refl _) (NS.ret rfl rfl (LeA.of (congrArg A.bool (ho.symm))))
  · have c1 : (!s.chk) = false := c1
    have hnd : noData s = false := by unfold noData; rw [c1]; rfl
    have ho : othG s = false := by unfold othG oth2 oth3; rw [if_neg k1, hnd]; simp
    exact Sat.go (Eq.refl _) (NS.ret rfl rfl (LeA.of (congrArg A.bool (ho.symm))))
theorem rgCheck_ok (s : Seg) : FnOK Try.prog 19 [.agg s.cells] (.int .i64 (chkG s), none) := by
  refine fn_ok CN rfl (by kernel_rfl) Try.func19 rfl ?_
  refine Sat.go (Eq.refl _) (NS.call (rgWithin_ok s.kind 1 3) rfl ?_)
  refine Sat.go (Eq.refl _) (NS.ite (fun hk => ?_) (fun hk => ?_))
  · exact Sat.go (Eq.refl _) (NS.ret rfl rfl (LeA.of (congrArg (A.int .i64) (by unfold chkG; rw [not_t hk]; rfl))))
  have hk := not_f hk
  refine Sat.go (Eq.refl _) (NS.call (rNumbers_ok s hk) rfl ?_)
  refine Sat.go (Eq.refl _) (NS.ite (fun hn => ?_) (fun hn => ?_))
  · exact Sat.go (Eq.refl _) (NS.ret rfl rfl (LeA.of (congrArg (A.int .i64) (by unfold chkG; rw [if_pos hk, not_t hn]; rfl))))
  have hn := not_f hn
  refine Sat.go (Eq.refl _) (NS.call (rContents_ok s hk hn) rfl ?_)
  refine Sat.go (Eq.refl _) (NS.ite (fun ho => ?_) (fun ho => ?_))
  · exact Sat.go (Eq.refl _) (NS.ret rfl rfl (LeA.of (congrArg (A.int .i64) (by unfold chkG; rw [if_pos hk, hn, not_t ho]; rfl))))
  · exact Sat.go (Eq.refl _) (NS.ret rfl rfl (LeA.of (congrArg (A.int .i64) (by unfold chkG; rw [if_pos hk, hn, not_f ho]; rfl))))
end Go.Proofs.Ytbpdbibnfmdpoaa
