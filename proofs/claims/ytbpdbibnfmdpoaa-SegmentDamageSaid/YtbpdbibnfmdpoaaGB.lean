/- The contracts of the checks of segments. -/
import Derived.Test.YtbpdbibnfmdpoaaGA
set_option linter.unusedSimpArgs false
set_option linter.unusedSectionVars false
set_option linter.unusedVariables false
namespace Go.Proofs.Ytbpdbibnfmdpoaa
open Go.Sy Go.Mb
set_option maxRecDepth 100000
set_option linter.unusedVariables false
set_option maxHeartbeats 4000000

theorem gWithin_ok (n lo hi : Int) : FnOK Try.prog 40 [.int .i64 n, .int .i64 lo, .int .i64 hi] (.bool (inR n lo hi), none) := by
  refine fn_ok CN rfl (by kernel_rfl) Try.func40 rfl ?_
  refine Sat.go (Eq.refl _) (NS.ite (fun h => ?_) (fun h => ?_))
  · exact Sat.go (Eq.refl _) (NS.ret rfl rfl (LeA.of (congrArg A.bool (inR_t h))))
  · exact Sat.go (Eq.refl _) (NS.ret rfl rfl (LeA.of (congrArg A.bool (inR_f h))))
theorem rgWithin_ok (n lo hi : Int) : FnOK Try.prog 41 [.int .i64 n, .int .i64 lo, .int .i64 hi] (.bool (inR n lo hi), none) := by
  refine fn_ok CN rfl (by kernel_rfl) Try.func41 rfl ?_
  refine Sat.go (Eq.refl _) (NS.ite (fun h => ?_) (fun h => ?_))
  · exact Sat.go (Eq.refl _) (NS.ret rfl rfl (LeA.of (congrArg A.bool (inR_t h))))
  · exact Sat.go (Eq.refl _) (NS.ret rfl rfl (LeA.of (congrArg A.bool (inR_f h))))
theorem len0 {l : List Spn} (h : ((l.length : Int) == 0) = true) : l.length = 0 := by have : (l.length : Int) = 0 := eq_of_beq h; omega
theorem len1 {l : List Spn} (h : ((l.length : Int) == 0) = false) : 0 < l.length := by have : (l.length : Int) ≠ 0 := ne_of_beq_false h; omega
theorem natbeq {l : List Spn} : ((l.length : Int) == 0) = (l.length == 0) := by rw [Bool.eq_iff_iff, beq_iff_eq, beq_iff_eq]; omega
theorem inside_ok (l : List Spn) (t : Int) : FnOK Try.prog 51 [slS l, .int .i64 t] (.bool (insideM l t), none) := by
  refine fn_ok CN rfl (by kernel_rfl) Try.func51 rfl ?_
  refine Sat.go (Eq.refl _) (NS.call (check_ok l) rfl ?_)
  refine Sat.go (Eq.refl _) (NS.ite (fun h0 => ?_) (fun h0 => ?_))
  · have h0' : chkS l = 0 := eq_of_beq h0
    obtain ⟨hl, _⟩ := (chkS_zero l).1 h0'
    refine Sat.go (Eq.refl _) (NS.ite (fun h1 => ?_) (fun h1 => ?_))
    · exact Sat.go (Eq.refl _) (NS.ret rfl rfl (LeA.of (congrArg A.bool (by unfold insideM headOK; rw [h0, ← natbeq, h1]; rfl))))
    have hp := len1 h1
    have e1 : IntKind.i64.wrap ((l.length : Int) - 1) = ((l.length - 1 : Nat) : Int) := by rw [wrap_i64 (by omega) (by omega)]; omega
    refine Sat.go (Eq.refl _) (NS.need (by simp; omega) ?_)
    refine Sat.go (Eq.refl _) (NS.ite (fun h2 => ?_) (fun h2 => ?_))
    · refine Sat.go (Eq.refl _) (NS.need (by rw [e1]; simp; omega) ?_)
      refine Sat.go (Eq.refl _) (NS.ret rfl rfl (LeA.of (congrArg A.bool (?_))))
      rw [e1]
      have h2 : decide ((l.getD 0 default).lo ≥ 0) = true := h2
      unfold insideM headOK; rw [h0, ← natbeq, h1, h2]; rfl
    · have h2 : decide ((l.getD 0 default).lo ≥ 0) = false := h2
      exact Sat.go (Eq.refl _) (NS.ret rfl rfl (LeA.of (congrArg A.bool (by unfold insideM headOK; rw [h0, ← natbeq, h1, h2]; rfl))))
  · exact Sat.go (Eq.refl _) (NS.ret rfl rfl (LeA.of (congrArg A.bool (by unfold insideM; rw [h0]; rfl))))
theorem rInside_ok (l : List Spn) (t : Int) : FnOK Try.prog 53 [slS l, .int .i64 t] (.bool (insideM l t), none) := by
  refine fn_ok CN rfl (by kernel_rfl) Try.func53 rfl ?_
  refine Sat.go (Eq.refl _) (NS.call (rCheck_ok l) rfl ?_)
  refine Sat.go (Eq.refl _) (NS.ite (fun h0 => ?_) (fun h0 => ?_))
  · exact Sat.go (Eq.refl _) (NS.ret rfl rfl (LeA.of (congrArg A.bool (by unfold insideM; rw [show (chkS l == 0) = false by simpa using h0]; rfl))))
  have h0 : (chkS l == 0) = true := by simpa using h0
  have h0' : chkS l = 0 := eq_of_beq h0
  obtain ⟨hl, _⟩ := (chkS_zero l).1 h0'
  refine Sat.go (Eq.refl _) (NS.ite (fun h1 => ?_) (fun h1 => ?_))
  · exact Sat.go (Eq.refl _) (NS.ret rfl rfl (LeA.of (congrArg A.bool (by unfold insideM headOK; rw [h0, ← natbeq, h1]; rfl))))
  have hp := len1 h1
  have e1 : IntKind.i64.wrap ((l.length : Int) - 1) = ((l.length - 1 : Nat) : Int) := by rw [wrap_i64 (by omega) (by omega)]; omega
  refine Sat.go (Eq.refl _) (NS.need (by simp; omega) ?_)
  refine Sat.go (Eq.refl _) (NS.ite (fun h2 => ?_) (fun h2 => ?_))
  · refine Sat.go (Eq.refl _) (NS.need (by rw [e1]; simp; omega) ?_)
    refine Sat.go (Eq.refl _) (NS.ret rfl rfl (LeA.of (congrArg A.bool (?_))))
    rw [e1]
    have h2 : decide ((l.getD 0 default).lo ≥ 0) = true := h2
    unfold insideM headOK; rw [h0, ← natbeq, h1, h2]; rfl
  · have h2 : decide ((l.getD 0 default).lo ≥ 0) = false := h2
    exact Sat.go (Eq.refl _) (NS.ret rfl rfl (LeA.of (congrArg A.bool (by unfold insideM headOK; rw [h0, ← natbeq, h1, h2]; rfl))))
theorem inR_iff {n lo hi : Int} : inR n lo hi = true ↔ lo ≤ n ∧ n ≤ hi := by simp [inR]
theorem n1_ok (s : Seg) : FnOK Try.prog 74 [.agg s.cells] (.bool (num1 s), none) := by
  refine fn_ok CN rfl (by kernel_rfl) Try.func74 rfl ?_
  refine Sat.go (Eq.refl _) (NS.call (gWithin_ok s.tot 1 65536) rfl ?_)
  refine Sat.go (Eq.refl _) (NS.ite (fun h => ?_) (fun h => ?_))
  · have h' := inR_iff.1 h
    have e : IntKind.i64.wrap (s.tot - 1) = s.tot - 1 := wrap_i64 (by omega) (by omega)
    have c := gWithin_ok s.off 0 (s.tot - 1)
    rw [← e] at c
    refine Sat.go (Eq.refl _) (NS.call (c) rfl ?_)
    rw [e]
    refine Sat.go (Eq.refl _) (NS.ite (fun h2 => ?_) (fun h2 => ?_))
    · exact Sat.go (Eq.refl _) (NS.ret rfl rfl (LeA.of (congrArg A.bool (by unfold num1; rw [h, h2]; rfl))))
    · exact Sat.go (Eq.refl _) (NS.ret rfl rfl (LeA.of (congrArg A.bool (by unfold num1; rw [h, h2]; rfl))))
  · exact Sat.go (Eq.refl _) (NS.ret rfl rfl (LeA.of (congrArg A.bool (by unfold num1; rw [h]; rfl))))
theorem min16 (a : Int) : (if a < 16 then a else 16) = min 16 a := by split <;> omega
theorem o1_ok (s : Seg) (h1 : inR s.tot 1 65536 = true) (h2 : inR s.off 0 (s.tot - 1) = true) : FnOK Try.prog 75 [.agg s.cells] (.bool (oth1 s), none) := by
  have h1 := inR_iff.1 h1
  have h2 := inR_iff.1 h2
  have e : IntKind.i64.wrap (s.tot - s.off) = s.tot - s.off := wrap_i64 (by omega) (by omega)
  refine fn_ok CN rfl (by kernel_rfl) Try.func75 rfl ?_
  have c := gWithin_ok s.data.size 1 (min 16 (s.tot - s.off))
  rw [← min16, ← e] at c
  refine Sat.go (Eq.refl _) (NS.call (c) rfl ?_)
  rw [e, min16]
  refine Sat.go (Eq.refl _) (NS.ite (fun h => ?_) (fun h => ?_))
  · exact Sat.go (Eq.refl _) (NS.ret rfl rfl (LeA.of (congrArg A.bool (by unfold oth1; rw [h, ← natbeq]; rfl))))
  · exact Sat.go (Eq.refl _) (NS.ret rfl rfl (LeA.of (congrArg A.bool (by unfold oth1; rw [h]; rfl))))
theorem n2_ok (s : Seg) : FnOK Try.prog 76 [.agg s.cells] (.bool (num2 s), none) := by
  refine fn_ok CN rfl (by kernel_rfl) Try.func76 rfl ?_
  refine Sat.go (Eq.refl _) (NS.ite (fun h => ?_) (fun h => ?_))
  · have h : decide (s.ser ≥ 1) = true := h
    refine Sat.go (Eq.refl _) (NS.call (gWithin_ok s.tot 1 65536) rfl ?_)
    refine Sat.go (Eq.refl _) (NS.ite (fun h2 => ?_) (fun h2 => ?_))
    · exact Sat.go (Eq.refl _) (NS.ret rfl rfl (LeA.of (congrArg A.bool (by unfold num2; rw [h, h2]; rfl))))
    · exact Sat.go (Eq.refl _) (NS.ret rfl rfl (LeA.of (congrArg A.bool (by unfold num2; rw [h, h2]; rfl))))
  · have h : decide (s.ser ≥ 1) = false := h
    exact Sat.go (Eq.refl _) (NS.ret rfl rfl (LeA.of (congrArg A.bool (by unfold num2; rw [h]; rfl))))
theorem o2_ok (s : Seg) : FnOK Try.prog 77 [.agg s.cells] (.bool (oth2 s), none) := by
  refine fn_ok CN rfl (by kernel_rfl) Try.func77 rfl ?_
  refine Sat.go (Eq.refl _) (NS.ite (fun h => ?_) (fun h => ?_))
  · have h : (!s.chk) = true := h
    refine Sat.go (Eq.refl _) (NS.ite (fun h2 => ?_) (fun h2 => ?_))
    · have h2 : (s.data.size == 0) = true := by rw [← size0]; exact h2
      refine Sat.go (Eq.refl _) (NS.ite (fun h3 => ?_) (fun h3 => ?_))
      · refine Sat.go (Eq.refl _) (NS.call (inside_ok s.claims s.tot) rfl ?_)
        exact Sat.go (Eq.refl _) (NS.ret rfl rfl (LeA.of (congrArg A.bool (by unfold oth2 noData; rw [h, h2]; rfl))))
      · have h3 : ¬ (s.claims.length : Int) ≤ 1000 := of_decide_eq_false h3
        refine Sat.go (Eq.refl _) (NS.ret rfl rfl (LeA.of (congrArg A.bool (?_))))
        unfold oth2 insideM
        rw [show (chkS s.claims == 0) = false by rw [chkS_big (by simp; omega)]; rfl]
        simp
    · have h2 : (s.data.size == 0) = false := by rw [← size0]; exact h2
      exact Sat.go (Eq.refl _) (NS.ret rfl rfl (LeA.of (congrArg A.bool (by unfold oth2 noData; rw [h2]; simp))))
  · have h : (!s.chk) = false := h
    exact Sat.go (Eq.refl _) (NS.ret rfl rfl (LeA.of (congrArg A.bool (by unfold oth2 noData; rw [h]; rfl))))
theorem n3_ok (s : Seg) : FnOK Try.prog 78 [.agg s.cells] (.bool (num3 s), none) := by
  refine fn_ok CN rfl (by kernel_rfl) Try.func78 rfl ?_
  refine Sat.go (Eq.refl _) (NS.ite (fun h => ?_) (fun h => ?_))
  · have h : (s.ser == 0) = true := h
    refine Sat.go (Eq.refl _) (NS.ite (fun h2 => ?_) (fun h2 => ?_))
    · have h2 : (s.tot == 0) = true := h2
      exact Sat.go (Eq.refl _) (NS.ret rfl rfl (LeA.of (congrArg A.bool (by unfold num3; rw [h, h2]; rfl))))
    · have h2 : (s.tot == 0) = false := h2
      exact Sat.go (Eq.refl _) (NS.ret rfl rfl (LeA.of (congrArg A.bool (by unfold num3; rw [h, h2]; rfl))))
  · have h : (s.ser == 0) = false := h
    exact Sat.go (Eq.refl _) (NS.ret rfl rfl (LeA.of (congrArg A.bool (by unfold num3; rw [h]; rfl))))
theorem o3_ok (s : Seg) : FnOK Try.prog 79 [.agg s.cells] (.bool (oth3 s), none) := by
  refine fn_ok CN rfl (by kernel_rfl) Try.func79 rfl ?_
  refine Sat.go (Eq.refl _) (NS.ite (fun h => ?_) (fun h => ?_))
  · have h : (!s.chk) = true := h
    refine Sat.go (Eq.refl _) (NS.ite (fun h2 => ?_) (fun h2 => ?_))
    · have h2 : (s.data.size == 0) = true := by rw [← size0]; exact h2
      exact Sat.go (Eq.refl _) (NS.ret rfl rfl (LeA.of (congrArg A.bool (by unfold oth3 noData; rw [h, h2, ← natbeq]; rfl))))
    · have h2 : (s.data.size == 0) = false := by rw [← size0]; exact h2
      exact Sat.go (Eq.refl _) (NS.ret rfl rfl (LeA.of (congrArg A.bool (by unfold oth3 noData; rw [h2]; simp))))
  · have h : (!s.chk) = false := h
    exact Sat.go (Eq.refl _) (NS.ret rfl rfl (LeA.of (congrArg A.bool (by unfold oth3 noData; rw [h]; rfl))))
def rulesA : A := .agg [.opq, .opq, .fn 74 [], .fn 75 [], .fn 76 [], .fn 77 [], .fn 78 [], .fn 79 []]
theorem rules_ok : FnOK Try.prog 48 [] (rulesA, none) := by
  refine fn_ok CN rfl (by kernel_rfl) Try.func48 rfl ?_
  exact Sat.go (Eq.refl _) (NS.ret rfl rfl (LeA.refl _))
theorem num1_in {s : Seg} (h : num1 s = true) : inR s.tot 1 65536 = true ∧ inR s.off 0 (s.tot - 1) = true := by
  unfold num1 at h
  rw [Bool.and_eq_true, Bool.and_eq_true] at h
  exact ⟨h.1, h.2.1⟩
theorem gCheck_ok (s : Seg) : FnOK Try.prog 18 [.agg s.cells] (.int .i64 (chkG s), none) := by
  refine fn_ok CN rfl (by kernel_rfl) Try.func18 rfl ?_
  refine Sat.go (Eq.refl _) (NS.call (gWithin_ok s.kind 1 3) rfl ?_)
  refine Sat.go (Eq.refl _) (NS.ite (fun hk => ?_) (fun hk => ?_))
  · exact Sat.go (Eq.refl _) (NS.ret rfl rfl (LeA.of (congrArg (A.int .i64) (by unfold chkG; rw [not_t hk]; rfl))))
  have hk := not_f hk
  have hk' := inR_iff.1 hk
  refine Sat.go (Eq.refl _) (NS.call (rules_ok) rfl ?_)
  refine Sat.go (Eq.refl _) (NS.no (by show (s.kind == 0) = false; simp; omega) ?_)
  refine Sat.go (Eq.refl _) (NS.ite (fun k1 => ?_) (fun k1 => ?_))
  · have k1 : s.kind = 1 := eq_of_beq k1
    have hn : numK s = num1 s := by unfold numK; rw [if_pos k1]
    have ho : othG s = oth1 s := by unfold othG; rw [if_pos k1]
    refine Sat.go (Eq.refl _) (NS.call (gWithin_ok s.ses 0 1099511627776) rfl ?_)
    refine Sat.go (Eq.refl _) (NS.ite (fun a1 => ?_) (fun a1 => ?_))
    · exact Sat.go (Eq.refl _) (NS.ret rfl rfl (LeA.of (congrArg (A.int .i64) (by unfold chkG numG; rw [if_pos hk, show inR s.ses 0 tMax = false from not_t a1]; rfl))))
    have a1 : inR s.ses 0 tMax = true := not_f a1
    refine Sat.go (Eq.refl _) (NS.call (gWithin_ok s.ser 0 1099511627776) rfl ?_)
    refine Sat.go (Eq.refl _) (NS.ite (fun a2 => ?_) (fun a2 => ?_))
    · exact Sat.go (Eq.refl _) (NS.ret rfl rfl (LeA.of (congrArg (A.int .i64) (by unfold chkG numG; rw [if_pos hk, a1, show inR s.ser 0 tMax = false from not_t a2]; rfl))))
    have a2 : inR s.ser 0 tMax = true := not_f a2
    refine Sat.go (Eq.refl _) (NS.call (n1_ok s) rfl ?_)
    refine Sat.go (Eq.refl _) (NS.ite (fun a3 => ?_) (fun a3 => ?_))
    · exact Sat.go (Eq.refl _) (NS.ret rfl rfl (LeA.of (congrArg (A.int .i64) (by unfold chkG numG; rw [if_pos hk, a1, a2, hn, not_t a3]; rfl))))
    have a3 := not_f a3
    refine Sat.go (Eq.refl _) (NS.call (o1_ok s (num1_in a3).1 (num1_in a3).2) rfl ?_)
    refine Sat.go (Eq.refl _) (NS.ite (fun a4 => ?_) (fun a4 => ?_))
    · exact Sat.go (Eq.refl _) (NS.ret rfl rfl (LeA.of (congrArg (A.int .i64) (by unfold chkG numG; rw [if_pos hk, a1, a2, hn, a3, ho, not_t a4]; rfl))))
    · exact Sat.go (Eq.refl _) (NS.ret rfl rfl (LeA.of (congrArg (A.int .i64) (by unfold chkG numG; rw [if_pos hk, a1, a2, hn, a3, ho, not_f a4]; rfl))))
  have k1 : s.kind ≠ 1 := ne_of_beq_false k1
  refine Sat.go (Eq.refl _) (NS.ite (fun k2 => ?_) (fun k2 => ?_))
  · have k2 : s.kind = 2 := eq_of_beq k2
    have hn : numK s = num2 s := by unfold numK; rw [if_neg k1, if_pos k2]
    have ho : othG s = oth2 s := by unfold othG; rw [if_neg k1, if_pos k2]
    refine Sat.go (Eq.refl _) (NS.call (gWithin_ok s.ses 0 1099511627776) rfl ?_)
    refine Sat.go (Eq.refl _) (NS.ite (fun a1 => ?_) (fun a1 => ?_))
    · exact Sat.go (Eq.refl _) (NS.ret rfl rfl (LeA.of (congrArg (A.int .i64) (by unfold chkG numG; rw [if_pos hk, show inR s.ses 0 tMax = false from not_t a1]; rfl))))
    have a1 : inR s.ses 0 tMax = true := not_f a1
    refine Sat.go (Eq.refl _) (NS.call (gWithin_ok s.ser 0 1099511627776) rfl ?_)
    refine Sat.go (Eq.refl _) (NS.ite (fun a2 => ?_) (fun a2 => ?_))
    · exact Sat.go (Eq.refl _) (NS.ret rfl rfl (LeA.of (congrArg (A.int .i64) (by unfold chkG numG; rw [if_pos hk, a1, show inR s.ser 0 tMax = false from not_t a2]; rfl))))
    have a2 : inR s.ser 0 tMax = true := not_f a2
    refine Sat.go (Eq.refl _) (NS.call (n2_ok s) rfl ?_)
    refine Sat.go (Eq.refl _) (NS.ite (fun a3 => ?_) (fun a3 => ?_))
    · exact Sat.go (Eq.refl _) (NS.ret rfl rfl (LeA.of (congrArg (A.int .i64) (by unfold chkG numG; rw [if_pos hk, a1, a2, hn, not_t a3]; rfl))))
    have a3 := not_f a3
    refine Sat.go (Eq.refl _) (NS.call (o2_ok s) rfl ?_)
    refine Sat.go (Eq.refl _) (NS.ite (fun a4 => ?_) (fun a4 => ?_))
    · exact Sat.go (Eq.refl _) (NS.ret rfl rfl (LeA.of (congrArg (A.int .i64) (by unfold chkG numG; rw [if_pos hk, a1, a2, hn, a3, ho, not_t a4]; rfl))))
    · exact Sat.go (Eq.refl _) (NS.ret rfl rfl (LeA.of (congrArg (A.int .i64) (by unfold chkG numG; rw [if_pos hk, a1, a2, hn, a3, ho, not_f a4]; rfl))))
  have k2 : s.kind ≠ 2 := ne_of_beq_false k2
  refine Sat.go (Eq.refl _) (NS.yes (by show (s.kind == 3) = true; simp; omega) ?_)
  have hn : numK s = num3 s := by unfold numK; rw [if_neg k1, if_neg k2]
  have ho : othG s = oth3 s := by unfold othG; rw [if_neg k1, if_neg k2]
  refine Sat.go (Eq.refl _) (NS.call (gWithin_ok s.ses 0 1099511627776) rfl ?_)
  refine Sat.go (Eq.refl _) (NS.ite (fun a1 => ?_) (fun a1 => ?_))
  · exact Sat.go (Eq.refl _) (NS.ret rfl rfl (LeA.of (congrArg (A.int .i64) (by unfold chkG numG; rw [if_pos hk, show inR s.ses 0 tMax = false from not_t a1]; rfl))))
  have a1 : inR s.ses 0 tMax = true := not_f a1
  refine Sat.go (Eq.refl _) (NS.call (gWithin_ok s.ser 0 1099511627776) rfl ?_)
  refine Sat.go (Eq.refl _) (NS.ite (fun a2 => ?_) (fun a2 => ?_))
  · exact Sat.go (Eq.refl _) (NS.ret rfl rfl (LeA.of (congrArg (A.int .i64) (by unfold chkG numG; rw [if_pos hk, a1, show inR s.ser 0 tMax = false from not_t a2]; rfl))))
  have a2 : inR s.ser 0 tMax = true := not_f a2
  refine Sat.go (Eq.refl _) (NS.call (n3_ok s) rfl ?_)
  refine Sat.go (Eq.refl _) (NS.ite (fun a3 => ?_) (fun a3 => ?_))
  · exact Sat.go (Eq.refl _) (NS.ret rfl rfl (LeA.of (congrArg (A.int .i64) (by unfold chkG numG; rw [if_pos hk, a1, a2, hn, not_t a3]; rfl))))
  have a3 := not_f a3
  refine Sat.go (Eq.refl _) (NS.call (o3_ok s) rfl ?_)
  refine Sat.go (Eq.refl _) (NS.ite (fun a4 => ?_) (fun a4 => ?_))
  · exact Sat.go (Eq.refl _) (NS.ret rfl rfl (LeA.of (congrArg (A.int .i64) (by unfold chkG numG; rw [if_pos hk, a1, a2, hn, a3, ho, not_t a4]; rfl))))
  · exact Sat.go (Eq.refl _) (NS.ret rfl rfl (LeA.of (congrArg (A.int .i64) (by unfold chkG numG; rw [if_pos hk, a1, a2, hn, a3, ho, not_f a4]; rfl))))
end Go.Proofs.Ytbpdbibnfmdpoaa
