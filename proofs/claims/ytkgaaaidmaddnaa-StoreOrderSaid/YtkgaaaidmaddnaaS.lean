/- Reading whole arguments of the statements. -/
import Derived.Test.YtkgaaaidmaddnaaR
import Derived.Test.YtkgaaaidmaddnaaL
set_option linter.unusedSimpArgs false
set_option linter.unusedSectionVars false
set_option linter.unusedVariables false
namespace Go.Proofs.Ytkgaaaidmaddnaa
open Go.Sy Go.Mb
set_option linter.unusedVariables false
set_option maxRecDepth 100000

section
variable {H : Type} {enc : TypeId × Value → H} {W : World} {base : Nat} {spare : Nat → Bool} {held : Bool} {v : Value} {dd : DataW H} {ps : List MemPlace} {r : Reach} {b0 : Nat}

theorem inpShape : shOf Try.prog 6 42 = some (.sl 11 itmSh :: .sl 11 itmSh :: .int .i64 :: .int .i64 :: .int .i64 :: itmSh) := by kernel_rfl
theorem argInp (hok : Value.okWide Try.prog W r b0 42 v) (h : DataW.Trod enc Try.prog W base spare held 42 v dd ps) : ∃ x : Inp, R W (fun _ => False) (.agg x.cells) virg v := by
  obtain ⟨cs, hl, hr, hs⟩ := lift_arg (X := fun _ => False) (fun _ h => h) inpShape hok h
  have harg : argA Try.prog 42 cs = .agg cs := by unfold argA; rw [show isAggT Try.prog 42 = some true by kernel_rfl]
  rw [harg] at hr
  obtain ⟨h0, h1, h2, h3, h4, hx⟩ := hs
  obtain ⟨n, el, e0, _, hel⟩ := h0
  obtain ⟨m, el', e1, _, hel'⟩ := h1
  obtain ⟨l, _, hle⟩ := itms_of hel
  obtain ⟨l', _, hle'⟩ := itms_of hel'
  have hxc := itm_cells (f := fun j => getA cs (5 + j)) (ShAs_shift (fun i _ => by simp) hx)
  let i : Inp := ⟨⟨l, l'⟩, intA (getA cs 2), intA (getA cs 3), intA (getA cs 4), itmOf fun j => getA cs (5 + j)⟩
  have hle : LeL cs i.cells := by
    refine LeL_get (by rw [hl]; rfl) fun j hj => ?_
    rw [hl] at hj
    match j, hj with
    | 0, _ => rw [e0]; exact hle
    | 1, _ => rw [e1]; exact hle'
    | 2, _ => exact LeA.of (int_of h2)
    | 3, _ => exact LeA.of (int_of h3)
    | 4, _ => exact LeA.of (int_of h4)
    | j + 5, hj =>
      have := hxc j (by simp [itmSh] at hj; omega)
      rw [Nat.add_comm 5 j] at this
      exact LeA.of this
  exact ⟨i, LeA.agg hle _ _ _ _ hr⟩
theorem durShape : shOf Try.prog 6 24 = some [.sl 11 itmSh, .sl 11 itmSh] := by kernel_rfl
theorem argDur (hok : Value.okWide Try.prog W r b0 24 v) (h : DataW.Trod enc Try.prog W base spare held 24 v dd ps) : ∃ x : Dur, R W (fun _ => False) (.agg x.cells) virg v := by
  obtain ⟨cs, hl, hr, hs⟩ := lift_arg (X := fun _ => False) (fun _ h => h) durShape hok h
  have harg : argA Try.prog 24 cs = .agg cs := by unfold argA; rw [show isAggT Try.prog 24 = some true by kernel_rfl]
  rw [harg] at hr
  obtain ⟨h0, h1, _⟩ := hs
  obtain ⟨n, el, e0, _, hel⟩ := h0
  obtain ⟨m, el', e1, _, hel'⟩ := h1
  obtain ⟨l, _, hle⟩ := itms_of hel
  obtain ⟨l', _, hle'⟩ := itms_of hel'
  have hle : LeL cs (Dur.mk l l').cells := by
    refine LeL_get (by rw [hl]; rfl) fun j hj => ?_
    rw [hl] at hj
    match j, hj with
    | 0, _ => rw [e0]; exact hle
    | 1, _ => rw [e1]; exact hle'
    | j + 2, hj => simp at hj; omega
  exact ⟨⟨l, l'⟩, LeA.agg hle _ _ _ _ hr⟩
theorem argItm (hok : Value.okWide Try.prog W r b0 36 v) (h : DataW.Trod enc Try.prog W base spare held 36 v dd ps) : ∃ x : Itm, R W (fun _ => False) (.agg x.cells) virg v := by
  obtain ⟨cs, hl, hr, hs⟩ := lift_arg (X := fun _ => False) (fun _ h => h) (show shOf Try.prog 6 36 = some itmSh by kernel_rfl) hok h
  have harg : argA Try.prog 36 cs = .agg cs := by unfold argA; rw [show isAggT Try.prog 36 = some true by kernel_rfl]
  rw [harg] at hr
  have hc := itm_cells hs
  exact ⟨_, LeA.agg (LeL_get (by rw [hl]; rfl) fun j hj => LeA.of (hc j (by rw [hl] at hj; exact hj))) _ _ _ _ hr⟩
theorem argNid (hok : Value.okWide Try.prog W r b0 34 v) (h : DataW.Trod enc Try.prog W base spare held 34 v dd ps) : ∃ x : Nid, R W (fun _ => False) (.agg x.cells) virg v := by
  obtain ⟨cs, hl, hr, hs⟩ := lift_arg (X := fun _ => False) (fun _ h => h) (show shOf Try.prog 6 34 = some nidSh by kernel_rfl) hok h
  have harg : argA Try.prog 34 cs = .agg cs := by unfold argA; rw [show isAggT Try.prog 34 = some true by kernel_rfl]
  rw [harg] at hr
  have hc := nid_cells hs
  exact ⟨_, LeA.agg (LeL_get (by rw [hl]; rfl) fun j hj => LeA.of (hc j (by rw [hl] at hj; exact hj))) _ _ _ _ hr⟩
theorem argInt (hok : Value.okWide Try.prog W r b0 3 v) (h : DataW.Trod enc Try.prog W base spare held 3 v dd ps) : ∃ x : Int, R W (fun _ => False) (.int .i64 x) virg v := by
  obtain ⟨cs, hl, hr, hs⟩ := lift_arg (X := fun _ => False) (fun _ h => h) (show shOf Try.prog 6 3 = some [.int .i64] by kernel_rfl) hok h
  have harg : argA Try.prog 3 cs = getA cs 0 := by unfold argA; rw [show isAggT Try.prog 3 = some false by kernel_rfl]
  rw [harg] at hr
  obtain ⟨h0, _⟩ := hs
  rw [int_of h0] at hr
  exact ⟨_, hr⟩
theorem argU8 (hok : Value.okWide Try.prog W r b0 5 v) (h : DataW.Trod enc Try.prog W base spare held 5 v dd ps) : ∃ x : Nat, x < 256 ∧ R W (fun _ => False) (.int .u8 x) virg v := by
  obtain ⟨cs, hl, hr, hs⟩ := lift_arg (X := fun _ => False) (fun _ h => h) (show shOf Try.prog 6 5 = some [.int .u8] by kernel_rfl) hok h
  have harg : argA Try.prog 5 cs = getA cs 0 := by unfold argA; rw [show isAggT Try.prog 5 = some false by kernel_rfl]
  rw [harg] at hr
  obtain ⟨⟨n, e, hw⟩, _⟩ := hs
  rw [e] at hr
  have h0 : 0 ≤ n ∧ n < 256 := by
    have hmin : IntKind.u8.min = 0 := by decide
    have hmax : IntKind.u8.max = 255 := by decide
    simp [Lit.wf, hmin, hmax] at hw
    omega
  refine ⟨n.toNat, by omega, ?_⟩
  rw [Int.toNat_of_nonneg h0.1]; exact hr
theorem argRecs (hok : Value.okWide Try.prog W r b0 25 v) (h : DataW.Trod enc Try.prog W base spare held 25 v dd ps) : ∃ x : List Jrec, R W (fun _ => False) (slR x) virg v := by
  obtain ⟨cs, hl, hr, hs⟩ := lift_arg (X := fun _ => False) (fun _ h => h) (show shOf Try.prog 6 25 = some [.sl 19 recSh] by kernel_rfl) hok h
  have harg : argA Try.prog 25 cs = getA cs 0 := by unfold argA; rw [show isAggT Try.prog 25 = some false by kernel_rfl]
  rw [harg] at hr
  obtain ⟨⟨n, el, e0, _, hel⟩, _⟩ := hs
  obtain ⟨l, _, hle⟩ := recs_of hel
  rw [e0] at hr
  exact ⟨l, hle _ _ _ _ hr⟩
end
end Go.Proofs.Ytkgaaaidmaddnaa
