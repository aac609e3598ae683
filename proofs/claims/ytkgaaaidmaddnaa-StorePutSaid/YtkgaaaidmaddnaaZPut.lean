/-
  StorePut returns true for every input and leaves its arguments as they were. Conditions: none.
-/
import Derived.Test.YtkgaaaidmaddnaaRows
import Derived.Test.YtkgaaaidmaddnaaL
import Derived.Test.YtkgaaaidmaddnaaR
import Derived.WalkKit
import Derived.ProofKit
set_option linter.unusedSimpArgs false
set_option linter.unusedSectionVars false
set_option linter.unusedVariables false
namespace Go.Proofs.Ytkgaaaidmaddnaa.storePut
open Go.ChangeShapes Go.WideShapes Go.ChangeAt Go.RowKit Go.Sy Go.Mb
set_option linter.unusedVariables false
set_option maxRecDepth 100000

theorem own : ownKnob Try.prog.godebug = none := by kernel_rfl
theorem laid : laidOutB Try.prog = true := by kernel_rfl
theorem shape : shOf Try.prog 6 42 = some (.sl 11 itmSh :: .sl 11 itmSh :: .int .i64 :: .int .i64 :: .int .i64 :: itmSh) := by kernel_rfl
theorem isAgg : isAggT Try.prog 42 = some true := by kernel_rfl

theorem walk {W : World} {v : Value} {cs : List A} (hl : cs.length = 16) (hr : R W (fun _ => False) (.agg cs) virg v) (hs : ShAs (.sl 11 itmSh :: .sl 11 itmSh :: .int .i64 :: .int .i64 :: .int .i64 :: itmSh) (getA cs) 0) :
    Calls Try.prog 7 #[v] W fun e W' => e = .returned (.bool true) ∧ Below W.heap.size W W' := by
  obtain ⟨h0, h1, h2, h3, h4, hx⟩ := hs
  obtain ⟨n, el, e0, _, hel⟩ := h0
  obtain ⟨m, el', e1, _, hel'⟩ := h1
  obtain ⟨l, _, hle⟩ := itms_of hel
  obtain ⟨l', _, hle'⟩ := itms_of hel'
  have hxc := itm_cells (f := fun j => getA cs (5 + j)) (ShAs_shift (fun i _ => by simp) hx)
  let i : Inp := ⟨⟨l, l'⟩, intA (getA cs 2), intA (getA cs 3), intA (getA cs 4), itmOf fun j => getA cs (5 + j)⟩
  have hle : LeL cs i.cells := by
    refine LeL_get (by rw [hl]; rfl) fun j hj => ?_
    rw [hl] at hj
    match j, hj with
    | 0, _ => rw [e0]; exact hle
    | 1, _ => rw [e1]; exact hle'
    | 2, _ => exact LeA.of (int_of h2)
    | 3, _ => exact LeA.of (int_of h3)
    | 4, _ => exact LeA.of (int_of h4)
    | j + 5, hj =>
      have := hxc j (by omega)
      rw [Nat.add_comm 5 j] at this
      exact LeA.of this
  have hc := (storePut_ok i).run W (fun _ => False) [v] (fun _ h => h.elim) ⟨v, [], rfl, LeA.agg hle _ _ _ _ hr, rfl⟩
  refine hc.mono ?_
  rintro e W' ⟨v', loc, rfl, hb, hv, _⟩
  simp only [R] at hv
  exact ⟨by rw [hv], hb⟩

theorem lifted (os : Os) (started : os.Started) (H : Type) (enc : TypeId × Value → H) :
    ReturnsInHanded {} Try.checked os 7 .any (Rows.storePutSpec.pre6 enc Try.prog Try.f7 Rows.storePutRow.domain false) (Rows.storePutSpec.post enc Try.prog Try.f7 false true false false) := by
  refine returnsInHanded_of_change (C := Try.checked) own started (by kernel_rfl) Try.func7
    (ChangeSpec.witness6 (enc := enc) (C := Try.checked) false ⟨#[], #[.agg #[.slice none 0 0, .slice none 0 0, .int .i64 0, .int .i64 0, .int .i64 0, .int .i64 0, .int .i64 0, .int .i64 0, .int .i64 0, .int .i64 0, .int .i64 0, .int .i64 0, .int .i64 0, .int .i64 0, .bool false, .string ⟨#[]⟩]], []⟩ 8 (by kernel_rfl) (by kernel_rfl) (by kernel_rfl) (by kernel_rfl)) ?_
  intro W base args ds gs before hval0 hW hcnd _
  have hval : ∀ (j : Nat) t v, Try.f7.params[j]? = some t → args[j]? = some v → Value.okWide Try.prog W .any base t v := hval0
  have hW' := hW
  obtain ⟨p, q, hA0, hV, rfl, hfz, hnd⟩ := hW
  have hA : DataW.TrodAll enc Try.prog W 0 (fun _ => true) true Try.f7.params.toList args.toList ds p := hA0
  rw [Try.params7] at hA hval
  have hAk := hA
  obtain ⟨v0, vs0, dd0, ds0, p0, q0, hargs, rfl, rfl, h0, r0⟩ := trodAll_cons hA
  obtain ⟨rfl, rfl, rfl⟩ := trodAll_nil r0
  obtain rfl : args = #[v0] := by cases args; simp_all
  obtain ⟨rfl, rfl⟩ := trodVars_none hV
  obtain ⟨cs, hl, hr, hs⟩ := lift_arg (X := fun _ => False) (fun _ h => h) shape (hval 0 _ v0 rfl rfl) h0
  have harg : argA Try.prog 42 cs = .agg cs := by unfold argA; rw [isAgg]
  rw [harg] at hr
  simp only [List.append_nil] at hW' hAk
  have hlt : ∀ x ∈ p0, x.block < W.heap.size := fun x hx => hW'.lt x (by simpa using hx)
  refine (walk hl hr hs).mono fun e W' ⟨he, hb⟩ => ?_
  subst he
  exact ⟨_, rfl, post_below (pa := p0) (pv := []) hW' (fun _ _ _ => (trodAll_cons_mk (shut_bool Try.underlying4 _) trodAll_mk0))
    (fun sp hsp => trodAll_stays laid hb (fun t ht => by obtain rfl := List.mem_singleton.1 ht; exact ⟨by kernel_rfl, of_decide_eq_true (by kernel_rfl)⟩) hAk hlt hsp) (fun _ _ => rfl) (by simp) hb (ok_one (by kernel_rfl) rfl (okWide_bool_mk Try.underlying4 _))⟩

theorem proved : Rows.StorePutSaid :=
  OpenClaim.holds_of_wide 7 Try.f7 rfl rfl rfl rfl rfl rfl rfl ⟨rfl, rfl, rfl, rfl, rfl⟩ rfl rfl rfl rfl rfl (by kernel_rfl) Try.func7 (by kernel_rfl)
    (of_decide_eq_true (by kernel_rfl)) (by unfold Func.isWrapper; first | (rw [if_pos (by decide +kernel)]; kernel_rfl) | (rw [if_neg (by decide +kernel)]; exact ⟨rfl, rfl⟩))
    (fun os started H enc _ => lifted os started H enc)
#print axioms proved
end Go.Proofs.Ytkgaaaidmaddnaa.storePut
