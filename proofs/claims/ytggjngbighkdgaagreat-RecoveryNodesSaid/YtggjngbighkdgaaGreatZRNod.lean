/-
  RecoveryNodes returns true for every input and leaves its arguments as they were. Conditions: none.
-/
import Derived.Test.YtggjngbighkdgaaGreatF11
import Derived.Test.YtggjngbighkdgaaGreatRows
import Derived.WalkKit
import Derived.ProofKit
set_option linter.unusedSimpArgs false
set_option linter.unusedSectionVars false
set_option linter.unusedVariables false
namespace Go.Proofs.YtggjngbighkdgaaGreat.recoveryNodes
open Go.ChangeShapes Go.WideShapes Go.ChangeAt Go.RowKit Go.Sy Go.Mb
set_option maxRecDepth 100000

theorem own : ownKnob Tryz.prog.godebug = none := by kernel_rfl
theorem laid : laidOutB Tryz.prog = true := by kernel_rfl

theorem lifted (os : Os) (started : os.Started) (H : Type) (enc : TypeId × Value → H) :
    ReturnsInHanded {} Tryz.checked os 13 .any (Rows.recoveryNodesSpec.pre6 enc Tryz.prog Tryz.f13 Rows.recoveryNodesRow.domain false) (Rows.recoveryNodesSpec.post enc Tryz.prog Tryz.f13 false true false false) := by
  refine returnsInHanded_of_change (C := Tryz.checked) own started (by kernel_rfl) Tryz.func13
    (ChangeSpec.witness6 (enc := enc) (C := Tryz.checked) false ⟨#[], #[.agg #[.int .i64 0, .int .i64 0, .bool false, .string ⟨#[]⟩, .int .i64 0, .slice none 0 0, .slice none 0 0, .slice none 0 0], .int .i64 0, .int .i64 0], []⟩ 8 (by kernel_rfl) (by kernel_rfl) (by kernel_rfl) (by kernel_rfl)) ?_
  intro W base args ds gs before hval0 hW hcnd _
  have hval : ∀ (j : Nat) t v, Tryz.f13.params[j]? = some t → args[j]? = some v → Value.okWide Tryz.prog W .any base t v := hval0
  have hW' := hW
  obtain ⟨p, q, hA0, hV, rfl, hfz, hnd⟩ := hW
  have hA : DataW.TrodAll enc Tryz.prog W 0 (fun _ => true) true Tryz.f13.params.toList args.toList ds p := hA0
  rw [Tryz.params13] at hA hval
  have hAk := hA
  obtain ⟨v0, vs0, dd0, ds0, p0, q0, hargs, rfl, rfl, h0, r0⟩ := trodAll_cons hA
  obtain ⟨v1, vs1, dd1, ds1, p1, q1, rfl, rfl, rfl, h1, r1⟩ := trodAll_cons r0
  obtain ⟨v2, vs2, dd2, ds2, p2, q2, rfl, rfl, rfl, h2, r2⟩ := trodAll_cons r1
  obtain ⟨rfl, rfl, rfl⟩ := trodAll_nil r2
  obtain rfl : args = #[v0, v1, v2] := by cases args; simp_all
  obtain ⟨rfl, rfl⟩ := trodVars_none hV
  obtain ⟨x0, hr0⟩ := argNod (hval 0 _ v0 rfl rfl) h0
  obtain ⟨x1, hr1⟩ := argInt (hval 1 _ v1 rfl rfl) h1
  obtain ⟨x2, hr2⟩ := argInt (hval 2 _ v2 rfl rfl) h2
  simp only [List.append_nil] at hW' hAk
  have hlt : ∀ x ∈ p0 ++ (p1 ++ p2), x.block < W.heap.size := fun x hx => hW'.lt x (by simpa using hx)
  refine ((recNodes_ok x0 x1 x2).run W (fun _ => False) [v0, v1, v2] (fun _ h => h.elim) ⟨v0, [v1, v2], rfl, hr0, ⟨v1, [v2], rfl, hr1, ⟨v2, [], rfl, hr2, rfl⟩⟩⟩).mono ?_
  rintro e W' ⟨v', loc, rfl, hb, hv, _⟩
  simp only [R] at hv
  subst hv
  exact ⟨_, rfl, post_below (pa := p0 ++ (p1 ++ p2)) (pv := []) hW' (fun _ _ _ => (trodAll_cons_mk (shut_bool Tryz.underlying4 _) trodAll_mk0))
    (fun sp hsp => trodAll_stays laid hb (fun t ht => by
      rcases List.mem_cons.1 ht with rfl | ht; · exact ⟨by kernel_rfl, of_decide_eq_true (by kernel_rfl)⟩
      rcases List.mem_cons.1 ht with rfl | ht; · exact ⟨by kernel_rfl, of_decide_eq_true (by kernel_rfl)⟩
      obtain rfl := List.mem_singleton.1 ht; exact ⟨by kernel_rfl, of_decide_eq_true (by kernel_rfl)⟩) hAk hlt hsp) (fun _ _ => rfl) (by simp) hb (ok_one (by kernel_rfl) rfl (okWide_bool_mk Tryz.underlying4 _))⟩

theorem fact1 : (Rows.recoveryNodesRow.inPlace == Tryz.pinned.checked.prog.inPlace 13) = true := by kernel_rfl
theorem fact2 : (Rows.recoveryNodesRow.unfollowed == Tryz.pinned.checked.prog.unfollowed 13) = true := by kernel_rfl
theorem fact3 : (Rows.recoveryNodesRow.recurses == Tryz.pinned.checked.prog.recurses 13) = true := by kernel_rfl
theorem fact4 : (Rows.recoveryNodesRow.named == Tryz.pinned.checked.prog.varsNamed 13) = true := by kernel_rfl
theorem facts : joinedFacts Tryz.pinned.checked.prog 13 Tryz.f13 Rows.recoveryNodesSpec Rows.recoveryNodesRow = true := by
  unfold joinedFacts
  rw [fact1, fact2, fact3, fact4]
  kernel_rfl
theorem proved : Rows.RecoveryNodesSaid :=
  OpenClaim.holds_of_wide 13 Tryz.f13 rfl rfl rfl rfl rfl rfl rfl ⟨rfl, rfl, rfl, rfl, rfl⟩ rfl rfl rfl rfl rfl (by kernel_rfl) Tryz.func13 facts
    (of_decide_eq_true (by kernel_rfl)) (by unfold Func.isWrapper; first | (rw [if_pos (by decide +kernel)]; kernel_rfl) | (rw [if_neg (by decide +kernel)]; exact ⟨rfl, rfl⟩))
    (fun os started H enc _ => lifted os started H enc)
#print axioms proved
end Go.Proofs.YtggjngbighkdgaaGreat.recoveryNodes
