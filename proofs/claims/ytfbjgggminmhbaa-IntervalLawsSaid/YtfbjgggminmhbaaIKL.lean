/- The walk of IntervalLaws. -/
import Derived.Test.YtfbjgggminmhbaaIJ
set_option linter.unusedSimpArgs false
set_option linter.unusedSectionVars false
set_option linter.unusedVariables false
namespace Go.Proofs.Ytfbjgggminmhbaa
open Go.Sy Go.Mb
set_option maxRecDepth 100000
set_option linter.unusedVariables false
set_option maxHeartbeats 4000000

noncomputable def CL : Cx := { E := EN, inl := [27], ok := EN_ok }
theorem same_eq {l m : List Spn} (h : l = m) (hl : l.length ≤ 1000000) : FnOK Try.prog 13 [slS l, slS m] (.bool true, none) := by
  subst h
  have := same_ok l l hl
  rw [(sameBy_iff fun _ _ => Spn.eqv_iff).2 rfl] at this
  exact this
theorem intervalLaws_ok (a b c : List Spn) : FnOK Try.prog 7 [slS a, slS b, slS c] (.bool true, none) := by
  refine fn_ok CL rfl (by kernel_rfl) Try.func7 rfl ?_
  refine Sat.go (Eq.refl _) (NS.call (fine3_ok a b c rfl rfl rfl) rfl ?_)
  refine Sat.go (Eq.refl _) (NS.ite (fun h0 => ?_) (fun h0 => ?_))
  · refine Sat.go (Eq.refl _) (NS.call awake_ok rfl ?_)
    exact Sat.go (Eq.refl _) (NS.ret rfl rfl (LeA.of rfl))
  refine Sat.go (Eq.refl _) (NS.ite (fun h1 => ?_) (fun h1 => ?_))
  · refine Sat.go (Eq.refl _) (NS.call awake_ok rfl ?_)
    exact Sat.go (Eq.refl _) (NS.ret rfl rfl (LeA.of rfl))
  refine Sat.go (Eq.refl _) (NS.ite (fun h2 => ?_) (fun h2 => ?_))
  · refine Sat.go (Eq.refl _) (NS.call awake_ok rfl ?_)
    exact Sat.go (Eq.refl _) (NS.ret rfl rfl (LeA.of rfl))
  refine Sat.go (Eq.refl _) (NS.ite (fun h3 => ?_) (fun h3 => ?_))
  · refine Sat.go (Eq.refl _) (NS.call awake_ok rfl ?_)
    exact Sat.go (Eq.refl _) (NS.ret rfl rfl (LeA.of rfl))
  obtain ⟨ba, bbc⟩ := or_f (not_f h0)
  obtain ⟨bb, bc⟩ : bad1 b = false ∧ bad1 c = false := by simpa using bbc
  obtain ⟨ka, _⟩ := bad1_f ba
  obtain ⟨kb, _⟩ := bad1_f bb
  obtain ⟨kc, _⟩ := bad1_f bc
  have la : a.length ≤ 12 := by simp at h1; omega
  have lb : b.length ≤ 12 := by simp at h2; omega
  have lc : c.length ≤ 12 := by simp at h3; omega
  have hsa : True := trivial
  obtain ⟨cs0, ks0, hs0, ls0⟩ := Union_set ka kb (by omega)
  generalize combL fU a b = s0 at cs0 ks0 hs0 ls0
  obtain ⟨cs1, ks1, hs1, ls1⟩ := Union_set kb ka (by omega)
  generalize combL fU b a = s1 at cs1 ks1 hs1 ls1
  obtain ⟨cs2, ks2, hs2, ls2⟩ := Intersect_set ka kb (by omega)
  generalize combL fI a b = s2 at cs2 ks2 hs2 ls2
  obtain ⟨cs3, ks3, hs3, ls3⟩ := Intersect_set kb ka (by omega)
  generalize combL fI b a = s3 at cs3 ks3 hs3 ls3
  obtain ⟨cs4, ks4, hs4, ls4⟩ := Union_set ks0 kc (by omega)
  generalize combL fU s0 c = s4 at cs4 ks4 hs4 ls4
  obtain ⟨cs5, ks5, hs5, ls5⟩ := Union_set kb kc (by omega)
  generalize combL fU b c = s5 at cs5 ks5 hs5 ls5
  obtain ⟨cs6, ks6, hs6, ls6⟩ := Union_set ka ks5 (by omega)
  generalize combL fU a s5 = s6 at cs6 ks6 hs6 ls6
  obtain ⟨cs7, ks7, hs7, ls7⟩ := Intersect_set ks2 kc (by omega)
  generalize combL fI s2 c = s7 at cs7 ks7 hs7 ls7
  obtain ⟨cs8, ks8, hs8, ls8⟩ := Intersect_set kb kc (by omega)
  generalize combL fI b c = s8 at cs8 ks8 hs8 ls8
  obtain ⟨cs9, ks9, hs9, ls9⟩ := Intersect_set ka ks8 (by omega)
  generalize combL fI a s8 = s9 at cs9 ks9 hs9 ls9
  obtain ⟨cs10, ks10, hs10, ls10⟩ := Intersect_set ka ks5 (by omega)
  generalize combL fI a s5 = s10 at cs10 ks10 hs10 ls10
  obtain ⟨cs11, ks11, hs11, ls11⟩ := Intersect_set ka kc (by omega)
  generalize combL fI a c = s11 at cs11 ks11 hs11 ls11
  obtain ⟨cs12, ks12, hs12, ls12⟩ := Union_set ks2 ks11 (by omega)
  generalize combL fU s2 s11 = s12 at cs12 ks12 hs12 ls12
  obtain ⟨cs13, ks13, hs13, ls13⟩ := Union_set ka ks8 (by omega)
  generalize combL fU a s8 = s13 at cs13 ks13 hs13 ls13
  obtain ⟨cs14, ks14, hs14, ls14⟩ := Union_set ka kc (by omega)
  generalize combL fU a c = s14 at cs14 ks14 hs14 ls14
  obtain ⟨cs15, ks15, hs15, ls15⟩ := Intersect_set ks0 ks14 (by omega)
  generalize combL fI s0 s14 = s15 at cs15 ks15 hs15 ls15
  obtain ⟨cs16, ks16, hs16, ls16⟩ := Minus_set ka kb (by omega)
  generalize combL fM a b = s16 at cs16 ks16 hs16 ls16
  obtain ⟨cs17, ks17, hs17, ls17⟩ := Minus_set ks16 kc (by omega)
  generalize combL fM s16 c = s17 at cs17 ks17 hs17 ls17
  obtain ⟨cs18, ks18, hs18, ls18⟩ := Minus_set ka ks5 (by omega)
  generalize combL fM a s5 = s18 at cs18 ks18 hs18 ls18
  have es0s1 : s0 = s1 := set_inj ((chkS_zero _).1 ks0).2 ((chkS_zero _).1 ks1).2 fun t => by simp only [hs0, hs1, hs2, hs3, hs4, hs5, hs6, hs7, hs8, hs9, hs10, hs11, hs12, hs13, hs14, hs15, hs16, hs17, hs18]; cases hasL a t <;> cases hasL b t <;> cases hasL c t <;> rfl
  have es2s3 : s2 = s3 := set_inj ((chkS_zero _).1 ks2).2 ((chkS_zero _).1 ks3).2 fun t => by simp only [hs0, hs1, hs2, hs3, hs4, hs5, hs6, hs7, hs8, hs9, hs10, hs11, hs12, hs13, hs14, hs15, hs16, hs17, hs18]; cases hasL a t <;> cases hasL b t <;> cases hasL c t <;> rfl
  have es4s6 : s4 = s6 := set_inj ((chkS_zero _).1 ks4).2 ((chkS_zero _).1 ks6).2 fun t => by simp only [hs0, hs1, hs2, hs3, hs4, hs5, hs6, hs7, hs8, hs9, hs10, hs11, hs12, hs13, hs14, hs15, hs16, hs17, hs18]; cases hasL a t <;> cases hasL b t <;> cases hasL c t <;> rfl
  have es7s9 : s7 = s9 := set_inj ((chkS_zero _).1 ks7).2 ((chkS_zero _).1 ks9).2 fun t => by simp only [hs0, hs1, hs2, hs3, hs4, hs5, hs6, hs7, hs8, hs9, hs10, hs11, hs12, hs13, hs14, hs15, hs16, hs17, hs18]; cases hasL a t <;> cases hasL b t <;> cases hasL c t <;> rfl
  have es10s12 : s10 = s12 := set_inj ((chkS_zero _).1 ks10).2 ((chkS_zero _).1 ks12).2 fun t => by simp only [hs0, hs1, hs2, hs3, hs4, hs5, hs6, hs7, hs8, hs9, hs10, hs11, hs12, hs13, hs14, hs15, hs16, hs17, hs18]; cases hasL a t <;> cases hasL b t <;> cases hasL c t <;> rfl
  have es13s15 : s13 = s15 := set_inj ((chkS_zero _).1 ks13).2 ((chkS_zero _).1 ks15).2 fun t => by simp only [hs0, hs1, hs2, hs3, hs4, hs5, hs6, hs7, hs8, hs9, hs10, hs11, hs12, hs13, hs14, hs15, hs16, hs17, hs18]; cases hasL a t <;> cases hasL b t <;> cases hasL c t <;> rfl
  have es17s18 : s17 = s18 := set_inj ((chkS_zero _).1 ks17).2 ((chkS_zero _).1 ks18).2 fun t => by simp only [hs0, hs1, hs2, hs3, hs4, hs5, hs6, hs7, hs8, hs9, hs10, hs11, hs12, hs13, hs14, hs15, hs16, hs17, hs18]; cases hasL a t <;> cases hasL b t <;> cases hasL c t <;> rfl
  refine Sat.go (Eq.refl _) (NS.call cs0 rfl ?_)
  refine Sat.go (Eq.refl _) (NS.call cs1 rfl ?_)
  refine Sat.go (Eq.refl _) (NS.no rfl ?_)
  refine Sat.go (Eq.refl _) (NS.call (same_eq es0s1 (by omega)) rfl ?_)
  refine Sat.go (Eq.refl _) (NS.yes rfl ?_)
  refine Sat.go (Eq.refl _) (NS.call cs2 rfl ?_)
  refine Sat.go (Eq.refl _) (NS.no rfl ?_)
  refine Sat.go (Eq.refl _) (NS.call cs3 rfl ?_)
  refine Sat.go (Eq.refl _) (NS.no rfl ?_)
  refine Sat.go (Eq.refl _) (NS.call (same_eq es2s3 (by omega)) rfl ?_)
  refine Sat.go (Eq.refl _) (NS.yes rfl ?_)
  refine Sat.go (Eq.refl _) (NS.call cs0 rfl ?_)
  refine Sat.go (Eq.refl _) (NS.no rfl ?_)
  refine Sat.go (Eq.refl _) (NS.call cs4 rfl ?_)
  refine Sat.go (Eq.refl _) (NS.no rfl ?_)
  refine Sat.go (Eq.refl _) (NS.call cs5 rfl ?_)
  refine Sat.go (Eq.refl _) (NS.no rfl ?_)
  refine Sat.go (Eq.refl _) (NS.call cs6 rfl ?_)
  refine Sat.go (Eq.refl _) (NS.no rfl ?_)
  refine Sat.go (Eq.refl _) (NS.call (same_eq es4s6 (by omega)) rfl ?_)
  refine Sat.go (Eq.refl _) (NS.yes rfl ?_)
  refine Sat.go (Eq.refl _) (NS.call cs2 rfl ?_)
  refine Sat.go (Eq.refl _) (NS.no rfl ?_)
  refine Sat.go (Eq.refl _) (NS.call cs7 rfl ?_)
  refine Sat.go (Eq.refl _) (NS.no rfl ?_)
  refine Sat.go (Eq.refl _) (NS.call cs8 rfl ?_)
  refine Sat.go (Eq.refl _) (NS.no rfl ?_)
  refine Sat.go (Eq.refl _) (NS.call cs9 rfl ?_)
  refine Sat.go (Eq.refl _) (NS.no rfl ?_)
  refine Sat.go (Eq.refl _) (NS.call (same_eq es7s9 (by omega)) rfl ?_)
  refine Sat.go (Eq.refl _) (NS.yes rfl ?_)
  refine Sat.go (Eq.refl _) (NS.call cs5 rfl ?_)
  refine Sat.go (Eq.refl _) (NS.no rfl ?_)
  refine Sat.go (Eq.refl _) (NS.call cs10 rfl ?_)
  refine Sat.go (Eq.refl _) (NS.no rfl ?_)
  refine Sat.go (Eq.refl _) (NS.call cs2 rfl ?_)
  refine Sat.go (Eq.refl _) (NS.no rfl ?_)
  refine Sat.go (Eq.refl _) (NS.call cs11 rfl ?_)
  refine Sat.go (Eq.refl _) (NS.no rfl ?_)
  refine Sat.go (Eq.refl _) (NS.call cs12 rfl ?_)
  refine Sat.go (Eq.refl _) (NS.no rfl ?_)
  refine Sat.go (Eq.refl _) (NS.call (same_eq es10s12 (by omega)) rfl ?_)
  refine Sat.go (Eq.refl _) (NS.yes rfl ?_)
  refine Sat.go (Eq.refl _) (NS.call cs8 rfl ?_)
  refine Sat.go (Eq.refl _) (NS.no rfl ?_)
  refine Sat.go (Eq.refl _) (NS.call cs13 rfl ?_)
  refine Sat.go (Eq.refl _) (NS.no rfl ?_)
  refine Sat.go (Eq.refl _) (NS.call cs0 rfl ?_)
  refine Sat.go (Eq.refl _) (NS.no rfl ?_)
  refine Sat.go (Eq.refl _) (NS.call cs14 rfl ?_)
  refine Sat.go (Eq.refl _) (NS.no rfl ?_)
  refine Sat.go (Eq.refl _) (NS.call cs15 rfl ?_)
  refine Sat.go (Eq.refl _) (NS.no rfl ?_)
  refine Sat.go (Eq.refl _) (NS.call (same_eq es13s15 (by omega)) rfl ?_)
  refine Sat.go (Eq.refl _) (NS.yes rfl ?_)
  refine Sat.go (Eq.refl _) (NS.call cs16 rfl ?_)
  refine Sat.go (Eq.refl _) (NS.no rfl ?_)
  refine Sat.go (Eq.refl _) (NS.call cs17 rfl ?_)
  refine Sat.go (Eq.refl _) (NS.no rfl ?_)
  refine Sat.go (Eq.refl _) (NS.call cs5 rfl ?_)
  refine Sat.go (Eq.refl _) (NS.no rfl ?_)
  refine Sat.go (Eq.refl _) (NS.call cs18 rfl ?_)
  refine Sat.go (Eq.refl _) (NS.no rfl ?_)
  refine Sat.go (Eq.refl _) (NS.call (same_eq es17s18 (by omega)) rfl ?_)
  refine Sat.go (Eq.refl _) (NS.yes rfl ?_)
  refine Sat.go (Eq.refl _) (NS.yes rfl ?_)
  refine Sat.go (Eq.refl _) (NS.call awake_ok rfl ?_)
  exact Sat.go (Eq.refl _) (NS.ret rfl rfl (LeA.of rfl))
end Go.Proofs.Ytfbjgggminmhbaa
