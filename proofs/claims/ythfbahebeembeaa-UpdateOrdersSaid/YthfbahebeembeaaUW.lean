/- Merge. -/
import Derived.Test.YthfbahebeembeaaUT
set_option linter.unusedSimpArgs false
set_option linter.unusedSectionVars false
set_option linter.unusedVariables false
namespace Go.Mb
open Go.Sy
set_option linter.unusedVariables false
theorem cK_same {l : List Chg} {k : Nat} (h : 0 < k ∧ Chg.eqv (l.getD k default) (l.getD (k - 1) default) = true) : cK l (k + 1) = cK l k := by
  show (if (decide (0 < k) && Chg.eqv (l.getD k default) (l.getD (k - 1) default)) = true then cK l k else cK l k ++ [l.getD k default]) = _
  rw [if_pos (by rw [decide_eq_true h.1, h.2]; rfl)]
theorem cK_new {l : List Chg} {k : Nat} (h : k = 0 ∨ Chg.eqv (l.getD k default) (l.getD (k - 1) default) = false) : cK l (k + 1) = cK l k ++ [l.getD k default] := by
  show (if (decide (0 < k) && Chg.eqv (l.getD k default) (l.getD (k - 1) default)) = true then cK l k else cK l k ++ [l.getD k default]) = _
  rw [if_neg]
  rcases h with h | h
  · subst h; simp
  · rw [h]; simp
/-- The first k elements are without repetitions side by side. -/
def noRep (l : List Chg) (k : Nat) : Prop := ∀ i, i < k → i = 0 ∨ Chg.eqv (l.getD i default) (l.getD (i - 1) default) = false
theorem noRep_cK {l : List Chg} : ∀ {k : Nat}, k ≤ l.length → noRep l k → cK l k = l.take k
  | 0, _, _ => rfl
  | k + 1, hk, h => by rw [cK_new (h k (by omega)), noRep_cK (by omega) (fun i hi => h i (by omega)), take_snoc (by omega)]
/-- The row while repetitions are taken out: what is left of the first n elements, then the elements as they were. -/
def cmpX (l : List Chg) (n i : Nat) : Chg := if i < (cK l n).length then (cK l n).getD i default else l.getD i default
def cmpR (l : List Chg) (n : Nat) : Nat → Nat → A := fun i q => getA (Chg.cells (cmpX l n i)) q
theorem cmp_put {l : List Chg} {n : Nat} (h : cK l (n + 1) = cK l n ++ [l.getD n default]) (i : Nat) : cmpX l (n + 1) i = if i = (cK l n).length then l.getD n default else cmpX l n i := by
  unfold cmpX
  rw [h, List.length_append, List.length_singleton]
  by_cases e : i = (cK l n).length
  · rw [if_pos e, if_pos (by omega), getD_append_right (by omega), e]; simp
  · rw [if_neg e]
    by_cases e2 : i < (cK l n).length
    · rw [if_pos (by omega), if_pos e2, getD_append_left e2]
    · rw [if_neg (by omega), if_neg e2]
theorem cmp_end {l : List Chg} {n : Nat} {cs : List A} (hn : cK l n = cK l l.length) (h3 : (cK l n).length < l.length) : ∀ i, i < ((((cK l n).length : Nat) : Int) - ((0 : Nat) : Int)).toNat → ∀ j, j < 11 → (if (((cK l n).length : Nat) : Int).toNat ≤ ((0 : Nat) : Int).toNat + i ∧ ((0 : Nat) : Int).toNat + i < (((cK l n).length : Nat) : Int).toNat + ((l.length : Int) - (((cK l n).length : Nat) : Int)).toNat then getA cs j else cmpR l n (((0 : Nat) : Int).toNat + i) j) = rowL Chg.cells (cK l l.length) i j := by
  intro i hi j hj
  have e : ((0 : Nat) : Int).toNat + i = i := by simp
  rw [e, if_neg (by omega)]
  unfold cmpR cmpX rowL
  rw [if_pos (by omega), hn]
end Go.Mb
namespace Go.Proofs.Ythfbahebeembeaa
open Go.Sy Go.Mb
set_option maxRecDepth 100000
set_option linter.unusedVariables false
set_option maxHeartbeats 4000000
noncomputable def CC : Cx := { E := EM, inl := [73], ok := EM_ok }
theorem notValid_ok (h : His) (x : Chg) : FnOK Try.prog 70 [.agg x.cells, .ip 2 (getA h.cells)] (.bool (!validX h.nodes x), none) := by
  refine fn_ok CN rfl (by kernel_rfl) Try.func70 rfl ?_
  refine Sat.go (Eq.refl _) (NS.call (valid_ok h.nodes x) rfl ?_)
  exact Sat.go (Eq.refl _) (NS.ret rfl rfl (LeA.refl _))
theorem mergeM_out {h : His} {l r : List Chg} (h1 : ¬ (chkHi h != 0) = true) (h2 : ¬ l.any (fun x => !validX h.nodes x) = true) (hr : insAll h.l l = some r) : mergeM h l = if gapL r then (⟨0, []⟩, 25) else if ordL r then (⟨0, []⟩, 9) else if decide ((r.length : Int) > 1000) then (⟨0, []⟩, 4) else (⟨h.nodes, r⟩, 0) := by
  unfold mergeM; rw [if_neg h1, if_neg h2, hr]
theorem merge_ok (h : His) (l : List Chg) (hl : h.l.length ≤ 100000) (hm : l.length ≤ 100000) : FnOK Try.prog 37 [.agg h.cells, slChg l] (hisR (mergeM h l), none) := by
  have h0 : ∀ r, r = mergeM h l → FnOK Try.prog 37 [.agg h.cells, slChg l] (hisR r, none) := by
    intro r hr
    refine fn_ok CC rfl (by kernel_rfl) Try.func37 rfl ?_
    refine Sat.go (Eq.refl _) (NS.call (check_ok h) rfl ?_)
    refine Sat.go (Eq.refl _) (NS.ite (fun h1 => ?_) (fun h1 => ?_))
    · rw [hr]; unfold mergeM; rw [if_pos h1]
      exact Sat.go (Eq.refl _) (NS.ret rfl rfl (hisR_le nil_chg))
    have g := chkHi_good (h := h) (by simpa using h1)
    have h1 : ¬ (chkHi h != 0) = true := by rw [show (chkHi h != 0) = false from h1]; simp
    refine Sat.go (Eq.refl _) (NS.call (anyC_ok l (by omega) 70 2 (getA h.cells) (fun x => !validX h.nodes x) (notValid_ok h)) rfl ?_)
    refine Sat.go (Eq.refl _) (NS.ite (fun h2 => ?_) (fun h2 => ?_))
    · rw [hr]; unfold mergeM; rw [if_neg h1, if_pos h2]
      exact Sat.go (Eq.refl _) (NS.ret rfl rfl (hisR_le nil_chg))
    have h2 : ¬ l.any (fun x => !validX h.nodes x) = true := by rw [show l.any (fun x => !validX h.nodes x) = false from h2]; simp
    refine Sat.go (Eq.refl _) (NS.call ((concat_row [h.l, l] (by simp) (by simp; omega)).le (LeL.cons (LeA.sl rfl fun i hi j hj => by match i, hi, j, hj with | 0, _, 0, _ => rfl | 1, _, 0, _ => rfl) LeL.nil)) rfl ?_)
    have hfl : [h.l, l].flatten = h.l ++ l := by simp
    have hlen : (h.l ++ l).length = h.l.length + l.length := List.length_append
    rw [hfl]
    refine Sat.go (Eq.refl _) (NS.mut 23 (Eq.refl _) rfl (sortO_mu (h.l ++ l) (by omega)) rfl ?_)
    rintro ob rr ⟨⟨zs, hp, hz, rfl⟩, rfl⟩
    have hzl : zs.length = (h.l ++ l).length := hp.length_eq
    rw [← hzl]
    have hs : zs.Pairwise (fun a b => ¬ ltX b a) := hz.imp fun {a b} h2 h4 => by rw [lt_byO.2 h4] at h2; cases h2
    refine Sat.go (Eq.refl _) ?_
    refine NS.loop (σ := { k : Nat // k ≤ zs.length ∧ ∀ i, i < k → cfl zs i = false }) (fun k => [(2, .ptr 2 0), (4, .ptr 4 0), (6, .own 23), (26, .own 23), (27, .int .i64 zs.length), (28, .int .i64 k.1)]) (fun k => [(2, .box h.cells), (4, .box [.int .i64 0, .nils]), (23, .row 52 11 zs.length (rowL Chg.cells zs))]) (fun k => zs.length - k.1) ⟨0, Nat.zero_le _, fun i hi => by omega⟩ ?_ ?_
    · exact weak_hd [] rfl ⟨rfl, rfl, rfl, rfl, rfl, rfl, trivial⟩ ⟨⟨_, rfl, renHis _ _⟩, ⟨_, rfl, _, _, rfl, rfl, _, _, rfl, rfl, rfl⟩, ren_row rfl rfl fun _ _ _ _ => rfl, trivial⟩ trivial (by kernel_rfl)
    rintro ⟨k, hk, hn⟩
    refine Sat.go (Eq.refl _) (NS.ite (fun a => ?_) (fun a => ?_))
    · have a : k < zs.length := by simpa using a
      repeat' (first | (refine Sat.go (Eq.refl _) (NS.chk (by kernel_rfl) ?_)) | (refine Sat.go (Eq.refl _) (NS.need (by simp; omega) ?_)))
      rcases k with _ | k
      · repeat' (first | (refine Sat.go (Eq.refl _) (NS.chk (by kernel_rfl) ?_)) | (refine Sat.go (Eq.refl _) (NS.no (rfl) ?_)) | (refine Sat.go (Eq.refl _) (NS.next ⟨1, a, fun i hi => (by rw [show i = 0 by omega]; rfl)⟩ (by simp; omega) ?_); exact weak_hd [] rfl ⟨rfl, rfl, rfl, rfl, rfl, rfl, trivial⟩ ⟨⟨_, rfl, renHis _ _⟩, ⟨_, rfl, _, _, rfl, rfl, _, _, rfl, rfl, rfl⟩, ren_row rfl rfl fun _ _ _ _ => rfl, trivial⟩ trivial (by kernel_rfl)))
      · have hw : IntKind.i64.wrap (((k + 1 : Nat) : Int) - 1) = (k : Int) := i64_s (k := k) (n := 1000001) (by omega) (by omega)
        have hc : cfl zs (k + 1) = (keq (zs.getD k default) (zs.getD (k + 1) default) && !Chg.eqv (zs.getD k default) (zs.getD (k + 1) default)) := by
          show (decide (0 < k + 1) && _) = _
          rw [decide_eq_true (by omega), Bool.true_and]; rfl
        have hn2 : cfl zs (k + 1) = false → ∀ i, i < k + 2 → cfl zs i = false := fun e i hi => by
          by_cases c : i = k + 1
          · rw [c]; exact e
          · exact hn i (by show i < k + 1; omega)
        refine Sat.go (Eq.refl _) (NS.yes (by simp) ?_)
        repeat' (first | (refine Sat.go (Eq.refl _) (NS.chk (by kernel_rfl) ?_)) | (refine Sat.go (Eq.refl _) (NS.need (by (try dsimp only); simp only [hw, Int.toNat_natCast, decide_eq_true_eq]; omega) ?_)))
        refine Sat.go (Eq.refl _) (NS.call (byO_ok (zs.getD (IntKind.i64.wrap (((k + 1 : Nat) : Int) - 1)).toNat default) (zs.getD (k + 1) default)) rfl ?_)
        refine Sat.go (Eq.refl _) (NS.ite (fun e1 => ?_) (fun e1 => ?_))
        · have e1 : (byO (zs.getD (IntKind.i64.wrap (((k + 1 : Nat) : Int) - 1)).toNat default) (zs.getD (k + 1) default) == 0) = true := e1
          rw [hw, Int.toNat_natCast, beq_iff_eq, byO_zero, ← keq_iff] at e1
          rw [e1, Bool.true_and] at hc
          repeat' (first | (refine Sat.go (Eq.refl _) (NS.chk (by kernel_rfl) ?_)) | (refine Sat.go (Eq.refl _) (NS.need (by (try dsimp only); simp only [hw, Int.toNat_natCast, decide_eq_true_eq]; omega) ?_)))
          refine Sat.go (Eq.refl _) (NS.ite (fun e2 => ?_) (fun e2 => ?_))
          · have e2 : (!Chg.eqv (zs.getD (IntKind.i64.wrap (((k + 1 : Nat) : Int) - 1)).toNat default) (zs.getD (k + 1) default)) = true := e2
            rw [hw, Int.toNat_natCast, ← hc] at e2
            have hnone := merge_none g.sorted hp a e2
            have hx : mergeM h l = (⟨0, []⟩, 24) := by unfold mergeM; rw [if_neg h1, if_neg h2, hnone]
            rw [hr, hx]
            exact Sat.go (Eq.refl _) (NS.leaveOut rfl (Eq.refl _) (NS.ret rfl rfl (hisR_le nil_chg)))
          · have e2 : (!Chg.eqv (zs.getD (IntKind.i64.wrap (((k + 1 : Nat) : Int) - 1)).toNat default) (zs.getD (k + 1) default)) = false := e2
            rw [hw, Int.toNat_natCast, ← hc] at e2
            refine Sat.go (Eq.refl _) (NS.next ⟨k + 2, a, hn2 e2⟩ (by simp; omega) ?_)
            exact weak_hd [] rfl ⟨rfl, rfl, rfl, rfl, rfl, ren_int rfl (i64_k (k := k + 1) (n := zs.length) a (by omega)), trivial⟩ ⟨⟨_, rfl, renHis _ _⟩, ⟨_, rfl, _, _, rfl, rfl, _, _, rfl, rfl, rfl⟩, ren_row rfl rfl fun _ _ _ _ => rfl, trivial⟩ trivial (by kernel_rfl)
        · have e1 : (byO (zs.getD (IntKind.i64.wrap (((k + 1 : Nat) : Int) - 1)).toNat default) (zs.getD (k + 1) default) == 0) = false := e1
          rw [hw, Int.toNat_natCast, beq_eq_false_iff_ne, ne_eq, byO_zero, ← keq_iff, Bool.not_eq_true] at e1
          rw [e1, Bool.false_and] at hc
          refine Sat.go (Eq.refl _) (NS.next ⟨k + 2, a, hn2 hc⟩ (by simp; omega) ?_)
          exact weak_hd [] rfl ⟨rfl, rfl, rfl, rfl, rfl, ren_int rfl (i64_k (k := k + 1) (n := zs.length) a (by omega)), trivial⟩ ⟨⟨_, rfl, renHis _ _⟩, ⟨_, rfl, _, _, rfl, rfl, _, _, rfl, rfl, rfl⟩, ren_row rfl rfl fun _ _ _ _ => rfl, trivial⟩ trivial (by kernel_rfl)
    · have a : zs.length ≤ k := by simpa using a
      have hn : ∀ i, i < zs.length → cfl zs i = false := fun i hi => hn i (by show i < k; omega)
      have hsm := merge_some g.sorted hp hs hn
      have hcl := cK_len zs zs.length
      clear hn
      refine Sat.go (Eq.refl _) (NS.leave rfl (Eq.refl _) ?_)
      refine Sat.go (Eq.refl _) (NS.ite (fun b => ?_) (fun b => ?_))
      · have b : zs.length < 2 := by have b : (zs.length : Int) < 2 := of_decide_eq_true b
                                     omega
        have e : cK zs zs.length = zs := (noRep_cK (Nat.le_refl _) fun i hi => .inl (by omega)).trans (List.take_length)
        rw [e] at hsm
        refine Sat.go (Eq.refl _) (NS.call ((gaps_ok zs (by omega)).le (LeL.cons (LeA.sl rfl (fun _ _ _ _ => rfl)) LeL.nil)) rfl ?_)
        refine Sat.go (Eq.refl _) (NS.ite (fun g1 => ?_) (fun g1 => ?_))
        · rw [hr, mergeM_out h1 h2 hsm, if_pos (by simpa using g1)]
          exact Sat.go (Eq.refl _) (NS.ret rfl rfl (hisR_le nil_chg))
        have g1 : gapL zs = false := g1
        refine Sat.go (Eq.refl _) (NS.ite (fun g2 => ?_) (fun g2 => ?_))
        · rw [hr, mergeM_out h1 h2 hsm, if_neg (by rw [g1]; simp), if_pos (by simpa using g2)]
          exact Sat.go (Eq.refl _) (NS.ret rfl rfl (hisR_le nil_chg))
        have g2 : ordL zs = false := g2
        refine Sat.go (Eq.refl _) (NS.ite (fun g3 => ?_) (fun g3 => ?_))
        · have g4 : decide ((zs.length : Int) > 1000) = true := by  exact g3
          rw [hr, mergeM_out h1 h2 hsm, if_neg (by rw [g1]; simp), if_neg (by rw [g2]; simp), if_pos g4]
          exact Sat.go (Eq.refl _) (NS.ret rfl rfl (hisR_le nil_chg))
        have g4 : decide ((zs.length : Int) > 1000) = false := by  exact g3
        rw [hr, mergeM_out h1 h2 hsm, if_neg (by rw [g1]; simp), if_neg (by rw [g2]; simp), if_neg (by rw [g4]; simp)]
        exact Sat.go (Eq.refl _) (NS.ret rfl rfl (hisR_le (LeA.sl rfl (fun _ _ _ _ => rfl))))
      have b : 2 ≤ zs.length := by have b : ¬ (zs.length : Int) < 2 := of_decide_eq_false b
                                   omega
      refine Sat.go (Eq.refl _) ?_
      refine NS.loop (σ := { k : Nat // k ≤ zs.length ∧ noRep zs k ∧ 1 ≤ k }) (fun k => [(0, .own 23), (3, .int .i64 k.1)]) (fun _ => []) (fun k => zs.length - k.1) ⟨1, by omega, fun i hi => .inl (by omega), Nat.le_refl _⟩ ?_ ?_
      · exact weak_hd [] rfl ⟨rfl, rfl, trivial⟩ trivial (by repeat' (first | exact trivial | refine ⟨.inr rfl, ?_⟩ | refine ⟨.inl rfl, ?_⟩)) (by kernel_rfl)
      rintro ⟨K, hK, hrep, hK1⟩
      refine Sat.go (Eq.refl _) (NS.ite (fun c => ?_) (fun c => ?_))
      · have c : K < zs.length := by simpa using c
        have hw : IntKind.i64.wrap ((K : Int) - 1) = ((K - 1 : Nat) : Int) := by rw [wrap_i64 (by omega) (by omega)]; omega
        repeat' (first | (refine Sat.go (Eq.refl _) (NS.chk (by kernel_rfl) ?_)) | (refine Sat.go (Eq.refl _) (NS.need (by (try dsimp only); simp only [hw, Int.toNat_natCast, decide_eq_true_eq]; omega) ?_)))
        refine Sat.go (Eq.refl _) (NS.ite (fun d => ?_) (fun d => ?_))
        · have d : Chg.eqv (zs.getD K default) (zs.getD (IntKind.i64.wrap ((K : Int) - 1)).toNat default) = true := d
          rw [hw, Int.toNat_natCast] at d
          have hKt : (cK zs (K + 1)) = zs.take K := by rw [cK_same ⟨hK1, d⟩, noRep_cK hK hrep]
          repeat' (first | (refine Sat.go (Eq.refl _) (NS.need (by (try dsimp only); simp only [decide_eq_true_eq]; omega) ?_)))
          refine Sat.go (Eq.refl _) ?_
          refine NS.loop (σ := { q : Nat // 1 ≤ q ∧ K + q ≤ zs.length ∧ (cK zs (K + q)).length ≤ K + q - 1 }) (fun q => [(0, .own 23), (3, .int .i64 ((cK zs (K + q.1)).length : Nat)), (4, .ov 23 11 K (zs.length - K)), (5, .int .i64 q.1)]) (fun q => [(23, .row 52 11 zs.length (cmpR zs (K + q.1)))]) (fun q => zs.length - q.1) ⟨1, Nat.le_refl _, by omega, by rw [hKt, List.length_take]; omega⟩ ?_ ?_
          · refine weak_hd [] rfl ⟨rfl, ren_int rfl (by show (K : Int) = ((cK zs (K + 1)).length : Int); rw [hKt, List.length_take]; omega), (by show A.ov 23 11 (K : Int).toNat (((zs.length : Nat) : Int) - (K : Int)).toNat = A.ov 23 11 K (zs.length - K); rw [Int.toNat_natCast, show (((zs.length : Nat) : Int) - (K : Int)).toNat = zs.length - K by omega]), rfl, trivial⟩ ⟨ren_row rfl rfl ?_, trivial⟩ (by repeat' (first | exact trivial | refine ⟨.inr rfl, ?_⟩ | refine ⟨.inl rfl, ?_⟩)) (by kernel_rfl)
            intro i hi j hj
            show rowL Chg.cells zs i j = getA (Chg.cells (cmpX zs (K + 1) i)) j
            unfold cmpX
            rw [hKt]
            split
            · rename_i e
              rw [List.length_take] at e
              unfold List.getD
              rw [List.getElem?_take_of_lt (by omega)]; rfl
            · rfl
          rintro ⟨q, hq1, hq, hle⟩
          have hle : (cK zs (K + q)).length ≤ K + q - 1 := hle
          have hwq : IntKind.i64.wrap ((q : Int) - 1) = ((q - 1 : Nat) : Int) := by rw [wrap_i64 (by omega) (by omega)]; omega
          have hx1 : cmpX zs (K + q) (K + q) = zs.getD (K + q) default := if_neg (by omega)
          have hx2 : cmpX zs (K + q) (K + (q - 1)) = zs.getD (K + q - 1) default := by rw [show K + (q - 1) = K + q - 1 by omega]; exact if_neg (by omega)
          refine Sat.go (Eq.refl _) (NS.ite (fun f => ?_) (fun f => ?_))
          · have f : q < zs.length - K := by have f : (q : Int) < ((zs.length - K : Nat) : Int) := of_decide_eq_true f
                                             omega
            repeat' (first | (refine Sat.go (Eq.refl _) (NS.chk (by kernel_rfl) ?_)) | (refine Sat.go (Eq.refl _) (NS.need (by (try dsimp only); simp only [hwq, Int.toNat_natCast, decide_eq_true_eq]; omega) ?_)))
            refine Sat.go (Eq.refl _) (NS.ite (fun e => ?_) (fun e => ?_))
            · have e : (!Chg.eqv (cmpX zs (K + q) (K + (q : Int).toNat)) (cmpX zs (K + q) (K + (IntKind.i64.wrap ((q : Int) - 1)).toNat))) = true := e
              rw [hwq, Int.toNat_natCast, Int.toNat_natCast, hx1, hx2] at e
              have hcn := cK_new (l := zs) (k := K + q) (.inr (by simpa using e))
              have hcl1 : (cK zs (K + q + 1)).length = (cK zs (K + q)).length + 1 := by rw [hcn]; simp
              repeat' (first | (refine Sat.go (Eq.refl _) (NS.chk (by kernel_rfl) ?_)) | (refine Sat.go (Eq.refl _) (NS.need (by (try dsimp only); simp only [hwq, Int.toNat_natCast, decide_eq_true_eq]; omega) ?_)))
              refine Sat.go (Eq.refl _) (NS.next ⟨q + 1, by omega, by show K + (q + 1) ≤ _; omega, by show (cK zs (K + (q + 1))).length ≤ K + (q + 1) - 1; rw [show K + (q + 1) = K + q + 1 by omega, hcl1]; omega⟩ (by show zs.length - (q + 1) < zs.length - q; omega) ?_)
              refine weak_hd [] rfl ⟨rfl, ren_int rfl (by show IntKind.i64.wrap (((cK zs (K + q)).length : Int) + 1) = ((cK zs (K + q + 1)).length : Int); rw [hcl1, wrap_i64 (by omega) (by omega)]; omega), rfl, ren_int rfl (i64_k (k := q) (n := zs.length) (by omega) (by omega)), trivial⟩ ⟨ren_row rfl rfl ?_, trivial⟩ (by repeat' (first | exact trivial | refine ⟨.inr rfl, ?_⟩ | refine ⟨.inl rfl, ?_⟩)) (by kernel_rfl)
              intro i hi j hj
              show (if i = ((cK zs (K + q)).length : Int).toNat ∧ 0 ≤ j ∧ j < 0 + 11 then getA (Chg.cells (cmpX zs (K + q) (K + (q : Int).toNat))) (j - 0) else getA (Chg.cells (cmpX zs (K + q) i)) j) = getA (Chg.cells (cmpX zs (K + q + 1) i)) j
              rw [cmp_put hcn, Int.toNat_natCast, Int.toNat_natCast, hx1]
              by_cases e3 : i = (cK zs (K + q)).length
              · rw [if_pos ⟨e3, by omega, by omega⟩, if_pos e3]; rfl
              · rw [if_neg (by omega), if_neg e3]
            · have e : (!Chg.eqv (cmpX zs (K + q) (K + (q : Int).toNat)) (cmpX zs (K + q) (K + (IntKind.i64.wrap ((q : Int) - 1)).toNat))) = false := e
              rw [hwq, Int.toNat_natCast, Int.toNat_natCast, hx1, hx2] at e
              have hcn := cK_same (l := zs) (k := K + q) ⟨by omega, by simpa using e⟩
              refine Sat.go (Eq.refl _) (NS.next ⟨q + 1, by omega, by show K + (q + 1) ≤ _; omega, by show (cK zs (K + (q + 1))).length ≤ K + (q + 1) - 1; rw [show K + (q + 1) = K + q + 1 by omega, hcn]; omega⟩ (by show zs.length - (q + 1) < zs.length - q; omega) ?_)
              refine weak_hd [] rfl ⟨rfl, ren_int rfl (by show ((cK zs (K + q)).length : Int) = ((cK zs (K + q + 1)).length : Int); rw [hcn]), rfl, ren_int rfl (i64_k (k := q) (n := zs.length) (by omega) (by omega)), trivial⟩ ⟨ren_row rfl rfl ?_, trivial⟩ (by repeat' (first | exact trivial | refine ⟨.inr rfl, ?_⟩ | refine ⟨.inl rfl, ?_⟩)) (by kernel_rfl)
              intro i hi j hj
              show getA (Chg.cells (cmpX zs (K + q) i)) j = getA (Chg.cells (cmpX zs (K + q + 1) i)) j
              unfold cmpX
              rw [hcn]
          · have f : zs.length - K ≤ q := by have f : ¬ (q : Int) < ((zs.length - K : Nat) : Int) := of_decide_eq_false f
                                             omega
            have hKq : K + q = zs.length := by show K + q = zs.length; omega
            refine Sat.go (Eq.refl _) (NS.leave rfl (Eq.refl _) ?_)
            have hcK : cK zs (K + q) = cK zs zs.length := by rw [hKq]
            have hcl2 : (cK zs (K + q)).length = (cK zs zs.length).length := by rw [hKq]
            have hcl3 : (cK zs (K + q)).length < zs.length := by omega
            repeat' (first | (refine Sat.go (Eq.refl _) (NS.need (by (try dsimp only); simp only [decide_eq_true_eq, Int.toNat_natCast]; omega) ?_)))
            refine Sat.go (Eq.refl _) (NS.leave rfl (Eq.refl _) ?_)
            have hLN : ((((cK zs (K + q)).length : Nat) : Int) - ((0 : Nat) : Int)).toNat = (cK zs zs.length).length := by rw [← hcl2]; omega
            refine Sat.go (Eq.refl _) (NS.call ((gaps_ok (cK zs zs.length) (by omega)).le (LeL.cons (LeA.sl hLN (cmp_end hcK hcl3)) LeL.nil)) rfl ?_)
            refine Sat.go (Eq.refl _) (NS.ite (fun g1 => ?_) (fun g1 => ?_))
            · rw [hr, mergeM_out h1 h2 hsm, if_pos (by simpa using g1)]
              exact Sat.go (Eq.refl _) (NS.ret rfl rfl (hisR_le nil_chg))
            have g1 : gapL (cK zs zs.length) = false := g1
            refine Sat.go (Eq.refl _) (NS.ite (fun g2 => ?_) (fun g2 => ?_))
            · rw [hr, mergeM_out h1 h2 hsm, if_neg (by rw [g1]; simp), if_pos (by simpa using g2)]
              exact Sat.go (Eq.refl _) (NS.ret rfl rfl (hisR_le nil_chg))
            have g2 : ordL (cK zs zs.length) = false := g2
            refine Sat.go (Eq.refl _) (NS.ite (fun g3 => ?_) (fun g3 => ?_))
            · have g4 : decide (((cK zs zs.length).length : Int) > 1000) = true := by (rw [← hLN]) <;> exact g3
              rw [hr, mergeM_out h1 h2 hsm, if_neg (by rw [g1]; simp), if_neg (by rw [g2]; simp), if_pos g4]
              exact Sat.go (Eq.refl _) (NS.ret rfl rfl (hisR_le nil_chg))
            have g4 : decide (((cK zs zs.length).length : Int) > 1000) = false := by (rw [← hLN]) <;> exact g3
            rw [hr, mergeM_out h1 h2 hsm, if_neg (by rw [g1]; simp), if_neg (by rw [g2]; simp), if_neg (by rw [g4]; simp)]
            exact Sat.go (Eq.refl _) (NS.ret rfl rfl (hisR_le (LeA.sl hLN (cmp_end hcK hcl3))))
        · have d : Chg.eqv (zs.getD K default) (zs.getD (IntKind.i64.wrap ((K : Int) - 1)).toNat default) = false := d
          rw [hw, Int.toNat_natCast] at d
          refine Sat.go (Eq.refl _) (NS.next ⟨K + 1, by omega, fun i hi => (by by_cases e : i = K; (rw [e]; exact .inr d); exact hrep i (by show i < K; omega)), by omega⟩ (by show zs.length - (K + 1) < zs.length - K; omega) ?_)
          exact weak_hd [] rfl ⟨rfl, ren_int rfl (i64_k (k := K) (n := zs.length) c (by omega)), trivial⟩ trivial (by repeat' (first | exact trivial | refine ⟨.inr rfl, ?_⟩ | refine ⟨.inl rfl, ?_⟩)) (by kernel_rfl)
      · have c : zs.length ≤ K := by simpa using c
        obtain rfl : K = zs.length := by omega
        have e : cK zs zs.length = zs := (noRep_cK (Nat.le_refl _) hrep).trans (List.take_length)
        rw [e] at hsm
        refine Sat.go (Eq.refl _) (NS.leave rfl (Eq.refl _) ?_)
        refine Sat.go (Eq.refl _) (NS.call ((gaps_ok zs (by omega)).le (LeL.cons (LeA.sl rfl (fun _ _ _ _ => rfl)) LeL.nil)) rfl ?_)
        refine Sat.go (Eq.refl _) (NS.ite (fun g1 => ?_) (fun g1 => ?_))
        · rw [hr, mergeM_out h1 h2 hsm, if_pos (by simpa using g1)]
          exact Sat.go (Eq.refl _) (NS.ret rfl rfl (hisR_le nil_chg))
        have g1 : gapL zs = false := g1
        refine Sat.go (Eq.refl _) (NS.ite (fun g2 => ?_) (fun g2 => ?_))
        · rw [hr, mergeM_out h1 h2 hsm, if_neg (by rw [g1]; simp), if_pos (by simpa using g2)]
          exact Sat.go (Eq.refl _) (NS.ret rfl rfl (hisR_le nil_chg))
        have g2 : ordL zs = false := g2
        refine Sat.go (Eq.refl _) (NS.ite (fun g3 => ?_) (fun g3 => ?_))
        · have g4 : decide ((zs.length : Int) > 1000) = true := by  exact g3
          rw [hr, mergeM_out h1 h2 hsm, if_neg (by rw [g1]; simp), if_neg (by rw [g2]; simp), if_pos g4]
          exact Sat.go (Eq.refl _) (NS.ret rfl rfl (hisR_le nil_chg))
        have g4 : decide ((zs.length : Int) > 1000) = false := by  exact g3
        rw [hr, mergeM_out h1 h2 hsm, if_neg (by rw [g1]; simp), if_neg (by rw [g2]; simp), if_neg (by rw [g4]; simp)]
        exact Sat.go (Eq.refl _) (NS.ret rfl rfl (hisR_le (LeA.sl rfl (fun _ _ _ _ => rfl))))
  exact h0 _ rfl
end Go.Proofs.Ythfbahebeembeaa
