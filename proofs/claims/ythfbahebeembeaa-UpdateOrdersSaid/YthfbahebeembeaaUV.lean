/- Merge of the reference. -/
import Derived.Test.YthfbahebeembeaaUW
set_option linter.unusedSimpArgs false
set_option linter.unusedSectionVars false
set_option linter.unusedVariables false
namespace Go.Mb
open Go.Sy
set_option linter.unusedVariables false
theorem insStep_1 {all : List Chg} {x y : Chg} (hy : y ∈ all) (h1 : keq y x = true) (h2 : Chg.eqv y x = false) : insStep all x = none := by
  unfold insStep
  rw [if_pos (List.any_eq_true.2 ⟨y, hy, by rw [h1, h2]; rfl⟩)]
theorem insStep_2 {all : List Chg} {x : Chg} (h : ∀ p, p < all.length → (keq (all.getD p default) x && !Chg.eqv (all.getD p default) x) = false) : insStep all x = if all.any (fun y => keq y x) then some all else some (insM all x) := by
  unfold insStep
  rw [if_neg]
  rw [Bool.not_eq_true, List.any_eq_false]
  intro y hy
  obtain ⟨i, hi, rfl⟩ := mem_getD hy
  rw [h i hi]; simp
theorem insAll_cons {all l : List Chg} {x : Chg} : insAll all (x :: l) = match insStep all x with | none => none | some a => insAll a l := rfl
theorem anyK_none {f : Option Chg → Chg → Bool} {l : List Chg} (h : ∀ k, k < l.length → f (optAt l k) (l.getD k default) = false) : anyK f l l.length = false := anyK_iff.2 h
end Go.Mb
namespace Go.Proofs.Ythfbahebeembeaa
open Go.Sy Go.Mb
set_option maxRecDepth 100000
set_option linter.unusedVariables false
set_option maxHeartbeats 4000000
theorem rMerge_ok (h : His) (l : List Chg) (hl : h.l.length ≤ 100000) (hm : l.length ≤ 100000) : FnOK Try.prog 38 [.agg h.cells, slChg l] (hisR (mergeM h l), none) := by
  have h0 : ∀ r, r = mergeM h l → FnOK Try.prog 38 [.agg h.cells, slChg l] (hisR r, none) := by
    intro r hr
    refine fn_ok CN rfl (by kernel_rfl) Try.func38 rfl ?_
    refine Sat.go (Eq.refl _) (NS.call (rCheck_ok h) rfl ?_)
    refine Sat.go (Eq.refl _) (NS.ite (fun h1 => ?_) (fun h1 => ?_))
    · rw [hr]; unfold mergeM; rw [if_pos h1]
      exact Sat.go (Eq.refl _) (NS.ret rfl rfl (hisR_le nil_chg))
    have g := chkHi_good (h := h) (by simpa using h1)
    have h1 : ¬ (chkHi h != 0) = true := by rw [show (chkHi h != 0) = false from h1]; simp
    refine Sat.go (Eq.refl _) ?_
    refine NS.loop (σ := { k : Nat // k ≤ l.length ∧ ∀ i, i < k → validX h.nodes (l.getD i default) = true }) (fun k => [(1, slChg l), (2, .ptr 2 0), (4, .ptr 4 0), (6, .int .i64 k.1)]) (fun k => [(2, .box h.cells), (4, .box [.int .i64 0, .nils])]) (fun k => l.length - k.1) ⟨0, Nat.zero_le _, fun i hi => by omega⟩ ?_ ?_
    · exact weak_hd [] rfl ⟨rfl, rfl, rfl, rfl, trivial⟩ ⟨⟨_, rfl, renHis _ _⟩, ⟨_, rfl, _, _, rfl, rfl, _, _, rfl, rfl, rfl⟩, trivial⟩ trivial (by kernel_rfl)
    · rintro ⟨k, hk, hn⟩
      refine Sat.go (Eq.refl _) (NS.ite (fun a => ?_) (fun a => ?_))
      · have a : k < l.length := by simpa using a
        repeat' (first | (refine Sat.go (Eq.refl _) (NS.chk (by kernel_rfl) ?_)) | (refine Sat.go (Eq.refl _) (NS.need (by simp; omega) ?_)))
        refine Sat.go (Eq.refl _) (NS.call (rValid_ok h.nodes (l.getD k default)) rfl ?_)
        refine Sat.go (Eq.refl _) (NS.ite (fun b => ?_) (fun b => ?_))
        · have b : (!validX h.nodes (l.getD k default)) = true := b
          have hany : l.any (fun x => !validX h.nodes x) = true := List.any_eq_true.2 ⟨l.getD k default, by rw [getD_lt a]; exact List.getElem_mem _, b⟩
          have hx : mergeM h l = (⟨0, []⟩, 2) := by unfold mergeM; rw [if_neg h1, if_pos hany]
          rw [hr, hx]
          exact Sat.go (Eq.refl _) (NS.leaveOut rfl (Eq.refl _) (NS.ret rfl rfl (hisR_le nil_chg)))
        · have b : (!validX h.nodes (l.getD k default)) = false := b
          refine Sat.go (Eq.refl _) (NS.next ⟨k + 1, a, fun i hi => (by by_cases e : i = k; (rw [e]; simpa using b); exact hn i (by show i < k; omega))⟩ (by simp; omega) ?_)
          exact weak_hd [] rfl ⟨rfl, rfl, rfl, ren_int rfl (i64_k (k := k) (n := l.length) a (by omega)), trivial⟩ ⟨⟨_, rfl, renHis _ _⟩, ⟨_, rfl, _, _, rfl, rfl, _, _, rfl, rfl, rfl⟩, trivial⟩ trivial (by kernel_rfl)
      have a : l.length ≤ k := by simpa using a
      have h2 : ¬ l.any (fun x => !validX h.nodes x) = true := by
        rw [Bool.not_eq_true, List.any_eq_false]
        intro x hx
        obtain ⟨i, hi, rfl⟩ := mem_getD hx
        rw [hn i (by show i < k; omega)]; simp
      refine Sat.go (Eq.refl _) (NS.leave rfl (Eq.refl _) ?_)
      refine Sat.go (Eq.refl _) ?_
      refine NS.loop (σ := { p : Nat × List Chg // p.1 ≤ l.length ∧ insAll h.l l = insAll p.2 (l.drop p.1) ∧ p.2.length ≤ 100000 + p.1 }) (fun p => [(1, slChg l), (2, .ptr 2 0), (4, .ptr 4 0), (7, slChg p.1.2), (8, .int .i64 p.1.1)]) (fun p => [(2, .box h.cells), (4, .box [.int .i64 0, .nils])]) (fun p => l.length - p.1.1) ⟨(0, h.l), Nat.zero_le _, by simp, by show h.l.length ≤ _; omega⟩ ?_ ?_
      · exact weak_hd [] rfl ⟨rfl, rfl, rfl, rfl, rfl, trivial⟩ ⟨⟨_, rfl, renHis _ _⟩, ⟨_, rfl, _, _, rfl, rfl, _, _, rfl, rfl, rfl⟩, trivial⟩ trivial (by kernel_rfl)
      rintro ⟨⟨i, all⟩, hi, hs, hal⟩
      have hi : i ≤ l.length := hi
      have hs : insAll h.l l = insAll all (l.drop i) := hs
      have hal : all.length ≤ 100000 + i := hal
      refine Sat.go (Eq.refl _) (NS.ite (fun b => ?_) (fun b => ?_))
      · have b : i < l.length := by simpa using b
        rw [drop_cons b, insAll_cons] at hs
        refine Sat.go (Eq.refl _) ?_
        refine NS.loop (σ := { j : Nat // j ≤ all.length ∧ ∀ p, p < j → (keq (all.getD p default) (l.getD i default) && !Chg.eqv (all.getD p default) (l.getD i default)) = false }) (fun j => [(1, slChg l), (2, .ptr 2 0), (4, .ptr 4 0), (7, slChg all), (8, .int .i64 i), (9, .bool ((all.take j.1).any fun y => keq y (l.getD i default))), (10, .int .i64 j.1)]) (fun j => [(2, .box h.cells), (4, .box [.int .i64 0, .nils])]) (fun j => all.length - j.1) ⟨0, Nat.zero_le _, fun i hi => by omega⟩ ?_ ?_
        · exact weak_hd [] rfl ⟨rfl, rfl, rfl, rfl, rfl, ren_b (.inr rfl) (by simp), rfl, trivial⟩ ⟨⟨_, rfl, renHis _ _⟩, ⟨_, rfl, _, _, rfl, rfl, _, _, rfl, rfl, rfl⟩, trivial⟩ trivial (by kernel_rfl)
        · rintro ⟨j, hj, hn⟩
          refine Sat.go (Eq.refl _) (NS.ite (fun c => ?_) (fun c => ?_))
          · have c : j < all.length := by simpa using c
            have hsj := any_snoc (p := fun y => keq y (l.getD i default)) c
            have hn2 : (keq (all.getD j default) (l.getD i default) && !Chg.eqv (all.getD j default) (l.getD i default)) = false → ∀ p, p < j + 1 → (keq (all.getD p default) (l.getD i default) && !Chg.eqv (all.getD p default) (l.getD i default)) = false := fun e p hp => by
              by_cases e2 : p = j
              · rw [e2]; exact e
              · exact hn p (by show p < j; omega)
            repeat' (first | (refine Sat.go (Eq.refl _) (NS.chk (by kernel_rfl) ?_)) | (refine Sat.go (Eq.refl _) (NS.need (by simp; omega) ?_)))
            refine Sat.go (Eq.refl _) (NS.ite (fun d => ?_) (fun d => ?_))
            · have d : ((all.getD j default).org == (l.getD i default).org) = true := d
              repeat' (first | (refine Sat.go (Eq.refl _) (NS.chk (by kernel_rfl) ?_)) | (refine Sat.go (Eq.refl _) (NS.need (by simp; omega) ?_)))
              refine Sat.go (Eq.refl _) (NS.ite (fun e => ?_) (fun e => ?_))
              · have e : ((all.getD j default).cnt == (l.getD i default).cnt) = true := e
                have hk1 : keq (all.getD j default) (l.getD i default) = true := by unfold keq; rw [d, e]; rfl
                repeat' (first | (refine Sat.go (Eq.refl _) (NS.chk (by kernel_rfl) ?_)) | (refine Sat.go (Eq.refl _) (NS.need (by simp; omega) ?_)))
                refine Sat.go (Eq.refl _) (NS.ite (fun f => ?_) (fun f => ?_))
                · have f : (!Chg.eqv (all.getD j default) (l.getD i default)) = true := f
                  have hnone : insStep all (l.getD i default) = none := insStep_1 (y := all.getD j default) (by rw [getD_lt c]; exact List.getElem_mem _) hk1 (by simpa using f)
                  rw [hnone] at hs
                  have hx : mergeM h l = (⟨0, []⟩, 24) := by unfold mergeM; rw [if_neg h1, if_neg h2, hs]
                  rw [hr, hx]
                  exact Sat.go (Eq.refl _) (NS.leaveOut rfl (Eq.refl _) (NS.ret rfl rfl (hisR_le nil_chg)))
                · have f : (!Chg.eqv (all.getD j default) (l.getD i default)) = false := f
                  refine Sat.go (Eq.refl _) (NS.next ⟨j + 1, c, hn2 (by rw [f, Bool.and_false])⟩ (by show all.length - (j + 1) < all.length - j; omega) ?_)
                  exact weak_hd [] rfl ⟨rfl, rfl, rfl, rfl, rfl, ren_b (.inr rfl) (by rw [hsj, hk1, Bool.or_true]), ren_int rfl (i64_k (k := j) (n := all.length) c (by omega)), trivial⟩ ⟨⟨_, rfl, renHis _ _⟩, ⟨_, rfl, _, _, rfl, rfl, _, _, rfl, rfl, rfl⟩, trivial⟩ trivial (by kernel_rfl)
              · have e : ((all.getD j default).cnt == (l.getD i default).cnt) = false := e
                have hk1 : keq (all.getD j default) (l.getD i default) = false := by unfold keq; rw [d, e]; rfl
                refine Sat.go (Eq.refl _) (NS.next ⟨j + 1, c, hn2 (by rw [hk1, Bool.false_and])⟩ (by show all.length - (j + 1) < all.length - j; omega) ?_)
                exact weak_hd [] rfl ⟨rfl, rfl, rfl, rfl, rfl, ren_b (.inl rfl) (by rw [hsj, hk1, Bool.or_false]), ren_int rfl (i64_k (k := j) (n := all.length) c (by omega)), trivial⟩ ⟨⟨_, rfl, renHis _ _⟩, ⟨_, rfl, _, _, rfl, rfl, _, _, rfl, rfl, rfl⟩, trivial⟩ trivial (by kernel_rfl)
            · have d : ((all.getD j default).org == (l.getD i default).org) = false := d
              have hk1 : keq (all.getD j default) (l.getD i default) = false := by unfold keq; rw [d]; rfl
              refine Sat.go (Eq.refl _) (NS.next ⟨j + 1, c, hn2 (by rw [hk1, Bool.false_and])⟩ (by show all.length - (j + 1) < all.length - j; omega) ?_)
              exact weak_hd [] rfl ⟨rfl, rfl, rfl, rfl, rfl, ren_b (.inl rfl) (by rw [hsj, hk1, Bool.or_false]), ren_int rfl (i64_k (k := j) (n := all.length) c (by omega)), trivial⟩ ⟨⟨_, rfl, renHis _ _⟩, ⟨_, rfl, _, _, rfl, rfl, _, _, rfl, rfl, rfl⟩, trivial⟩ trivial (by kernel_rfl)
          have c : all.length ≤ j := by simpa using c
          have hst := insStep_2 (all := all) (x := l.getD i default) fun p hp => hn p (by show p < j; omega)
          refine Sat.go (Eq.refl _) (NS.leave rfl (Eq.refl _) ?_)
          rw [take_all c]
          refine Sat.go (Eq.refl _) (NS.ite (fun d => ?_) (fun d => ?_))
          · have d : (all.any fun y => keq y (l.getD i default)) = false := not_t d
            rw [if_neg (by rw [d]; simp)] at hst
            rw [hst] at hs
            refine Sat.go (Eq.refl _) (NS.need (by simp; omega) ?_)
            refine Sat.go (Eq.refl _) (NS.call (insert_ok all (l.getD i default) (by omega)) rfl ?_)
            refine Sat.go (Eq.refl _) (NS.next ⟨(i + 1, insM all (l.getD i default)), b, hs, by show (insM all (l.getD i default)).length ≤ 100000 + (i + 1); rw [insM_len]; omega⟩ (by show l.length - (i + 1) < l.length - i; omega) ?_)
            exact weak_hd [] rfl ⟨rfl, rfl, rfl, rfl, ren_int rfl (i64_k (k := i) (n := l.length) b (by omega)), trivial⟩ ⟨⟨_, rfl, renHis _ _⟩, ⟨_, rfl, _, _, rfl, rfl, _, _, rfl, rfl, rfl⟩, trivial⟩ trivial (by kernel_rfl)
          · have d : (all.any fun y => keq y (l.getD i default)) = true := not_f d
            rw [if_pos d] at hst
            rw [hst] at hs
            refine Sat.go (Eq.refl _) (NS.next ⟨(i + 1, all), b, hs, by show all.length ≤ 100000 + (i + 1); omega⟩ (by show l.length - (i + 1) < l.length - i; omega) ?_)
            exact weak_hd [] rfl ⟨rfl, rfl, rfl, rfl, ren_int rfl (i64_k (k := i) (n := l.length) b (by omega)), trivial⟩ ⟨⟨_, rfl, renHis _ _⟩, ⟨_, rfl, _, _, rfl, rfl, _, _, rfl, rfl, rfl⟩, trivial⟩ trivial (by kernel_rfl)
      have b : l.length ≤ i := by simpa using b
      rw [List.drop_eq_nil_of_le b] at hs
      have hsm : insAll h.l l = some all := hs
      have hmo := mergeM_out h1 h2 hsm
      clear hs
      refine Sat.go (Eq.refl _) (NS.leave rfl (Eq.refl _) ?_)
      refine Sat.go (Eq.refl _) ?_
      refine NS.loop (σ := { k : Nat // k ≤ all.length ∧ ∀ i, i < k → gapX (optAt all i) (all.getD i default) = false }) (fun k => [(2, .ptr 2 0), (4, .ptr 4 0), (7, slChg all), (11, .int .i64 k.1)]) (fun k => [(2, .box h.cells), (4, .box [.int .i64 0, .nils])]) (fun k => all.length - k.1) ⟨0, Nat.zero_le _, fun i hi => by omega⟩ ?_ ?_
      · exact weak_hd [] rfl ⟨rfl, rfl, rfl, rfl, trivial⟩ ⟨⟨_, rfl, renHis _ _⟩, ⟨_, rfl, _, _, rfl, rfl, _, _, rfl, rfl, rfl⟩, trivial⟩ trivial (by kernel_rfl)
      · rintro ⟨k, hk, hn⟩
        refine Sat.go (Eq.refl _) (NS.ite (fun c => ?_) (fun c => ?_))
        · have c : k < all.length := by simpa using c
          have hn2 : gapX (optAt all k) (all.getD k default) = false → ∀ p, p < k + 1 → gapX (optAt all p) (all.getD p default) = false := fun e p hp => by
            by_cases e2 : p = k
            · rw [e2]; exact e
            · exact hn p (by show p < k; omega)
          have hgap : gapX (optAt all k) (all.getD k default) = true → mergeM h l = (⟨0, []⟩, 25) := fun e => by rw [hmo, if_pos (show gapL all = true from anyK_true c e)]
          refine Sat.go (Eq.refl _) (NS.chk (by kernel_rfl) ?_)
          rcases k with _ | k
          · refine Sat.go (Eq.refl _) (NS.no (rfl) ?_)
            repeat' (first | (refine Sat.go (Eq.refl _) (NS.chk (by kernel_rfl) ?_)) | (refine Sat.go (Eq.refl _) (NS.need (by simp; omega) ?_)))
            refine Sat.go (Eq.refl _) (NS.ite (fun d => ?_) (fun d => ?_))
            · rw [hr, hgap d]
              exact Sat.go (Eq.refl _) (NS.leaveOut rfl (Eq.refl _) (NS.ret rfl rfl (hisR_le nil_chg)))
            · repeat' (first | (refine Sat.go (Eq.refl _) (NS.no (rfl) ?_)))
              refine Sat.go (Eq.refl _) (NS.next ⟨1, c, hn2 d⟩ (by show all.length - 1 < all.length - 0; omega) ?_)
              exact weak_hd [] rfl ⟨rfl, rfl, rfl, rfl, trivial⟩ ⟨⟨_, rfl, renHis _ _⟩, ⟨_, rfl, _, _, rfl, rfl, _, _, rfl, rfl, rfl⟩, trivial⟩ trivial (by kernel_rfl)
          · have hw : IntKind.i64.wrap (((k + 1 : Nat) : Int) - 1) = (k : Int) := i64_s (k := k) (n := 1000001) (by omega) (by omega)
            have hgx : gapX (optAt all (k + 1)) (all.getD (k + 1) default) = if (all.getD k default).org == (all.getD (k + 1) default).org then (all.getD (k + 1) default).cnt != IntKind.i64.wrap ((all.getD k default).cnt + 1) else (all.getD (k + 1) default).cnt != 1 := rfl
            refine Sat.go (Eq.refl _) (NS.yes (by simp) ?_)
            repeat' (first | (refine Sat.go (Eq.refl _) (NS.chk (by kernel_rfl) ?_)) | (refine Sat.go (Eq.refl _) (NS.need (by (try dsimp only); simp only [hw, Int.toNat_natCast, decide_eq_true_eq]; omega) ?_)))
            cases hso : ((all.getD k default).org == (all.getD (k + 1) default).org) with
            | false =>
              rw [hso, if_neg (by simp)] at hgx
              have hso2 : ((all.getD (k + 1) default).org == (all.getD k default).org) = false := by rw [beq_eq_false_iff_ne] at hso ⊢; exact fun e => hso e.symm
              refine Sat.go (Eq.refl _) (NS.yes (by show (!((all.getD (k + 1) default).org == (all.getD (IntKind.i64.wrap (((k + 1 : Nat) : Int) - 1)).toNat default).org)) = true; rw [hw, Int.toNat_natCast, hso2]; rfl) ?_)
              repeat' (first | (refine Sat.go (Eq.refl _) (NS.chk (by kernel_rfl) ?_)) | (refine Sat.go (Eq.refl _) (NS.need (by (try dsimp only); simp only [hw, Int.toNat_natCast, decide_eq_true_eq]; omega) ?_)))
              refine Sat.go (Eq.refl _) (NS.ite (fun d => ?_) (fun d => ?_))
              · have d : ((all.getD (k + 1) default).cnt != 1) = true := d
                rw [hr, hgap (by rw [hgx, d])]
                exact Sat.go (Eq.refl _) (NS.leaveOut rfl (Eq.refl _) (NS.ret rfl rfl (hisR_le nil_chg)))
              · have d : ((all.getD (k + 1) default).cnt != 1) = false := d
                refine Sat.go (Eq.refl _) (NS.no (by show ((all.getD (k + 1) default).org == (all.getD (IntKind.i64.wrap (((k + 1 : Nat) : Int) - 1)).toNat default).org) = false; rw [hw, Int.toNat_natCast, hso2]) ?_)
                refine Sat.go (Eq.refl _) (NS.next ⟨k + 2, c, hn2 (by rw [hgx, d])⟩ (by show all.length - (k + 2) < all.length - (k + 1); omega) ?_)
                exact weak_hd [] rfl ⟨rfl, rfl, rfl, ren_int rfl (i64_k (k := k + 1) (n := all.length) c (by omega)), trivial⟩ ⟨⟨_, rfl, renHis _ _⟩, ⟨_, rfl, _, _, rfl, rfl, _, _, rfl, rfl, rfl⟩, trivial⟩ trivial (by kernel_rfl)
            | true =>
              rw [hso, if_pos rfl] at hgx
              have hso2 : ((all.getD (k + 1) default).org == (all.getD k default).org) = true := by rw [beq_iff_eq] at hso ⊢; exact hso.symm
              refine Sat.go (Eq.refl _) (NS.no (by show (!((all.getD (k + 1) default).org == (all.getD (IntKind.i64.wrap (((k + 1 : Nat) : Int) - 1)).toNat default).org)) = false; rw [hw, Int.toNat_natCast, hso2]; rfl) ?_)
              refine Sat.go (Eq.refl _) (NS.yes (by show ((all.getD (k + 1) default).org == (all.getD (IntKind.i64.wrap (((k + 1 : Nat) : Int) - 1)).toNat default).org) = true; rw [hw, Int.toNat_natCast, hso2]) ?_)
              repeat' (first | (refine Sat.go (Eq.refl _) (NS.chk (by kernel_rfl) ?_)) | (refine Sat.go (Eq.refl _) (NS.need (by (try dsimp only); simp only [hw, Int.toNat_natCast, decide_eq_true_eq]; omega) ?_)))
              refine Sat.go (Eq.refl _) (NS.ite (fun d => ?_) (fun d => ?_))
              · have d : ((all.getD (k + 1) default).cnt != IntKind.i64.wrap ((all.getD (IntKind.i64.wrap (((k + 1 : Nat) : Int) - 1)).toNat default).cnt + 1)) = true := d
                rw [hw, Int.toNat_natCast] at d
                rw [hr, hgap (by rw [hgx, d])]
                exact Sat.go (Eq.refl _) (NS.leaveOut rfl (Eq.refl _) (NS.ret rfl rfl (hisR_le nil_chg)))
              · have d : ((all.getD (k + 1) default).cnt != IntKind.i64.wrap ((all.getD (IntKind.i64.wrap (((k + 1 : Nat) : Int) - 1)).toNat default).cnt + 1)) = false := d
                rw [hw, Int.toNat_natCast] at d
                refine Sat.go (Eq.refl _) (NS.next ⟨k + 2, c, hn2 (by rw [hgx, d])⟩ (by show all.length - (k + 2) < all.length - (k + 1); omega) ?_)
                exact weak_hd [] rfl ⟨rfl, rfl, rfl, ren_int rfl (i64_k (k := k + 1) (n := all.length) c (by omega)), trivial⟩ ⟨⟨_, rfl, renHis _ _⟩, ⟨_, rfl, _, _, rfl, rfl, _, _, rfl, rfl, rfl⟩, trivial⟩ trivial (by kernel_rfl)
        have c : all.length ≤ k := by simpa using c
        have hg : gapL all = false := anyK_iff.2 fun p hp => hn p (by show p < k; omega)
        rw [if_neg (by rw [hg]; simp)] at hmo
        refine Sat.go (Eq.refl _) (NS.leave rfl (Eq.refl _) ?_)
        refine Sat.go (Eq.refl _) ?_
        refine NS.loop (σ := { k : Nat // 1 ≤ k ∧ k ≤ all.length + 1 ∧ ∀ i, i < k → i < all.length → ordX (optAt all i) (all.getD i default) = false }) (fun k => [(2, .ptr 2 0), (4, .ptr 4 0), (7, slChg all), (13, .int .i64 k.1)]) (fun k => [(2, .box h.cells), (4, .box [.int .i64 0, .nils])]) (fun k => all.length + 1 - k.1) ⟨1, Nat.le_refl _, by omega, fun i hi hi2 => by rw [show i = 0 by omega]; rfl⟩ ?_ ?_
        · exact weak_hd [] rfl ⟨rfl, rfl, rfl, rfl, trivial⟩ ⟨⟨_, rfl, renHis _ _⟩, ⟨_, rfl, _, _, rfl, rfl, _, _, rfl, rfl, rfl⟩, trivial⟩ trivial (by kernel_rfl)
        rintro ⟨k, hk1, hk, hn⟩
        refine Sat.go (Eq.refl _) (NS.ite (fun d => ?_) (fun d => ?_))
        · have d : k < all.length := by simpa using d
          obtain ⟨k, rfl⟩ : ∃ q, k = q + 1 := ⟨k - 1, by omega⟩
          have hn2 : ordX (optAt all (k + 1)) (all.getD (k + 1) default) = false → ∀ p, p < k + 2 → p < all.length → ordX (optAt all p) (all.getD p default) = false := fun e p hp hq => by
            by_cases e2 : p = k + 1
            · rw [e2]; exact e
            · exact hn p (by show p < k + 1; omega) hq
          have hord : ordX (optAt all (k + 1)) (all.getD (k + 1) default) = true → mergeM h l = (⟨0, []⟩, 9) := fun e => by rw [hmo, if_pos (show ordL all = true from anyK_true d e)]
          have hw : IntKind.i64.wrap (((k + 1 : Nat) : Int) - 1) = (k : Int) := i64_s (k := k) (n := 1000001) (by omega) (by omega)
          have hox : ordX (optAt all (k + 1)) (all.getD (k + 1) default) = ((all.getD k default).org == (all.getD (k + 1) default).org && decide ((all.getD (k + 1) default).stamp ≤ (all.getD k default).stamp)) := rfl
          repeat' (first | (refine Sat.go (Eq.refl _) (NS.chk (by kernel_rfl) ?_)) | (refine Sat.go (Eq.refl _) (NS.need (by (try dsimp only); simp only [hw, Int.toNat_natCast, decide_eq_true_eq]; omega) ?_)))
          refine Sat.go (Eq.refl _) (NS.ite (fun e => ?_) (fun e => ?_))
          · have e : ((all.getD (k + 1) default).org == (all.getD (IntKind.i64.wrap (((k + 1 : Nat) : Int) - 1)).toNat default).org) = true := e
            rw [hw, Int.toNat_natCast] at e
            have e2 : ((all.getD k default).org == (all.getD (k + 1) default).org) = true := by rw [beq_iff_eq] at e ⊢; exact e.symm
            repeat' (first | (refine Sat.go (Eq.refl _) (NS.chk (by kernel_rfl) ?_)) | (refine Sat.go (Eq.refl _) (NS.need (by (try dsimp only); simp only [hw, Int.toNat_natCast, decide_eq_true_eq]; omega) ?_)))
            refine Sat.go (Eq.refl _) (NS.ite (fun f => ?_) (fun f => ?_))
            · have f : decide ((all.getD (k + 1) default).stamp ≤ (all.getD (IntKind.i64.wrap (((k + 1 : Nat) : Int) - 1)).toNat default).stamp) = true := f
              rw [hw, Int.toNat_natCast] at f
              rw [hr, hord (by rw [hox, e2, f]; rfl)]
              exact Sat.go (Eq.refl _) (NS.leaveOut rfl (Eq.refl _) (NS.ret rfl rfl (hisR_le nil_chg)))
            · have f : decide ((all.getD (k + 1) default).stamp ≤ (all.getD (IntKind.i64.wrap (((k + 1 : Nat) : Int) - 1)).toNat default).stamp) = false := f
              rw [hw, Int.toNat_natCast] at f
              refine Sat.go (Eq.refl _) (NS.next ⟨k + 2, by omega, by show k + 2 ≤ _; omega, hn2 (by rw [hox, e2, f]; rfl)⟩ (by show all.length + 1 - (k + 2) < all.length + 1 - (k + 1); omega) ?_)
              exact weak_hd [] rfl ⟨rfl, rfl, rfl, ren_int rfl (i64_k (k := k + 1) (n := all.length) d (by omega)), trivial⟩ ⟨⟨_, rfl, renHis _ _⟩, ⟨_, rfl, _, _, rfl, rfl, _, _, rfl, rfl, rfl⟩, trivial⟩ trivial (by kernel_rfl)
          · have e : ((all.getD (k + 1) default).org == (all.getD (IntKind.i64.wrap (((k + 1 : Nat) : Int) - 1)).toNat default).org) = false := e
            rw [hw, Int.toNat_natCast] at e
            have e2 : ((all.getD k default).org == (all.getD (k + 1) default).org) = false := by rw [beq_eq_false_iff_ne] at e ⊢; exact fun h => e h.symm
            refine Sat.go (Eq.refl _) (NS.next ⟨k + 2, by omega, by show k + 2 ≤ _; omega, hn2 (by rw [hox, e2]; rfl)⟩ (by show all.length + 1 - (k + 2) < all.length + 1 - (k + 1); omega) ?_)
            exact weak_hd [] rfl ⟨rfl, rfl, rfl, ren_int rfl (i64_k (k := k + 1) (n := all.length) d (by omega)), trivial⟩ ⟨⟨_, rfl, renHis _ _⟩, ⟨_, rfl, _, _, rfl, rfl, _, _, rfl, rfl, rfl⟩, trivial⟩ trivial (by kernel_rfl)
        · have d : all.length ≤ k := by simpa using d
          have ho : ordL all = false := anyK_iff.2 fun p hp => hn p (by show p < k; omega) hp
          rw [if_neg (by rw [ho]; simp)] at hmo
          refine Sat.go (Eq.refl _) (NS.leave rfl (Eq.refl _) ?_)
          refine Sat.go (Eq.refl _) (NS.ite (fun e => ?_) (fun e => ?_))
          · rw [hr, hmo, if_pos (show decide ((all.length : Int) > 1000) = true from e)]
            exact Sat.go (Eq.refl _) (NS.ret rfl rfl (hisR_le nil_chg))
          · rw [hr, hmo, if_neg (by rw [show decide ((all.length : Int) > 1000) = false from e]; simp)]
            exact Sat.go (Eq.refl _) (NS.ret rfl rfl (LeA.refl _))
  exact h0 _ rfl
end Go.Proofs.Ythfbahebeembeaa
