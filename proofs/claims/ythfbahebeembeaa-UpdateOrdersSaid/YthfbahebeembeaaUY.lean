/- The contacts of a history: the reference. -/
import Derived.Test.YthfbahebeembeaaUX
set_option linter.unusedSimpArgs false
set_option linter.unusedSectionVars false
set_option linter.unusedVariables false
namespace Go.Mb
open Go.Sy
set_option linter.unusedVariables false
/-- Where a change is put in. -/
theorem insS_at {l r : List Chg} {x : Chg} {a : Nat} (ha : a ≤ l.length) (h : r = l.take a ++ x :: l.drop a) : r.length = l.length + 1 ∧ ∀ i, i < l.length + 1 → r.getD i default = if i = a then x else if i < a then l.getD i default else l.getD (i - 1) default := by
  subst h
  have hlt : (l.take a).length = a := by rw [List.length_take]; omega
  refine ⟨by simp; omega, fun i hi => ?_⟩
  unfold List.getD
  by_cases e : i = a
  · subst e; rw [if_pos rfl, List.getElem?_append_right (by omega), hlt]; simp
  · rw [if_neg e]
    by_cases e2 : i < a
    · rw [if_pos e2, List.getElem?_append_left (by omega), List.getElem?_take_of_lt e2]
    · rw [if_neg e2, List.getElem?_append_right (by omega), hlt, show i - a = (i - 1 - a) + 1 by omega, List.getElem?_cons_succ, List.getElem?_drop, show a + (i - 1 - a) = i - 1 by omega]
/-- The row while elements move up. -/
def shfR (l : List Chg) (x : Chg) (j : Nat) : Nat → Nat → A := fun i q => getA (Chg.cells (if i ≤ j then (l ++ [x]).getD i default else l.getD (i - 1) default)) q
/-- Sorted by names up to i. -/
def SrtT (l : List Ctc) (i : Nat) : Prop := ∀ p q, p < q → q < i → ltN (l.getD p default) (l.getD q default)
/-- Sorted but for the element j, which is before those behind it. -/
structure SrtJ (l : List Ctc) (i j : Nat) : Prop where
  le : j ≤ i
  a : ∀ p q, p < q → q ≤ i → p ≠ j → q ≠ j → ltN (l.getD p default) (l.getD q default)
  b : ∀ q, j < q → q ≤ i → ltN (l.getD j default) (l.getD q default)
theorem SrtJ.start {l : List Ctc} {i : Nat} (h : SrtT l i) : SrtJ l i i := ⟨Nat.le_refl _, fun p q h1 h2 h3 h4 => h p q h1 (by omega), fun q h1 h2 => by omega⟩
def swp (l : List Ctc) (j : Nat) : List Ctc := (l.set (j + 1) (l.getD j default)).set j (l.getD (j + 1) default)
theorem swp_len (l : List Ctc) (j : Nat) : (swp l j).length = l.length := by simp [swp]
theorem swp_get {l : List Ctc} {j : Nat} (h : j + 1 < l.length) (q : Nat) : (swp l j).getD q default = if q = j then l.getD (j + 1) default else if q = j + 1 then l.getD j default else l.getD q default := by
  unfold swp
  rw [getD_setG _ _ _ _ (by simp; omega), getD_setG _ _ _ _ (by omega)]
theorem swp_perm {l : List Ctc} {j : Nat} (h : j + 1 < l.length) : (swp l j).Perm l := by
  unfold swp
  rw [getD_lt (show j < l.length by omega), getD_lt h]
  exact List.set_set_perm (by omega) (by omega)
theorem SrtJ.step {l : List Ctc} {i j : Nat} (h : SrtJ l i (j + 1)) (hl : j + 1 < l.length) (hlt : ltN (l.getD (j + 1) default) (l.getD j default)) : SrtJ (swp l j) i j := by
  have g := swp_get hl
  have hle := h.le
  refine ⟨by omega, fun p q h1 h2 h3 h4 => ?_, fun q h1 h2 => ?_⟩
  · rw [g p, g q, if_neg h3, if_neg h4]
    by_cases c1 : p = j + 1
    · rw [if_pos c1, if_neg (by omega)]
      exact h.a j q (by omega) h2 (by omega) (by omega)
    · rw [if_neg c1]
      by_cases c2 : q = j + 1
      · rw [if_pos c2]; exact h.a p j (by omega) (by omega) c1 (by omega)
      · rw [if_neg c2]; exact h.a p q h1 h2 c1 c2
  · rw [g j, g q, if_pos rfl, if_neg (by omega)]
    by_cases c2 : q = j + 1
    · rw [if_pos c2]; exact hlt
    · rw [if_neg c2]; exact h.b q (by omega) h2
theorem SrtJ.stop {l : List Ctc} {i j : Nat} (h : SrtJ l i j) (hn : j = 0 ∨ ltN (l.getD (j - 1) default) (l.getD j default)) : SrtT l (i + 1) := by
  intro p q h1 h2
  by_cases c1 : p = j
  · rw [c1] at h1 ⊢; exact h.b q h1 (by omega)
  · by_cases c2 : q = j
    · rw [c2] at h1 ⊢
      rcases hn with hn | hn
      · omega
      · by_cases c3 : p = j - 1
        · rw [c3]; exact hn
        · exact ltN_trans (h.a p (j - 1) (by omega) (by have := h.le; omega) c1 (by omega)) hn
    · exact h.a p q h1 (by omega) c1 c2
theorem apart_get {l t : List Ctc} (hp : l.Perm t) (ht : t.Pairwise Apart) {p q : Nat} (hpq : p < q) (hq : q < l.length) : Apart (l.getD p default) (l.getD q default) := by
  have h := (hp.pairwise_iff (fun {a b} h => Apart.symm h)).2 ht
  rw [List.pairwise_iff_getElem] at h
  rw [getD_lt hq, getD_lt (show p < l.length by omega)]
  exact h p q (by omega) hq hpq
theorem srtT_all {l : List Ctc} (h : SrtT l l.length) : l.Pairwise (fun a b => ¬ ltN b a) := by
  rw [List.pairwise_iff_getElem]
  intro i j hi hj hij h2
  have := h i j hij hj
  rw [getD_lt hj, getD_lt hi] at this
  exact ltN_irr _ (ltN_trans this h2)
end Go.Mb
namespace Go.Proofs.Ythfbahebeembeaa
open Go.Sy Go.Mb
set_option maxRecDepth 100000
set_option linter.unusedVariables false
set_option maxHeartbeats 4000000
theorem rCands_row (h : His) (hl : h.l.length ≤ 1000000) : FnOK Try.prog 85 [.agg h.cells] (.own 0, some (.row 52 11 (candL h.l).length (rowL Chg.cells (candL h.l)))) := by
  refine fn_ok CN rfl (by kernel_rfl) Try.func85 rfl ?_
  refine Sat.go (Eq.refl _) ?_
  refine NS.loop (σ := { k : Nat // k ≤ h.l.length }) (fun k => [(1, .ptr 1 0), (3, .own 3), (4, .int .i64 k.1)]) (fun k => [(1, .box h.cells), (3, .row 52 11 (candK h.l k.1).length (rowL Chg.cells (candK h.l k.1)))]) (fun k => h.l.length - k.1) ⟨0, Nat.zero_le _⟩ ?_ ?_
  · refine (weak_promote 3 3 52 11 (rowL Chg.cells []) rfl rfl).trans ?_
    exact weak_hd [] rfl ⟨rfl, rfl, rfl, trivial⟩ ⟨⟨_, rfl, renHis _ _⟩, ren_row rfl rfl fun _ _ _ _ => rfl, trivial⟩ trivial (by kernel_rfl)
  rintro ⟨k, hk⟩
  have hlen := candK_len h.l k
  refine Sat.go (Eq.refl _) (NS.ite (fun a => ?_) (fun a => ?_))
  · have a : k < h.l.length := by simpa using a
    have hcand : candK h.l (k + 1) = if isCand h.l (h.l.getD k default) then insS (candK h.l k) (h.l.getD k default) else candK h.l k := rfl
    refine Sat.go (Eq.refl _) (NS.need (by simp; omega) ?_)
    refine Sat.go (Eq.refl _) ?_
    refine NS.loop (σ := { j : Nat // j ≤ h.l.length }) (fun j => [(1, .ptr 1 0), (3, .own 3), (4, .int .i64 k), (5, .ptr 5 0), (6, .bool ((h.l.getD k default).kind == 1 && !(h.l.take j.1).any (fun y => nmE (h.l.getD k default).c y.c && newr y (h.l.getD k default)))), (7, .int .i64 j.1)]) (fun j => [(1, .box h.cells), (3, .row 52 11 (candK h.l k).length (rowL Chg.cells (candK h.l k))), (5, .box (h.l.getD k default).cells)]) (fun j => h.l.length - j.1) ⟨0, Nat.zero_le _⟩ ?_ ?_
    · exact weak_hd [] rfl ⟨rfl, rfl, rfl, rfl, ren_b (.inl rfl) (by simp), rfl, trivial⟩ ⟨⟨_, rfl, renHis _ _⟩, ren_row rfl rfl (fun _ _ _ _ => rfl), ⟨_, rfl, renChg _ _⟩, trivial⟩ trivial (by kernel_rfl)
    · rintro ⟨j, hj⟩
      refine Sat.go (Eq.refl _) (NS.ite (fun c => ?_) (fun c => ?_))
      · have c : j < h.l.length := by simpa using c
        have hsj := any_snoc (p := fun y => nmE (h.l.getD k default).c y.c && newr y (h.l.getD k default)) c
        refine Sat.go (Eq.refl _) (NS.chk (by kernel_rfl) ?_)
        refine Sat.go (Eq.refl _) (NS.ite (fun d => ?_) (fun d => ?_))
        · have d : ((h.l.getD k default).kind == 1 && !(h.l.take j).any (fun y => nmE (h.l.getD k default).c y.c && newr y (h.l.getD k default))) = true := d
          rw [Bool.and_eq_true, Bool.not_eq_true'] at d
          refine Sat.go (Eq.refl _) (NS.need (by simp; omega) ?_)
          refine Sat.go (Eq.refl _) (NS.call (named_ok (h.l.getD k default).c (h.l.getD j default).c) rfl ?_)
          refine Sat.go (Eq.refl _) (NS.ite (fun f => ?_) (fun f => ?_))
          · have f : nmE (h.l.getD k default).c (h.l.getD j default).c = true := f
            refine Sat.go (Eq.refl _) (NS.need (by simp; omega) ?_)
            refine Sat.go (Eq.refl _) (NS.call (newer_ok (h.l.getD j default) (h.l.getD k default)) rfl ?_)
            refine Sat.go (Eq.refl _) (NS.next ⟨j + 1, c⟩ (by simp; omega) ?_)
            exact weak_hd [] rfl ⟨rfl, rfl, rfl, rfl, ren_b (.inl rfl) (by rw [hsj]; rw [d.1, d.2, f]; simp), ren_int rfl (i64_k (k := j) (n := h.l.length) c (by omega)), trivial⟩ ⟨⟨_, rfl, renHis _ _⟩, ren_row rfl rfl (fun _ _ _ _ => rfl), ⟨_, rfl, renChg _ _⟩, trivial⟩ trivial (by kernel_rfl)
          · have f : nmE (h.l.getD k default).c (h.l.getD j default).c = false := f
            refine Sat.go (Eq.refl _) (NS.next ⟨j + 1, c⟩ (by simp; omega) ?_)
            exact weak_hd [] rfl ⟨rfl, rfl, rfl, rfl, ren_b (.inr rfl) (by rw [hsj]; rw [d.1, d.2, f]; simp), ren_int rfl (i64_k (k := j) (n := h.l.length) c (by omega)), trivial⟩ ⟨⟨_, rfl, renHis _ _⟩, ren_row rfl rfl (fun _ _ _ _ => rfl), ⟨_, rfl, renChg _ _⟩, trivial⟩ trivial (by kernel_rfl)
        · have d : ((h.l.getD k default).kind == 1 && !(h.l.take j).any (fun y => nmE (h.l.getD k default).c y.c && newr y (h.l.getD k default))) = false := d
          have d2 : (h.l.getD k default).kind == 1 → (h.l.take j).any (fun y => nmE (h.l.getD k default).c y.c && newr y (h.l.getD k default)) = true := by
            intro e; rw [e, Bool.true_and] at d; simpa using d
          refine Sat.go (Eq.refl _) (NS.next ⟨j + 1, c⟩ (by simp; omega) ?_)
          exact weak_hd [] rfl ⟨rfl, rfl, rfl, rfl, ren_b (.inr rfl) (by rw [hsj]; (cases hq : ((h.l.getD k default).kind == 1) with | false => rfl | true => rw [d2 hq]; rfl)), ren_int rfl (i64_k (k := j) (n := h.l.length) c (by omega)), trivial⟩ ⟨⟨_, rfl, renHis _ _⟩, ren_row rfl rfl (fun _ _ _ _ => rfl), ⟨_, rfl, renChg _ _⟩, trivial⟩ trivial (by kernel_rfl)
      have c : h.l.length ≤ j := by simpa using c
      refine Sat.go (Eq.refl _) (NS.leave rfl (Eq.refl _) ?_)
      rw [take_all c]
      refine Sat.go (Eq.refl _) (NS.ite (fun d => ?_) (fun d => ?_))
      · have d : isCand h.l (h.l.getD k default) = false := not_t d
        rw [if_neg (by rw [d]; simp)] at hcand
        refine Sat.go (Eq.refl _) (NS.next ⟨k + 1, a⟩ (by show h.l.length - (k + 1) < h.l.length - k; omega) ?_)
        refine weak_hd [] rfl ⟨rfl, rfl, ren_int rfl (i64_k (k := k) (n := h.l.length) a (by omega)), trivial⟩ ⟨⟨_, rfl, renHis _ _⟩, ?_, trivial⟩ trivial (by kernel_rfl)
        rw [hcand]
        exact ren_row rfl rfl fun _ _ _ _ => rfl
      have d : isCand h.l (h.l.getD k default) = true := not_f d
      rw [if_pos d] at hcand
      refine Sat.go (Eq.refl _) ?_
      refine NS.loop (σ := { p : Nat // p ≤ (candK h.l k).length ∧ insS (candK h.l k) (h.l.getD k default) = (candK h.l k).take p ++ insS ((candK h.l k).drop p) (h.l.getD k default) }) (fun p => [(1, .ptr 1 0), (3, .own 3), (4, .int .i64 k), (5, .ptr 5 0), (8, .int .i64 p.1)]) (fun p => [(1, .box h.cells), (3, .row 52 11 (candK h.l k).length (rowL Chg.cells (candK h.l k))), (5, .box (h.l.getD k default).cells)]) (fun p => (candK h.l k).length - p.1) ⟨0, Nat.zero_le _, by simp⟩ ?_ ?_
      · exact weak_hd [] rfl ⟨rfl, rfl, rfl, rfl, rfl, trivial⟩ ⟨⟨_, rfl, renHis _ _⟩, ren_row rfl rfl (fun _ _ _ _ => rfl), ⟨_, rfl, renChg _ _⟩, trivial⟩ trivial (by kernel_rfl)
      rintro ⟨p, ha, hs⟩
      refine Sat.go (Eq.refl _) (NS.chk (by kernel_rfl) ?_)
      refine Sat.go (Eq.refl _) (NS.ite (fun b => ?_) (fun b => ?_))
      · have b : p < (candK h.l k).length := by simpa using b
        have hd := drop_cons b
        repeat' (first | (refine Sat.go (Eq.refl _) (NS.chk (by kernel_rfl) ?_)) | (refine Sat.go (Eq.refl _) (NS.need (by simp; omega) ?_)))
        refine Sat.go (Eq.refl _) (NS.call (newer_ok ((candK h.l k).getD p default) (h.l.getD k default)) rfl ?_)
        refine Sat.go (Eq.refl _) (NS.ite (fun c2 => ?_) (fun c2 => ?_))
        · have c2 : newr ((candK h.l k).getD p default) (h.l.getD k default) = true := c2
          rw [hd, insS, if_pos c2] at hs
          refine Sat.go (Eq.refl _) (NS.next ⟨p + 1, b, by rw [hs, take_snoc b, List.append_assoc]; rfl⟩ (by show (candK h.l k).length - (p + 1) < (candK h.l k).length - p; omega) ?_)
          exact weak_hd [] rfl ⟨rfl, rfl, rfl, rfl, ren_int rfl (i64_k (k := p) (n := (candK h.l k).length) b (by omega)), trivial⟩ ⟨⟨_, rfl, renHis _ _⟩, ren_row rfl rfl (fun _ _ _ _ => rfl), ⟨_, rfl, renChg _ _⟩, trivial⟩ trivial (by kernel_rfl)
        · have c2 : newr ((candK h.l k).getD p default) (h.l.getD k default) = false := c2
          have hs2 := hs
          rw [hd, insS, if_neg (by rw [c2]; simp), ← hd] at hs2
          obtain ⟨r1, r2⟩ := insS_at ha hs2
          refine Sat.go (Eq.refl _) (NS.leave rfl (Eq.refl _) ?_)
          refine Sat.go (Eq.refl _) (NS.need (decide_eq_true (by simp only [maxRow]; omega)) ?_)
          refine Sat.go (Eq.refl _) ?_
          refine NS.loop (σ := { j : Nat // p ≤ j ∧ j ≤ (candK h.l k).length }) (fun j => [(1, .ptr 1 0), (3, .own 73), (4, .int .i64 k), (5, .ptr 5 0), (8, .int .i64 p), (9, .int .i64 j.1)]) (fun j => [(1, .box h.cells), (5, .box (h.l.getD k default).cells), (73, .row 52 11 ((candK h.l k).length + 1) (shfR (candK h.l k) (h.l.getD k default) j.1))]) (fun j => j.1) ⟨(candK h.l k).length, ha, Nat.le_refl _⟩ ?_ ?_
          · refine weak_hd [] rfl ⟨rfl, rfl, rfl, rfl, rfl, ren_int rfl (i64_s (k := (candK h.l k).length) (n := 1000001) (by omega) (by omega)), trivial⟩ ⟨⟨_, rfl, renHis _ _⟩, ⟨_, rfl, renChg _ _⟩, ren_row rfl rfl ?_, trivial⟩ trivial (by kernel_rfl)
            intro i hi q hq
            have h1 := row_snoc (cells := Chg.cells) (l := candK h.l k) (x := h.l.getD k default) (c := 11) rfl i hi q hq
            refine h1.trans ?_
            unfold shfR
            rw [if_pos (show i ≤ (candK h.l k).length by omega)]; rfl
          rintro ⟨j, hpj, hj⟩
          refine Sat.go (Eq.refl _) (NS.ite (fun e => ?_) (fun e => ?_))
          · have e : p < j := by simpa using e
            obtain ⟨j, rfl⟩ : ∃ i, j = i + 1 := ⟨j - 1, by omega⟩
            have hw : IntKind.i64.wrap (((j + 1 : Nat) : Int) - 1) = (j : Int) := i64_s (k := j) (n := 1000001) (by omega) (by omega)
            repeat' (first | (refine Sat.go (Eq.refl _) (NS.chk (by kernel_rfl) ?_)) | (refine Sat.go (Eq.refl _) (NS.need (by simp only [hw, decide_eq_true_eq, Int.toNat_natCast]; omega) ?_)))
            refine Sat.go (Eq.refl _) (NS.next ⟨j, by omega, by omega⟩ (Nat.lt_succ_self j) ?_)
            refine weak_hd [] rfl ⟨rfl, rfl, rfl, rfl, rfl, ren_int rfl hw, trivial⟩ ⟨⟨_, rfl, renHis _ _⟩, ⟨_, rfl, renChg _ _⟩, ren_row rfl rfl ?_, trivial⟩ trivial (by kernel_rfl)
            intro i hi q hq
            rw [hw]
            show (if i = ((j + 1 : Nat) : Int).toNat ∧ 0 ≤ q ∧ q < 0 + 11 then getA (Chg.cells (if ((j : Nat) : Int).toNat ≤ j + 1 then (candK h.l k ++ [h.l.getD k default]).getD ((j : Nat) : Int).toNat default else (candK h.l k).getD (((j : Nat) : Int).toNat - 1) default)) (q - 0) else shfR (candK h.l k) (h.l.getD k default) (j + 1) i q) = shfR (candK h.l k) (h.l.getD k default) j i q
            rw [Int.toNat_natCast, Int.toNat_natCast]
            unfold shfR
            by_cases f : i = j + 1
            · rw [if_pos ⟨f, by omega, by omega⟩, if_pos (by omega), if_neg (by omega), f, getD_append_left (by omega)]; rfl
            · rw [if_neg (by omega)]
              by_cases f2 : i ≤ j
              · rw [if_pos (by omega), if_pos f2]
              · rw [if_neg (by omega), if_neg (by omega)]
          · have e : j ≤ p := by simpa using e
            obtain rfl : j = p := by omega
            refine Sat.go (Eq.refl _) (NS.leave rfl (Eq.refl _) ?_)
            repeat' (first | (refine Sat.go (Eq.refl _) (NS.chk (by kernel_rfl) ?_)) | (refine Sat.go (Eq.refl _) (NS.need (by simp; omega) ?_)))
            refine Sat.go (Eq.refl _) (NS.next ⟨k + 1, a⟩ (by show h.l.length - (k + 1) < h.l.length - k; omega) ?_)
            refine weak_hd [(3, 73)] rfl ⟨rfl, rfl, ren_int rfl (i64_k (k := k) (n := h.l.length) a (by omega)), trivial⟩ ⟨⟨_, rfl, renHis _ _⟩, ?_, trivial⟩ trivial (by kernel_rfl)
            rw [hcand]
            refine ren_row rfl r1.symm fun i hi q hq => ?_
            show (if i = ((j : Nat) : Int).toNat ∧ 0 ≤ q ∧ q < 0 + 11 then getA (h.l.getD k default).cells (q - 0) else shfR (candK h.l k) (h.l.getD k default) j i q) = getA (Chg.cells ((insS (candK h.l k) (h.l.getD k default)).getD i default)) q
            rw [r2 i (by rw [r1] at hi; exact hi), Int.toNat_natCast]
            unfold shfR
            by_cases f : i = j
            · rw [if_pos ⟨f, by omega, by omega⟩, if_pos f]; rfl
            · rw [if_neg (by omega), if_neg f]
              by_cases f2 : i < j
              · rw [if_pos (by omega), if_pos f2, getD_append_left (by omega)]
              · rw [if_neg (by omega), if_neg f2]
      · have b : (candK h.l k).length ≤ p := by simpa using b
        have hs2 := hs
        rw [List.drop_eq_nil_of_le b] at hs2
        have hs2 : insS (candK h.l k) (h.l.getD k default) = (candK h.l k).take p ++ h.l.getD k default :: (candK h.l k).drop p := by rw [List.drop_eq_nil_of_le b]; exact hs2
        obtain ⟨r1, r2⟩ := insS_at ha hs2
        refine Sat.go (Eq.refl _) (NS.leave rfl (Eq.refl _) ?_)
        refine Sat.go (Eq.refl _) (NS.need (decide_eq_true (by simp only [maxRow]; omega)) ?_)
        refine Sat.go (Eq.refl _) ?_
        refine NS.loop (σ := { j : Nat // p ≤ j ∧ j ≤ (candK h.l k).length }) (fun j => [(1, .ptr 1 0), (3, .own 73), (4, .int .i64 k), (5, .ptr 5 0), (8, .int .i64 p), (9, .int .i64 j.1)]) (fun j => [(1, .box h.cells), (5, .box (h.l.getD k default).cells), (73, .row 52 11 ((candK h.l k).length + 1) (shfR (candK h.l k) (h.l.getD k default) j.1))]) (fun j => j.1) ⟨(candK h.l k).length, ha, Nat.le_refl _⟩ ?_ ?_
        · refine weak_hd [] rfl ⟨rfl, rfl, rfl, rfl, rfl, ren_int rfl (i64_s (k := (candK h.l k).length) (n := 1000001) (by omega) (by omega)), trivial⟩ ⟨⟨_, rfl, renHis _ _⟩, ⟨_, rfl, renChg _ _⟩, ren_row rfl rfl ?_, trivial⟩ trivial (by kernel_rfl)
          intro i hi q hq
          have h1 := row_snoc (cells := Chg.cells) (l := candK h.l k) (x := h.l.getD k default) (c := 11) rfl i hi q hq
          refine h1.trans ?_
          unfold shfR
          rw [if_pos (show i ≤ (candK h.l k).length by omega)]; rfl
        rintro ⟨j, hpj, hj⟩
        refine Sat.go (Eq.refl _) (NS.ite (fun e => ?_) (fun e => ?_))
        · have e : p < j := by simpa using e
          obtain ⟨j, rfl⟩ : ∃ i, j = i + 1 := ⟨j - 1, by omega⟩
          have hw : IntKind.i64.wrap (((j + 1 : Nat) : Int) - 1) = (j : Int) := i64_s (k := j) (n := 1000001) (by omega) (by omega)
          repeat' (first | (refine Sat.go (Eq.refl _) (NS.chk (by kernel_rfl) ?_)) | (refine Sat.go (Eq.refl _) (NS.need (by simp only [hw, decide_eq_true_eq, Int.toNat_natCast]; omega) ?_)))
          refine Sat.go (Eq.refl _) (NS.next ⟨j, by omega, by omega⟩ (Nat.lt_succ_self j) ?_)
          refine weak_hd [] rfl ⟨rfl, rfl, rfl, rfl, rfl, ren_int rfl hw, trivial⟩ ⟨⟨_, rfl, renHis _ _⟩, ⟨_, rfl, renChg _ _⟩, ren_row rfl rfl ?_, trivial⟩ trivial (by kernel_rfl)
          intro i hi q hq
          rw [hw]
          show (if i = ((j + 1 : Nat) : Int).toNat ∧ 0 ≤ q ∧ q < 0 + 11 then getA (Chg.cells (if ((j : Nat) : Int).toNat ≤ j + 1 then (candK h.l k ++ [h.l.getD k default]).getD ((j : Nat) : Int).toNat default else (candK h.l k).getD (((j : Nat) : Int).toNat - 1) default)) (q - 0) else shfR (candK h.l k) (h.l.getD k default) (j + 1) i q) = shfR (candK h.l k) (h.l.getD k default) j i q
          rw [Int.toNat_natCast, Int.toNat_natCast]
          unfold shfR
          by_cases f : i = j + 1
          · rw [if_pos ⟨f, by omega, by omega⟩, if_pos (by omega), if_neg (by omega), f, getD_append_left (by omega)]; rfl
          · rw [if_neg (by omega)]
            by_cases f2 : i ≤ j
            · rw [if_pos (by omega), if_pos f2]
            · rw [if_neg (by omega), if_neg (by omega)]
        · have e : j ≤ p := by simpa using e
          obtain rfl : j = p := by omega
          refine Sat.go (Eq.refl _) (NS.leave rfl (Eq.refl _) ?_)
          repeat' (first | (refine Sat.go (Eq.refl _) (NS.chk (by kernel_rfl) ?_)) | (refine Sat.go (Eq.refl _) (NS.need (by simp; omega) ?_)))
          refine Sat.go (Eq.refl _) (NS.next ⟨k + 1, a⟩ (by show h.l.length - (k + 1) < h.l.length - k; omega) ?_)
          refine weak_hd [(3, 73)] rfl ⟨rfl, rfl, ren_int rfl (i64_k (k := k) (n := h.l.length) a (by omega)), trivial⟩ ⟨⟨_, rfl, renHis _ _⟩, ?_, trivial⟩ trivial (by kernel_rfl)
          rw [hcand]
          refine ren_row rfl r1.symm fun i hi q hq => ?_
          show (if i = ((j : Nat) : Int).toNat ∧ 0 ≤ q ∧ q < 0 + 11 then getA (h.l.getD k default).cells (q - 0) else shfR (candK h.l k) (h.l.getD k default) j i q) = getA (Chg.cells ((insS (candK h.l k) (h.l.getD k default)).getD i default)) q
          rw [r2 i (by rw [r1] at hi; exact hi), Int.toNat_natCast]
          unfold shfR
          by_cases f : i = j
          · rw [if_pos ⟨f, by omega, by omega⟩, if_pos f]; rfl
          · rw [if_neg (by omega), if_neg f]
            by_cases f2 : i < j
            · rw [if_pos (by omega), if_pos f2, getD_append_left (by omega)]
            · rw [if_neg (by omega), if_neg f2]
  · have a : h.l.length ≤ k := by simpa using a
    obtain rfl : k = h.l.length := by omega
    refine Sat.go (Eq.refl _) (NS.leave rfl (Eq.refl _) ?_)
    refine Sat.go (Eq.refl _) (NS.retRow 3 rfl rfl (LeA.refl _) ⟨rfl, rfl, rfl, fun _ _ _ _ => rfl⟩ fun _ _ _ _ => flatChg _ _ _)
theorem rTaken_row (h : His) (g : GoodH h.nodes h.l) (hl : h.l.length ≤ 1000000) : FnOK Try.prog 58 [.agg h.cells] (.own 0, some (.row 26 7 (conN h.l).length (rowL Ctc.cells (conN h.l)))) := by
  have hcl : (candL h.l).length ≤ 1000000 := Nat.le_trans (candK_len _ _) hl
  have hap := conL_apart g
  refine fn_ok CN rfl (by kernel_rfl) Try.func58 rfl ?_
  refine Sat.go (Eq.refl _) (NS.call ((rCands_row h hl).frz) rfl ?_)
  refine Sat.go (Eq.refl _) ?_
  refine NS.loop (σ := { k : Nat // k ≤ (candL h.l).length }) (fun k => [(3, slChg (candL h.l)), (4, .own 4), (5, .int .i64 k.1)]) (fun k => [(4, .row 26 7 (tkK (candL h.l) k.1).length (rowL Ctc.cells (tkK (candL h.l) k.1)))]) (fun k => (candL h.l).length - k.1) ⟨0, Nat.zero_le _⟩ ?_ ?_
  · refine (weak_promote 4 4 26 7 (rowL Ctc.cells []) rfl rfl).trans ?_
    exact weak_hd [] rfl ⟨rfl, rfl, rfl, trivial⟩ ⟨ren_row rfl rfl fun _ _ _ _ => rfl, trivial⟩ trivial (by kernel_rfl)
  · rintro ⟨k, hk⟩
    have htl := tkK_len (candL h.l) k
    refine Sat.go (Eq.refl _) (NS.ite (fun a => ?_) (fun a => ?_))
    · have a : k < (candL h.l).length := by simpa using a
      have hsn : tkK (candL h.l) (k + 1) = if (tkK (candL h.l) k).any (fun d => ovl d ((candL h.l).getD k default).c) then tkK (candL h.l) k else tkK (candL h.l) k ++ [((candL h.l).getD k default).c] := rfl
      refine Sat.go (Eq.refl _) ?_
      refine NS.loop (σ := { j : Nat // j ≤ (tkK (candL h.l) k).length }) (fun j => [(3, slChg (candL h.l)), (4, .own 4), (5, .int .i64 k), (6, .bool (((tkK (candL h.l) k).take j.1).any (fun d => ovl d ((candL h.l).getD k default).c))), (7, .int .i64 j.1)]) (fun j => [(4, .row 26 7 (tkK (candL h.l) k).length (rowL Ctc.cells (tkK (candL h.l) k)))]) (fun j => (tkK (candL h.l) k).length - j.1) ⟨0, Nat.zero_le _⟩ ?_ ?_
      · exact weak_hd [] rfl ⟨rfl, rfl, rfl, ren_b (.inr rfl) (by simp), rfl, trivial⟩ ⟨ren_row rfl rfl fun _ _ _ _ => rfl, trivial⟩ trivial (by kernel_rfl)
      · rintro ⟨j, hj⟩
        refine Sat.go (Eq.refl _) (NS.ite (fun c => ?_) (fun c => ?_))
        · have c : j < (tkK (candL h.l) k).length := by simpa using c
          have hsj := any_snoc (p := fun d => ovl d ((candL h.l).getD k default).c) c
          refine Sat.go (Eq.refl _) (NS.chk (by kernel_rfl) ?_)
          refine Sat.go (Eq.refl _) (NS.ite (fun d => ?_) (fun d => ?_))
          · have d : ((tkK (candL h.l) k).take j).any (fun d => ovl d ((candL h.l).getD k default).c) = true := d
            refine Sat.go (Eq.refl _) (NS.next ⟨j + 1, c⟩ (by show (tkK (candL h.l) k).length - (j + 1) < (tkK (candL h.l) k).length - j; omega) ?_)
            exact weak_hd [] rfl ⟨rfl, rfl, rfl, ren_b (.inr rfl) (by rw [hsj, d]; rfl), ren_int rfl (i64_k (k := j) (n := (tkK (candL h.l) k).length) c (by omega)), trivial⟩ ⟨ren_row rfl rfl fun _ _ _ _ => rfl, trivial⟩ trivial (by kernel_rfl)
          · have d : ((tkK (candL h.l) k).take j).any (fun d => ovl d ((candL h.l).getD k default).c) = false := d
            repeat' (first | (refine Sat.go (Eq.refl _) (NS.chk (by kernel_rfl) ?_)) | (refine Sat.go (Eq.refl _) (NS.need (by simp; omega) ?_)))
            refine Sat.go (Eq.refl _) (NS.call (rOverlap_ok ((candL h.l).getD k default).c ((tkK (candL h.l) k).getD j default)) rfl ?_)
            refine Sat.go (Eq.refl _) (NS.next ⟨j + 1, c⟩ (by show (tkK (candL h.l) k).length - (j + 1) < (tkK (candL h.l) k).length - j; omega) ?_)
            exact weak_hd [] rfl ⟨rfl, rfl, rfl, ren_b (.inl rfl) (by rw [hsj, d, ovl_symm]; rfl), ren_int rfl (i64_k (k := j) (n := (tkK (candL h.l) k).length) c (by omega)), trivial⟩ ⟨ren_row rfl rfl fun _ _ _ _ => rfl, trivial⟩ trivial (by kernel_rfl)
        have c : (tkK (candL h.l) k).length ≤ j := by simpa using c
        refine Sat.go (Eq.refl _) (NS.leave rfl (Eq.refl _) ?_)
        rw [take_all c]
        refine Sat.go (Eq.refl _) (NS.ite (fun d => ?_) (fun d => ?_))
        · have d : (tkK (candL h.l) k).any (fun d => ovl d ((candL h.l).getD k default).c) = true := d
          rw [if_pos d] at hsn
          refine Sat.go (Eq.refl _) (NS.next ⟨k + 1, a⟩ (by show (candL h.l).length - (k + 1) < (candL h.l).length - k; omega) ?_)
          refine weak_hd [] rfl ⟨rfl, rfl, ren_int rfl (i64_k (k := k) (n := (candL h.l).length) a (by omega)), trivial⟩ ⟨?_, trivial⟩ trivial (by kernel_rfl)
          rw [hsn]
          exact ren_row rfl rfl fun _ _ _ _ => rfl
        · have d : (tkK (candL h.l) k).any (fun d => ovl d ((candL h.l).getD k default).c) = false := d
          rw [if_neg (by rw [d]; simp)] at hsn
          refine Sat.go (Eq.refl _) (NS.need (by simp; omega) ?_)
          refine Sat.go (Eq.refl _) (NS.need (decide_eq_true (by simp only [maxRow]; omega)) ?_)
          refine Sat.go (Eq.refl _) (NS.next ⟨k + 1, a⟩ (by show (candL h.l).length - (k + 1) < (candL h.l).length - k; omega) ?_)
          refine weak_hd [(4, 45)] rfl ⟨rfl, rfl, ren_int rfl (i64_k (k := k) (n := (candL h.l).length) a (by omega)), trivial⟩ ⟨?_, trivial⟩ trivial (by kernel_rfl)
          rw [hsn]
          exact ren_row rfl (by simp) fun i hi j hj => row_snoc (cells := Ctc.cells) rfl i (by simpa using hi) j hj
    have a : (candL h.l).length ≤ k := by simpa using a
    obtain rfl : k = (candL h.l).length := by omega
    have hcn : tkK (candL h.l) (candL h.l).length = conL h.l := rfl
    have hcl2 : (conL h.l).length ≤ 1000000 := Nat.le_trans (conL_len _) hl
    refine Sat.go (Eq.refl _) (NS.leave rfl (Eq.refl _) ?_)
    refine Sat.go (Eq.refl _) ?_
    refine NS.loop (σ := { p : List Ctc × Nat // p.1.Perm (conL h.l) ∧ SrtT p.1 p.2 ∧ 1 ≤ p.2 ∧ p.2 ≤ (conL h.l).length + 1 }) (fun p => [(4, .own 4), (8, .int .i64 p.1.2)]) (fun p => [(4, .row 26 7 (conL h.l).length (rowL Ctc.cells p.1.1))]) (fun p => (conL h.l).length + 1 - p.1.2) ⟨(conL h.l, 1), List.Perm.refl _, fun p q h1 h2 => by omega, by show 1 ≤ 1; omega, by show 1 ≤ _; omega⟩ ?_ ?_
    · exact weak_hd [] rfl ⟨rfl, rfl, trivial⟩ ⟨ren_row rfl rfl fun _ _ _ _ => rfl, trivial⟩ trivial (by kernel_rfl)
    rintro ⟨⟨L, i⟩, hp, hs, h1, h2⟩
    have hp : L.Perm (conL h.l) := hp
    have hs : SrtT L i := hs
    have h1 : 1 ≤ i := h1
    have h2 : i ≤ (conL h.l).length + 1 := h2
    have hll := hp.length_eq
    refine Sat.go (Eq.refl _) (NS.ite (fun b => ?_) (fun b => ?_))
    · have b : i < (conL h.l).length := by simpa using b
      refine Sat.go (Eq.refl _) ?_
      refine NS.loop (σ := { p : List Ctc × Nat // p.1.Perm (conL h.l) ∧ SrtJ p.1 i p.2 }) (fun p => [(4, .own 4), (8, .int .i64 i), (9, .int .i64 p.1.2)]) (fun p => [(4, .row 26 7 (conL h.l).length (rowL Ctc.cells p.1.1))]) (fun p => p.1.2) ⟨(L, i), hp, SrtJ.start hs⟩ ?_ ?_
      · exact weak_hd [] rfl ⟨rfl, rfl, rfl, trivial⟩ ⟨ren_row rfl rfl fun _ _ _ _ => rfl, trivial⟩ trivial (by kernel_rfl)
      rintro ⟨⟨M, j⟩, hm', hj'⟩
      have hm : M.Perm (conL h.l) := hm'
      have hj : SrtJ M i j := hj'
      have hle := hj.le
      have hml := hm.length_eq
      refine Sat.go (Eq.refl _) (NS.chk (by kernel_rfl) ?_)
      rcases j with _ | j
      · refine Sat.go (Eq.refl _) (NS.no (rfl) ?_)
        refine Sat.go (Eq.refl _) (NS.leave rfl (Eq.refl _) ?_)
        refine Sat.go (Eq.refl _) (NS.next ⟨(M, i + 1), hm, hj.stop (.inl rfl), by show 1 ≤ i + 1; omega, by show i + 1 ≤ _; omega⟩ (by show (conL h.l).length + 1 - (i + 1) < (conL h.l).length + 1 - i; omega) ?_)
        exact weak_hd [] rfl ⟨rfl, ren_int rfl (i64_k (k := i) (n := (conL h.l).length) b (by omega)), trivial⟩ ⟨ren_row rfl rfl fun _ _ _ _ => rfl, trivial⟩ trivial (by kernel_rfl)
      · have hw : IntKind.i64.wrap (((j + 1 : Nat) : Int) - 1) = (j : Int) := i64_s (k := j) (n := 1000001) (by omega) (by omega)
        refine Sat.go (Eq.refl _) (NS.yes (by simp) ?_)
        repeat' (first | (refine Sat.go (Eq.refl _) (NS.chk (by kernel_rfl) ?_)) | (refine Sat.go (Eq.refl _) (NS.need (by (try dsimp only); simp only [hw, Int.toNat_natCast, decide_eq_true_eq]; omega) ?_)))
        refine Sat.go (Eq.refl _) (NS.call (less_ok (M.getD (j + 1) default) (M.getD (IntKind.i64.wrap (((j + 1 : Nat) : Int) - 1)).toNat default)) rfl ?_)
        refine Sat.go (Eq.refl _) (NS.ite (fun c => ?_) (fun c => ?_))
        · have c : decide (byN (M.getD (j + 1) default) (M.getD (IntKind.i64.wrap (((j + 1 : Nat) : Int) - 1)).toNat default) < 0) = true := c
          rw [hw, Int.toNat_natCast, decide_eq_true_eq, byN_neg] at c
          repeat' (first | (refine Sat.go (Eq.refl _) (NS.chk (by kernel_rfl) ?_)) | (refine Sat.go (Eq.refl _) (NS.need (by (try dsimp only); simp only [hw, Int.toNat_natCast, decide_eq_true_eq]; omega) ?_)))
          refine Sat.go (Eq.refl _) (NS.next ⟨(swp M j, j), (swp_perm (by omega)).trans hm, hj.step (by omega) c⟩ (Nat.lt_succ_self j) ?_)
          refine weak_hd [] rfl ⟨rfl, rfl, ren_int rfl hw, trivial⟩ ⟨ren_row rfl rfl ?_, trivial⟩ trivial (by kernel_rfl)
          intro q hq r hr
          rw [hw]
          refine Eq.trans ?_ (row_setG (cells := Ctc.cells) (c := 7) (M.set (j + 1) (M.getD j default)) j (M.getD (j + 1) default) (by simp; omega) q r hr)
          rw [← row_setG (cells := Ctc.cells) (c := 7) M (j + 1) (M.getD j default) (by omega) q r hr]
          rfl
        · have c : decide (byN (M.getD (j + 1) default) (M.getD (IntKind.i64.wrap (((j + 1 : Nat) : Int) - 1)).toNat default) < 0) = false := c
          rw [hw, Int.toNat_natCast, decide_eq_false_iff_not, byN_neg] at c
          have hd : ltN (M.getD j default) (M.getD (j + 1) default) := by
            rcases apart_ltN (apart_get hm hap (p := j) (q := j + 1) (by omega) (by omega)) with h3 | h3
            · exact h3
            · exact absurd h3 c
          refine Sat.go (Eq.refl _) (NS.leave rfl (Eq.refl _) ?_)
          refine Sat.go (Eq.refl _) (NS.next ⟨(M, i + 1), hm, hj.stop (.inr hd), by show 1 ≤ i + 1; omega, by show i + 1 ≤ _; omega⟩ (by show (conL h.l).length + 1 - (i + 1) < (conL h.l).length + 1 - i; omega) ?_)
          exact weak_hd [] rfl ⟨rfl, ren_int rfl (i64_k (k := i) (n := (conL h.l).length) b (by omega)), trivial⟩ ⟨ren_row rfl rfl fun _ _ _ _ => rfl, trivial⟩ trivial (by kernel_rfl)
    · have b : (conL h.l).length ≤ i := by simpa using b
      obtain rfl : L = conN h.l := conN_eq g hp (srtT_all fun p q h3 h4 => hs p q h3 (by omega))
      refine Sat.go (Eq.refl _) (NS.leave rfl (Eq.refl _) ?_)
      refine Sat.go (Eq.refl _) (NS.retRow 4 rfl rfl (LeA.refl _) ⟨rfl, rfl, hll.symm, fun _ _ _ _ => rfl⟩ fun _ _ _ _ => flatCtc _ _ _)
theorem rContacts_ok (h : His) (hl : h.l.length ≤ 1000000) : FnOK Try.prog 23 [.agg h.cells] (conR (consM h), none) := by
  have h0 : ∀ r, r = consM h → FnOK Try.prog 23 [.agg h.cells] (conR r, none) := by
    intro r hr
    refine fn_ok CN rfl (by kernel_rfl) Try.func23 rfl ?_
    refine Sat.go (Eq.refl _) (NS.call (rCheck_ok h) rfl ?_)
    refine Sat.go (Eq.refl _) (NS.ite (fun h1 => ?_) (fun h1 => ?_))
    · rw [hr]; unfold consM; rw [if_pos h1]
      exact Sat.go (Eq.refl _) (NS.ret rfl rfl (conR_le nil_ctc))
    have g := chkHi_good (h := h) (by simpa using h1)
    have h1 : ¬ (chkHi h != 0) = true := by rw [show (chkHi h != 0) = false from h1]; simp
    have hcl : (conN h.l).length = (conL h.l).length := (srtN_perm _).length_eq
    refine Sat.go (Eq.refl _) (NS.call ((rTaken_row h g hl).frz) rfl ?_)
    refine Sat.go (Eq.refl _) (NS.ite (fun h2 => ?_) (fun h2 => ?_))
    · have h2 : decide (((conN h.l).length : Int) > 64) = true := h2
      rw [hcl] at h2
      rw [hr]; unfold consM; rw [if_neg h1, if_pos h2]
      exact Sat.go (Eq.refl _) (NS.ret rfl rfl (conR_le nil_ctc))
    have h2 : decide (((conN h.l).length : Int) > 64) = false := h2
    rw [hcl] at h2
    rw [hr]; unfold consM; rw [if_neg h1, if_neg (by rw [h2]; simp)]
    exact Sat.go (Eq.refl _) (NS.ret rfl rfl (LeA.refl _))
  exact h0 _ rfl
theorem rRemove_ok (h : His) (o : Int) (c : Ctc) (hl : h.l.length ≤ 999) : FnOK Try.prog 16 [.agg h.cells, .int .i64 o, .agg c.cells] (hisR (remM h o c), none) := by
  have h0 : ∀ r, r = remM h o c → FnOK Try.prog 16 [.agg h.cells, .int .i64 o, .agg c.cells] (hisR r, none) := by
    intro r hr
    refine fn_ok CN rfl (by kernel_rfl) Try.func16 rfl ?_
    refine Sat.go (Eq.refl _) (NS.call (rCheck_ok h) rfl ?_)
    refine Sat.go (Eq.refl _) (NS.ite (fun h1 => ?_) (fun h1 => ?_))
    · rw [hr]; unfold remM; rw [if_pos h1]
      exact Sat.go (Eq.refl _) (NS.ret rfl rfl (hisR_le nil_chg))
    have g := chkHi_good (h := h) (by simpa using h1)
    have h1 : ¬ (chkHi h != 0) = true := by rw [show (chkHi h != 0) = false from h1]; simp
    have hcl : (conN h.l).length = (conL h.l).length := (srtN_perm _).length_eq
    have hll := conL_len h.l
    have hany : (conN h.l).any (fun d => nmE d c) = (conL h.l).any (fun d => nmE d c) := (srtN_perm _).any_eq
    refine Sat.go (Eq.refl _) (NS.call (rNext_ok h o 2 (nameC c) (by omega)) rfl ?_)
    refine Sat.go (Eq.refl _) (NS.call (rValid_ok h.nodes (nextM h.l o 2 (nameC c))) rfl ?_)
    refine Sat.go (Eq.refl _) (NS.ite (fun h2 => ?_) (fun h2 => ?_))
    · rw [hr]; unfold remM; rw [if_neg h1, if_pos h2]
      exact Sat.go (Eq.refl _) (NS.ret rfl rfl (hisR_le nil_chg))
    have h2 : ¬ (!validX h.nodes (nextM h.l o 2 (nameC c))) = true := by rw [show (!validX h.nodes (nextM h.l o 2 (nameC c))) = false from h2]; simp
    refine Sat.go (Eq.refl _) (NS.call ((rTaken_row h g (by omega)).frz) rfl ?_)
    refine Sat.go (Eq.refl _) ?_
    refine NS.loop (σ := { k : Nat // k ≤ (conN h.l).length }) (fun k => [(3, .ptr 3 0), (5, .ptr 5 0), (6, .ptr 6 0), (8, .ptr 8 0), (9, slCtc (conN h.l)), (10, .bool (((conN h.l).take k.1).any (fun d => nmE d c))), (11, .int .i64 k.1)]) (fun k => [(3, .box h.cells), (5, .box c.cells), (6, .box [.int .i64 0, .nils]), (8, .box (nextM h.l o 2 (nameC c)).cells)]) (fun k => (conN h.l).length - k.1) ⟨0, Nat.zero_le _⟩ ?_ ?_
    · exact weak_hd [] rfl ⟨rfl, rfl, rfl, rfl, rfl, ren_b (.inr rfl) (by simp), rfl, trivial⟩ ⟨⟨_, rfl, renHis _ _⟩, ⟨_, rfl, renCtc _ _⟩, ⟨_, rfl, _, _, rfl, rfl, _, _, rfl, rfl, rfl⟩, ⟨_, rfl, renChg _ _⟩, trivial⟩ trivial (by kernel_rfl)
    rintro ⟨k, hk⟩
    refine Sat.go (Eq.refl _) (NS.ite (fun a => ?_) (fun a => ?_))
    · have a : k < (conN h.l).length := by simpa using a
      have hsj := any_snoc (p := fun d => nmE d c) a
      refine Sat.go (Eq.refl _) (NS.chk (by kernel_rfl) ?_)
      refine Sat.go (Eq.refl _) (NS.ite (fun d => ?_) (fun d => ?_))
      · have d : ((conN h.l).take k).any (fun d => nmE d c) = true := d
        refine Sat.go (Eq.refl _) (NS.next ⟨k + 1, a⟩ (by simp; omega) ?_)
        exact weak_hd [] rfl ⟨rfl, rfl, rfl, rfl, rfl, ren_b (.inr rfl) (by rw [hsj, d]; rfl), ren_int rfl (i64_k (k := k) (n := (conN h.l).length) a (by omega)), trivial⟩ ⟨⟨_, rfl, renHis _ _⟩, ⟨_, rfl, renCtc _ _⟩, ⟨_, rfl, _, _, rfl, rfl, _, _, rfl, rfl, rfl⟩, ⟨_, rfl, renChg _ _⟩, trivial⟩ trivial (by kernel_rfl)
      · have d : ((conN h.l).take k).any (fun d => nmE d c) = false := d
        refine Sat.go (Eq.refl _) (NS.need (by simp; omega) ?_)
        refine Sat.go (Eq.refl _) (NS.call (named_ok ((conN h.l).getD k default) c) rfl ?_)
        refine Sat.go (Eq.refl _) (NS.next ⟨k + 1, a⟩ (by simp; omega) ?_)
        exact weak_hd [] rfl ⟨rfl, rfl, rfl, rfl, rfl, ren_b (.inl rfl) (by rw [hsj, d]; rfl), ren_int rfl (i64_k (k := k) (n := (conN h.l).length) a (by omega)), trivial⟩ ⟨⟨_, rfl, renHis _ _⟩, ⟨_, rfl, renCtc _ _⟩, ⟨_, rfl, _, _, rfl, rfl, _, _, rfl, rfl, rfl⟩, ⟨_, rfl, renChg _ _⟩, trivial⟩ trivial (by kernel_rfl)
    · have a : (conN h.l).length ≤ k := by simpa using a
      refine Sat.go (Eq.refl _) (NS.leave rfl (Eq.refl _) ?_)
      rw [take_all a, hany]
      refine Sat.go (Eq.refl _) (NS.ite (fun h3 => ?_) (fun h3 => ?_))
      · rw [hr]; unfold remM; rw [if_neg h1, if_neg h2, if_pos h3]
        exact Sat.go (Eq.refl _) (NS.ret rfl rfl (hisR_le nil_chg))
      have h3 : ¬ (!(conL h.l).any (fun d => nmE d c)) = true := by rw [show (!(conL h.l).any (fun d => nmE d c)) = false from h3]; simp
      refine Sat.go (Eq.refl _) (NS.no (by simp; omega) ?_)
      refine Sat.go (Eq.refl _) (NS.call (insert_ok h.l (nextM h.l o 2 (nameC c)) (by omega)) rfl ?_)
      rw [hr]; unfold remM; rw [if_neg h1, if_neg h2, if_neg h3]
      exact Sat.go (Eq.refl _) (NS.ret rfl rfl (LeA.refl _))
  exact h0 _ rfl
end Go.Proofs.Ythfbahebeembeaa
