/- Insertion sort sorts; what it yields, sorted by number, are all numbers. -/
import Derived.Test.YtkgaaaidmaddnaaOE
import Derived.Test.YtkgaaaidmaddnaaSySort
set_option linter.unusedSimpArgs false
set_option linter.unusedSectionVars false
set_option linter.unusedVariables false
namespace Go.Proofs.Ytkgaaaidmaddnaa
open Go.Sy Go.Mb
set_option linter.unusedVariables false

theorem getD_len {A : List Int} {x : Int} {B : List Int} : (A ++ x :: B).getD A.length default = x := by simp [List.getD]
theorem swp_two (B : List Int) (x y : Int) : swp (B ++ [y, x]) B.length = B ++ [x, y] := by
  unfold swp
  have h1 : (B ++ [y, x]).getD B.length default = y := getD_len
  have h2 : (B ++ [y, x]).getD (B.length + 1) default = x := by simp [List.getD]
  rw [h1, h2]
  apply List.ext_getElem?
  intro k
  simp only [List.getElem?_set, List.length_set, List.length_append, List.length_cons, List.length_nil]
  rcases Nat.lt_trichotomy k B.length with h | h | h
  · rw [if_neg (by omega), if_neg (by omega), List.getElem?_append_left h, List.getElem?_append_left h]
  · subst h; simp
  · rw [if_neg (by omega)]
    rcases Nat.lt_or_ge k (B.length + 2) with h3 | h3
    · obtain rfl : k = B.length + 1 := by omega
      simp
    · rw [if_neg (by omega), List.getElem?_eq_none (by simp; omega), List.getElem?_eq_none (by simp; omega)]
section
variable {lt : Int → Int → Bool} (has : ∀ x y, lt x y = true → lt y x = false) (htr : ∀ x y z, lt y x = false → lt z y = false → lt z x = false)
include has htr
theorem sink_sorted : ∀ (m : Nat) (B : List Int) (x : Int), B.length = m → B.Pairwise (fun a b => lt b a = false) → (sink lt m (B ++ [x])).Pairwise (fun a b => lt b a = false) ∧ (sink lt m (B ++ [x])).Perm (B ++ [x])
  | 0, B, x, hB, hs => by
    have : B = [] := List.eq_nil_of_length_eq_zero hB
    subst this
    exact ⟨by simp [sink], List.Perm.refl _⟩
  | m + 1, B, x, hB, hs => by
    obtain ⟨C, y, rfl⟩ : ∃ C y, B = C ++ [y] := by
      rcases List.eq_nil_or_concat B with h | ⟨C, y, h⟩
      · subst h; simp at hB
      · exact ⟨C, y, by simpa using h⟩
    have hC : C.length = m := by simpa using hB
    subst hC
    have e : C ++ [y] ++ [x] = C ++ [y, x] := by simp
    have h1 : (C ++ [y, x]).getD C.length default = y := getD_len
    have h2 : (C ++ [y, x]).getD (C.length + 1) default = x := by simp [List.getD]
    rw [List.pairwise_append] at hs
    obtain ⟨hs1, _, hs2⟩ := hs
    unfold sink
    rw [e, h1, h2]
    split
    · rename_i hlt
      rw [swp_two, show C ++ [x, y] = (C ++ [x]) ++ [y] by simp, sink_append _ _ _ _ (by simp)]
      obtain ⟨i1, i2⟩ := sink_sorted C.length C x rfl hs1
      refine ⟨?_, ?_⟩
      · rw [List.pairwise_append]
        refine ⟨i1, by simp, fun a ha b hb => ?_⟩
        obtain rfl := List.mem_singleton.1 hb
        rcases List.mem_append.1 (i2.mem_iff.1 ha) with ha | ha
        · exact hs2 a ha _ (by simp)
        · obtain rfl := List.mem_singleton.1 ha
          exact has _ _ hlt
      · refine (i2.append_right [y]).trans ?_
        rw [List.append_assoc]
        exact List.Perm.append_left C (List.Perm.swap y x [])
    · rename_i hlt
      rw [Bool.not_eq_true] at hlt
      refine ⟨?_, List.Perm.refl _⟩
      rw [← e, List.pairwise_append]
      refine ⟨by rw [List.pairwise_append]; exact ⟨hs1, by simp, hs2⟩, by simp, fun a ha b hb => ?_⟩
      obtain rfl := List.mem_singleton.1 hb
      rcases List.mem_append.1 ha with ha | ha
      · exact htr _ _ _ (hs2 a ha y (by simp)) hlt
      · obtain rfl := List.mem_singleton.1 ha
        exact hlt
theorem upto_snoc (n : Nat) : upto 0 (n + 1) = upto 0 n ++ [(n : Int)] := by
  unfold upto
  rw [show n + 1 - 0 = (n - 0) + 1 by omega, List.range_succ]
  simp
theorem ordR_sorted : ∀ n, (ordR lt n).Pairwise (fun a b => lt b a = false) ∧ (ordR lt n).Perm (upto 0 n)
  | 0 => ⟨by simp [ordR], by simp [ordR, upto]⟩
  | n + 1 => by
    obtain ⟨h1, h2⟩ := ordR_sorted n
    obtain ⟨h3, h4⟩ := sink_sorted has htr n (ordR lt n) n (ordR_len lt n) h1
    refine ⟨h3, h4.trans ?_⟩
    rw [upto_snoc has htr]
    exact h2.append_right _
end
theorem upto_sorted (n : Nat) : (upto 0 n).Pairwise (fun a b : Int => decide (a ≤ b) = true) := by
  unfold upto
  rw [List.pairwise_map]
  exact (List.pairwise_lt_range).imp (fun h => by simp; omega)
theorem srt_perm {l : List Int} {n : Nat} (h : l.Perm (upto 0 n)) : srt l = upto 0 n := by
  unfold srt
  refine List.Perm.eq_of_pairwise (le := fun a b : Int => decide (a ≤ b) = true) (fun a b _ _ h1 h2 => by simp at h1 h2; omega) (List.pairwise_mergeSort (fun a b c h1 h2 => by simp at h1 h2 ⊢; omega) (fun a b => by simp; omega) l) (upto_sorted n) ((List.mergeSort_perm _ _).trans h)
/-- The order of lists of numbers. -/
theorem cmpI_gt (a b : Int) : cmpI a b > 0 ↔ b < a := by
  unfold cmpI
  by_cases h : a < b
  · rw [if_pos h]; simp; omega
  · rw [if_neg h]
    split <;> simp <;> omega
theorem cmpL_anti : ∀ (l m : List Int), l.length = m.length → (cmpL l m < 0 ↔ cmpL m l > 0)
  | [], [], _ => by simp [cmpL]
  | a :: l, b :: m, h => by
    simp only [cmpL]
    by_cases hab : a = b
    · subst hab
      have : cmpI a a = 0 := (cmpI_zero a a).2 rfl
      simp only [this, bne_self_eq_false, Bool.false_eq_true, if_false]
      exact cmpL_anti l m (by simpa using h)
    · have h1 : (cmpI a b != 0) = true := by rw [bne_iff_ne, ne_eq, cmpI_zero]; exact hab
      have h2 : (cmpI b a != 0) = true := by rw [bne_iff_ne, ne_eq, cmpI_zero]; exact fun e => hab e.symm
      rw [if_pos h1, if_pos h2, cmpI_lt, cmpI_gt]
  | [], _ :: _, h => by simp at h
  | _ :: _, [], h => by simp at h
/-- Not less is transitive. -/
theorem cmpL_trans : ∀ (x y z : List Int), x.length = y.length → y.length = z.length → ¬ cmpL y x < 0 → ¬ cmpL z y < 0 → ¬ cmpL z x < 0
  | [], [], [], _, _, _, _ => by simp [cmpL]
  | a :: x, b :: y, c :: z, h, h', h1, h2 => by
    simp only [cmpL] at h1 h2 ⊢
    have key : ∀ (p q : Int) (r : Int), (if (cmpI p q != 0) = true then cmpI p q else r) < 0 ↔ p < q ∨ (p = q ∧ r < 0) := by
      intro p q r
      by_cases hpq : p = q
      · subst hpq
        have : cmpI p p = 0 := (cmpI_zero p p).2 rfl
        simp [this]
      · rw [if_pos (by rw [bne_iff_ne, ne_eq, cmpI_zero]; exact hpq), cmpI_lt]
        constructor
        · exact .inl
        · rintro (h | h)
          · exact h
          · exact (hpq h.1).elim
    rw [key] at h1 h2 ⊢
    rintro (h3 | ⟨h3, h4⟩)
    · by_cases hba : b = a
      · exact h2 (.inl (by omega))
      · by_cases hcb : c < b
        · exact h2 (.inl hcb)
        · exact h1 (.inl (by omega))
    · by_cases hba : b < a
      · exact h1 (.inl hba)
      · by_cases hcb : c < b
        · exact h2 (.inl hcb)
        · have e1 : b = a := by omega
          have e2 : c = b := by omega
          exact cmpL_trans x y z (by simpa using h) (by simpa using h') (fun h => h1 (.inr ⟨e1, h⟩)) (fun h => h2 (.inr ⟨e2, h⟩)) h4
  | [], _ :: _, _, h, _, _, _ => by simp at h
  | _ :: _, [], _, h, _, _, _ => by simp at h
  | [], [], _ :: _, _, h, _, _ => by simp at h
  | _ :: _, _ :: _, [], _, h, _, _ => by simp at h
def keyI (x : Itm) : List Int := -x.prio :: x.expires :: idL x.id
theorem keyI_len (a b : Itm) : (keyI a).length = (keyI b).length := rfl
theorem cmpItm_key (a b : Itm) : cmpItm a b < 0 ↔ cmpL (keyI a) (keyI b) < 0 := by
  unfold cmpItm keyI
  simp only [cmpL, orL]
  have e1 : cmpI (-a.prio) (-b.prio) = cmpI b.prio a.prio := by
    unfold cmpI
    by_cases h1 : b.prio < a.prio
    · rw [if_pos (by omega), if_pos h1]
    · rw [if_neg (by omega), if_neg h1]
      by_cases h2 : b.prio > a.prio
      · rw [if_pos (by omega), if_pos h2]
      · rw [if_neg (by omega), if_neg h2]
  rw [e1]
  split
  · rfl
  split
  · rfl
  unfold cmpId lessId
  by_cases h : cmpL (idL a.id) (idL b.id) < 0
  · simp [h]
  · simp only [h, decide_false, Bool.false_eq_true, if_false, iff_false]
    split <;> split <;> simp
theorem ltD_asymm (d : Dur) (x y : Int) (h : ltD d x y = true) : ltD d y x = false := by
  unfold ltD at h ⊢
  rw [decide_eq_true_eq, cmpItm_key, cmpL_anti _ _ (keyI_len _ _)] at h
  rw [decide_eq_false_iff_not, cmpItm_key]
  omega
theorem ltD_trans (d : Dur) (x y z : Int) (h1 : ltD d y x = false) (h2 : ltD d z y = false) : ltD d z x = false := by
  unfold ltD at h1 h2 ⊢
  rw [decide_eq_false_iff_not, cmpItm_key] at h1 h2 ⊢
  exact cmpL_trans _ _ _ (keyI_len _ _) (keyI_len _ _) h1 h2
theorem ord_fine (d : Dur) (n : Nat) : (ordR (ltD d) n).Pairwise (fun a b => ltD d b a = false) ∧ srt (ordR (ltD d) n) = upto 0 n := by
  obtain ⟨h1, h2⟩ := ordR_sorted (ltD_asymm d) (ltD_trans d) n
  exact ⟨h1, srt_perm h2⟩
theorem upto_getD {n i : Nat} (h : i < n) : (upto 0 n).getD i default = (i : Int) := by
  unfold upto
  simp [List.getD, h]
end Go.Proofs.Ytkgaaaidmaddnaa
