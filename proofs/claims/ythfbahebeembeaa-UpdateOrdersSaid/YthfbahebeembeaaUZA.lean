/- What a change does to a valid history, in plain words. -/
import Derived.Test.YthfbahebeembeaaUZ
set_option linter.unusedSimpArgs false
set_option linter.unusedSectionVars false
set_option linter.unusedVariables false
namespace Go.Mb
open Go.Sy
set_option linter.unusedVariables false
theorem cntO_cons (y : Chg) (l : List Chg) (o : Int) : cntO (y :: l) o = (if y.org == o then 1 else 0) + cntO l o := by
  unfold cntO
  rw [List.filter_cons]
  split <;> simp <;> omega
/-- A change that fits in. -/
structure Fits (p : Option Chg) (l : List Chg) (x : Chg) : Prop where
  cnt : x.cnt = (match p with | some q => if q.org = x.org then q.cnt else 0 | none => 0) + (cntO l x.org : Int) + 1
  stp : ∀ q, p = some q → q.stamp < x.stamp
  sts : ∀ y ∈ l, y.stamp < x.stamp
  le : ∀ q, p = some q → q.org ≤ x.org
theorem Fits.fol {p : Option Chg} {l : List Chg} {x : Chg} (h : Fits p l x) (h0 : cntO l x.org = 0) : folE p x = 0 := by
  have h1 := h.cnt
  rw [h0] at h1
  cases p with
  | none => exact folE_none.2 (by simpa using h1)
  | some q =>
    refine folE_some.2 ?_
    have h2 := h.stp q rfl
    have h3 := h.le q rfl
    simp only at h1
    unfold Nxt
    split at h1 <;> omega
theorem fol_org {q y : Chg} (h : folE (some q) y = 0) : q.org ≤ y.org := by
  have := folE_some.1 h
  unfold Nxt at this; omega
theorem chkL_orgs {n : Int} : ∀ {l : List Chg} {q : Chg}, chkL n (some q) l = 0 → ∀ y ∈ l, q.org ≤ y.org
  | [], q, _ => by simp
  | x :: l, q, h => by
    rw [chkL] at h
    split at h
    · cases h
    · split at h
      · rename_i h2; simp at h2; exact absurd h h2
      · rename_i h2
        have h3 : folE (some q) x = 0 := by simpa using h2
        intro y hy
        rcases List.mem_cons.1 hy with rfl | hy
        · exact fol_org h3
        · exact Int.le_trans (fol_org h3) (chkL_orgs h y hy)
theorem cntO_none {l : List Chg} {o : Int} (h : ∀ y ∈ l, y.org ≠ o) : cntO l o = 0 := by
  unfold cntO
  rw [List.length_eq_zero_iff, List.filter_eq_nil_iff]
  intro y hy
  simpa using h y hy
theorem chkL_ins {n : Int} {x : Chg} (hv : validX n x = true) : ∀ {l : List Chg} {p : Option Chg}, chkL n p l = 0 → Fits p l x → chkL n p (insM l x) = 0
  | [], p, _, hf => by
    show (if !validX n x then (2 : Int) else if folE p x != 0 then folE p x else 0) = 0
    rw [hv, hf.fol rfl]; simp
  | y :: l, p, h, hf => by
    have h0 := h
    rw [chkL] at h
    split at h
    · cases h
    rename_i h1
    split at h
    · rename_i h2; simp at h2; exact absurd h h2
    rename_i h2
    have h2' : folE p y = 0 := by simpa using h2
    have hc := hf.cnt
    rw [cntO_cons] at hc
    unfold insM
    by_cases hb : ltb y x = true
    · rw [if_pos hb, chkL, if_neg h1, if_neg h2]
      have hlt := ltb_iff.1 hb
      unfold ltX at hlt
      refine chkL_ins hv h ⟨?_, fun q hq => ?_, fun z hz => hf.sts z (List.mem_cons_of_mem _ hz), fun q hq => ?_⟩
      · simp only
        by_cases ho : y.org = x.org
        · rw [if_pos ho]
          rw [if_pos (by simpa using ho)] at hc
          cases p with
          | none => have := folE_none.1 h2'; simp only at hc; omega
          | some q =>
            have h3 := folE_some.1 h2'
            have h4 := hf.le q rfl
            unfold Nxt at h3
            simp only at hc
            split at hc <;> omega
        · rw [if_neg ho]
          rw [if_neg (by simpa using ho)] at hc
          cases p with
          | none => simp only at hc; omega
          | some q =>
            have h3 := folE_some.1 h2'
            have h4 := hf.le q rfl
            unfold Nxt at h3
            simp only at hc
            rw [if_neg (by omega)] at hc
            omega
      · injection hq with hq; subst hq; exact hf.sts _ List.mem_cons_self
      · injection hq with hq; subst hq; omega
    · have hb2 : ¬ ltX y x := fun e => hb (ltb_iff.2 e)
      rw [if_neg hb, chkL]
      have ho : x.org < y.org := by
        unfold ltX at hb2
        by_cases ho : y.org = x.org
        · exfalso
          rw [if_pos (by simpa using ho)] at hc
          cases p with
          | none => have := folE_none.1 h2'; simp only at hc; omega
          | some q =>
            have h3 := folE_some.1 h2'
            have h4 := hf.le q rfl
            unfold Nxt at h3
            simp only at hc
            split at hc <;> omega
        · omega
      have hz : cntO (y :: l) x.org = 0 := cntO_none fun z hz => by
        rcases List.mem_cons.1 hz with rfl | hz
        · omega
        · have := chkL_orgs h z hz; omega
      have hfx := hf.fol hz
      have hfy : folE (some x) y = 0 := by
        refine folE_some.2 (.inl ⟨ho, ?_⟩)
        cases p with
        | none => exact folE_none.1 h2'
        | some q =>
          have h3 := folE_some.1 h2'
          have h4 := hf.le q rfl
          unfold Nxt at h3; omega
      rw [if_neg (by rw [hv]; simp), if_neg (by rw [hfx]; simp), chkL, if_neg h1, if_neg (by rw [hfy]; simp)]
      exact h
theorem maxS_le : ∀ {l : List Chg} {m : Int}, m ≤ maxS l m ∧ ∀ y ∈ l, y.stamp ≤ maxS l m
  | [], m => ⟨Int.le_refl _, by simp⟩
  | x :: l, m => by
    unfold maxS
    obtain ⟨h1, h2⟩ := maxS_le (l := l) (m := if x.stamp > m then x.stamp else m)
    refine ⟨?_, fun y hy => ?_⟩
    · split at h1 <;> rename_i e
      · rw [if_pos e]; omega
      · rw [if_neg e]; exact h1
    · rcases List.mem_cons.1 hy with rfl | hy
      · split at h1 <;> rename_i e
        · rw [if_pos e]; exact h1
        · rw [if_neg e]; omega
      · exact h2 y hy
theorem maxS_bd : ∀ {l : List Chg} {m b : Int}, m ≤ b → (∀ y ∈ l, y.stamp ≤ b) → maxS l m ≤ b
  | [], m, b, h, _ => h
  | x :: l, m, b, h, hl => by
    unfold maxS
    refine maxS_bd ?_ fun y hy => hl y (List.mem_cons_of_mem _ hy)
    split
    · exact hl x List.mem_cons_self
    · exact h
theorem GoodH.val {n : Int} {l : List Chg} (g : GoodH n l) {x : Chg} (hx : x ∈ l) : validX n x = true := by
  obtain ⟨i, hi, rfl⟩ := mem_getD hx
  exact g.v i hi
/-- The next change of a node: its numbers. -/
theorem next_num {n : Int} {l : List Chg} (g : GoodH n l) (hl : l.length ≤ 1000000) (o kind : Int) (c : Ctc) : (nextM l o kind c).cnt = (cntO l o : Int) + 1 ∧ (nextM l o kind c).stamp = maxS l 0 + 1 ∧ ∀ y ∈ l, y.stamp < (nextM l o kind c).stamp := by
  have h1 := cntO_le l o
  have h2 : 0 ≤ maxS l 0 := maxS_le.1
  have h3 : maxS l 0 ≤ 1099511627776 := maxS_bd (by omega) fun y hy => (validX_iff.1 (g.val hy)).1.2.2.2.2
  have e1 : IntKind.i64.wrap ((cntO l o : Int) + 1) = (cntO l o : Int) + 1 := wrap_i64 (by omega) (by omega)
  have e2 : IntKind.i64.wrap (maxS l 0 + 1) = maxS l 0 + 1 := wrap_i64 (by omega) (by omega)
  refine ⟨e1, e2, fun y hy => ?_⟩
  have h4 := maxS_le (l := l) (m := 0)
  have h5 := h4.2 y hy
  show y.stamp < IntKind.i64.wrap (maxS l 0 + 1)
  omega
theorem next_good {n : Int} {l : List Chg} (g : GoodH n l) (hl : l.length ≤ 1000000) (o kind : Int) (c : Ctc) (hv : validX n (nextM l o kind c) = true) : GoodH n (insM l (nextM l o kind c)) := by
  obtain ⟨h1, h2, h3⟩ := next_num g hl o kind c
  refine good_iff.1 (chkL_ins hv (good_iff.2 g) ⟨?_, fun q hq => (by cases hq), h3, fun q hq => (by cases hq)⟩)
  rw [h1]; show _ = 0 + (cntO l o : Int) + 1; omega
theorem putM_some {h : His} {o : Int} {c : Ctc} (e : (putM h o c).2 = 0) : chkHi h = 0 ∧ validX h.nodes (nextM h.l o 1 c) = true ∧ putM h o c = (⟨h.nodes, insM h.l (nextM h.l o 1 c)⟩, 0) := by
  unfold putM at e ⊢
  split at e
  · cases e
  · rename_i h1
    split at e
    · cases e
    · rename_i h2
      refine ⟨by simpa using h1, by simpa using h2, ?_⟩
      rw [if_neg h1, if_neg h2]
theorem remM_some {h : His} {o : Int} {c : Ctc} (e : (remM h o c).2 = 0) : chkHi h = 0 ∧ validX h.nodes (nextM h.l o 2 (nameC c)) = true ∧ remM h o c = (⟨h.nodes, insM h.l (nextM h.l o 2 (nameC c))⟩, 0) := by
  unfold remM at e ⊢
  split at e
  · cases e
  · rename_i h1
    split at e
    · cases e
    · rename_i h2
      split at e
      · cases e
      · rename_i h3
        refine ⟨by simpa using h1, by simpa using h2, ?_⟩
        rw [if_neg h1, if_neg h2, if_neg h3]
theorem tkK_mono {c : List Chg} {d : Ctc} : ∀ {k : Nat}, d ∈ tkK c k → d ∈ tkK c (k + 1) := by
  intro k h
  show d ∈ (if _ then _ else _)
  split
  · exact h
  · exact List.mem_append.2 (.inl h)
theorem tkK_mono' {c : List Chg} {d : Ctc} {k : Nat} (h : d ∈ tkK c k) : ∀ m, d ∈ tkK c (k + m)
  | 0 => h
  | m + 1 => tkK_mono (tkK_mono' h m)
/-- The newest change, if it puts, is in the plan. -/
theorem newest_in {n : Int} {l : List Chg} (g : GoodH n l) {x : Chg} (hx : x ∈ l) (hk : x.kind = 1) (hn : ∀ y ∈ l, y = x ∨ y.stamp < x.stamp) : x.c ∈ conL l := by
  have hc : isCand l x = true := by
    unfold isCand
    rw [hk]
    simp only [beq_self_eq_true, Bool.true_and, Bool.not_eq_true', List.any_eq_false]
    intro y hy e
    rw [Bool.and_eq_true, newr_iff] at e
    unfold ltS at e
    rcases hn y hy with rfl | h
    · omega
    · omega
  have hm : x ∈ candL l := (candK_mem (Nat.le_refl _)).2 ⟨by rw [List.take_length]; exact hx, hc⟩
  have hs := candK_sorted g (Nat.le_refl _)
  cases hcl : candL l with
  | nil => rw [hcl] at hm; cases hm
  | cons y m =>
    have hcl' : candK l l.length = y :: m := hcl
    have hy : y = x := by
      rw [hcl] at hm
      rcases List.mem_cons.1 hm with h | h
      · exact h.symm
      · rw [hcl'] at hs
        have h1 := (List.pairwise_cons.1 hs).1 x h
        have hyl : y ∈ l := by
          have : y ∈ candL l := by rw [hcl]; exact List.mem_cons_self
          have := ((candK_mem (Nat.le_refl _)).1 this).1
          rw [List.take_length] at this; exact this
        unfold ltS at h1
        rcases hn y hyl with h2 | h2
        · exact h2
        · omega
    subst hy
    have h1 : y.c ∈ tkK (y :: m) 1 := by
      show y.c ∈ (if _ then _ else _)
      split
      · rename_i e; cases e
      · exact List.mem_append.2 (.inr (List.mem_singleton.2 rfl))
    have := tkK_mono' h1 m.length
    unfold conL
    rw [hcl, List.length_cons, Nat.add_comm]
    exact this
theorem ins_newest {n : Int} {l : List Chg} (g : GoodH n l) (hl : l.length ≤ 1000000) (o kind : Int) (c : Ctc) : nextM l o kind c ∈ insM l (nextM l o kind c) ∧ ∀ y ∈ insM l (nextM l o kind c), y = nextM l o kind c ∨ y.stamp < (nextM l o kind c).stamp := by
  obtain ⟨_, _, h3⟩ := next_num g hl o kind c
  refine ⟨(insM_perm _ _).mem_iff.2 List.mem_cons_self, fun y hy => ?_⟩
  rcases List.mem_cons.1 ((insM_perm _ _).mem_iff.1 hy) with h | h
  · exact .inl h
  · exact .inr (h3 y h)
/-- Behind a removal the name is not in the plan. -/
theorem removed_out {n : Int} {l : List Chg} (g : GoodH n l) (hl : l.length ≤ 1000000) (o : Int) (c : Ctc) {d : Ctc} (hd : d ∈ conL (insM l (nextM l o 2 (nameC c)))) : nmE c d = false := by
  obtain ⟨h1, h2⟩ := ins_newest g hl o 2 (nameC c)
  obtain ⟨y, hy, rfl, hc⟩ := conL_mem hd
  unfold isCand at hc
  rw [Bool.and_eq_true, Bool.not_eq_true', List.any_eq_false] at hc
  rw [← Bool.not_eq_true]
  intro e
  have hk : y.kind = 1 := by simpa using hc.1
  rcases h2 y hy with h3 | h3
  · rw [h3] at hk; cases hk
  · refine hc.2 _ h1 ?_
    rw [Bool.and_eq_true, newr_iff]
    refine ⟨?_, .inl h3⟩
    rw [nmE_iff] at e ⊢
    exact ⟨e.1.symm, e.2.1.symm, e.2.2.symm⟩
theorem conL_apart' {n : Int} {l : List Chg} (g : GoodH n l) {a b : Ctc} (ha : a ∈ conL l) (hb : b ∈ conL l) (h : a ≠ b) : Apart a b := by
  have hp := conL_apart g
  obtain ⟨i, hi, rfl⟩ := List.getElem_of_mem ha
  obtain ⟨j, hj, rfl⟩ := List.getElem_of_mem hb
  rw [List.pairwise_iff_getElem] at hp
  rcases Nat.lt_trichotomy i j with c | c | c
  · exact hp i j hi hj c
  · subst c; exact absurd rfl h
  · exact (hp j i hj hi c).symm
theorem conN_mem {l : List Chg} {d : Ctc} : d ∈ conN l ↔ d ∈ conL l := (srtN_perm _).mem_iff
theorem consM_ok {h : His} (hc : chkHi h = 0) (hl : h.l.length ≤ 64) : consM h = (conN h.l, 0) := by
  unfold consM
  rw [hc, if_neg (by simp), if_neg]
  have := conL_len h.l
  simp; omega
end Go.Mb
