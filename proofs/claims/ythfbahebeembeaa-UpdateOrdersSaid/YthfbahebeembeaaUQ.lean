/- The contacts of a history in plain words. -/
import Derived.Test.YthfbahebeembeaaUO
set_option linter.unusedSimpArgs false
set_option linter.unusedSectionVars false
set_option linter.unusedVariables false
namespace Go.Mb
open Go.Sy
set_option linter.unusedVariables false
def nmE (a b : Ctc) : Bool := a.fr == b.fr && (a.to == b.to && a.start == b.start)
theorem nmE_iff {a b : Ctc} : nmE a b = true ↔ a.fr = b.fr ∧ a.to = b.to ∧ a.start = b.start := by simp [nmE]
def newr (a b : Chg) : Bool := decide (a.stamp > b.stamp) || (a.stamp == b.stamp && decide (a.org > b.org))
theorem newr_iff {a b : Chg} : newr a b = true ↔ ltS a b := by unfold newr ltS; simp only [Bool.or_eq_true, Bool.and_eq_true, decide_eq_true_eq, beq_iff_eq]
theorem ltS_trans {a b c : Chg} (h : ltS a b) (k : ltS b c) : ltS a c := by unfold ltS at *; omega
theorem ltS_irr (a : Chg) : ¬ ltS a a := by unfold ltS; omega
theorem ltN_trans {a b c : Ctc} (h : ltN a b) (k : ltN b c) : ltN a c := by unfold ltN at *; omega
theorem ltN_irr (a : Ctc) : ¬ ltN a a := by unfold ltN; omega
/-- Within one node the stamps ascend. -/
theorem GoodH.st {n : Int} {l : List Chg} (g : GoodH n l) : ∀ {j i : Nat}, j < l.length → i < j → (l.getD i default).org = (l.getD j default).org → (l.getD i default).stamp < (l.getD j default).stamp
  | 0, i, _, h, _ => absurd h (Nat.not_lt_zero _)
  | j + 1, i, hj, h, e => by
    have h1 := g.nxt hj
    unfold Nxt at h1
    by_cases c : i = j
    · subst c; omega
    · have h2 := g.lt (j := j) (i := i) (by omega) (by omega)
      unfold ltX at h2
      have h3 := g.st (j := j) (i := i) (by omega) (by omega) (by omega)
      omega
theorem mem_getD {l : List Chg} {x : Chg} (h : x ∈ l) : ∃ i, i < l.length ∧ l.getD i default = x := by
  obtain ⟨i, hi, e⟩ := List.getElem_of_mem h
  exact ⟨i, hi, by rw [getD_lt hi, e]⟩
theorem GoodH.tot {n : Int} {l : List Chg} (g : GoodH n l) {x y : Chg} (hx : x ∈ l) (hy : y ∈ l) : x = y ∨ ltS x y ∨ ltS y x := by
  obtain ⟨i, hi, rfl⟩ := mem_getD hx
  obtain ⟨j, hj, rfl⟩ := mem_getD hy
  rcases Nat.lt_trichotomy i j with c | c | c
  · right
    by_cases e : (l.getD i default).org = (l.getD j default).org
    · have := g.st hj c e; unfold ltS; omega
    · unfold ltS; omega
  · left; rw [c]
  · right
    by_cases e : (l.getD j default).org = (l.getD i default).org
    · have := g.st hi c e; unfold ltS; omega
    · unfold ltS; omega
/-- A change that counts: it puts, and no other one of its name is newer. -/
def isCand (l : List Chg) (x : Chg) : Bool := x.kind == 1 && !l.any (fun y => nmE x.c y.c && newr y x)
def insS : List Chg → Chg → List Chg
  | [], x => [x]
  | y :: l, x => if newr y x then y :: insS l x else x :: y :: l
theorem insS_len (l : List Chg) (x : Chg) : (insS l x).length = l.length + 1 := by
  induction l with
  | nil => rfl
  | cons y l ih =>
    unfold insS
    split
    · simp [ih]
    · simp
theorem insS_perm (l : List Chg) (x : Chg) : (insS l x).Perm (x :: l) := by
  induction l with
  | nil => exact List.Perm.refl _
  | cons y l ih =>
    unfold insS
    split
    · exact (List.Perm.cons y ih).trans (List.Perm.swap x y l)
    · exact List.Perm.refl _
theorem insS_sorted : ∀ {l : List Chg} {x : Chg}, l.Pairwise ltS → (∀ y ∈ l, ltS y x ∨ ltS x y) → (insS l x).Pairwise ltS
  | [], x, _, _ => by simp [insS]
  | y :: l, x, h, hx => by
    obtain ⟨h1, h2⟩ := List.pairwise_cons.1 h
    unfold insS
    split
    · rename_i hb
      have hb := newr_iff.1 hb
      refine List.pairwise_cons.2 ⟨fun z hz => ?_, insS_sorted h2 fun z hz => hx z (List.mem_cons_of_mem _ hz)⟩
      rcases List.mem_cons.1 ((insS_perm l x).mem_iff.1 hz) with rfl | hz
      · exact hb
      · exact h1 z hz
    · rename_i hb
      have hxy : ltS x y := by
        rcases hx y List.mem_cons_self with h3 | h3
        · exact absurd (newr_iff.2 h3) hb
        · exact h3
      refine List.pairwise_cons.2 ⟨fun z hz => ?_, h⟩
      rcases List.mem_cons.1 hz with rfl | hz
      · exact hxy
      · exact ltS_trans hxy (h1 z hz)
/-- The changes that count among the first k, from the newest one on. -/
def candK (l : List Chg) : Nat → List Chg
  | 0 => []
  | k + 1 => if isCand l (l.getD k default) then insS (candK l k) (l.getD k default) else candK l k
def filK (l : List Chg) : Nat → List Chg
  | 0 => []
  | k + 1 => if isCand l (l.getD k default) then filK l k ++ [l.getD k default] else filK l k
theorem candK_perm (l : List Chg) : ∀ k, (candK l k).Perm (filK l k)
  | 0 => List.Perm.refl _
  | k + 1 => by
    unfold candK filK
    split
    · exact (insS_perm _ _).trans ((List.Perm.cons _ (candK_perm l k)).trans (List.perm_append_singleton _ _).symm)
    · exact candK_perm l k
theorem filK_mem {l : List Chg} {x : Chg} : ∀ {k : Nat}, k ≤ l.length → (x ∈ filK l k ↔ x ∈ l.take k ∧ isCand l x = true)
  | 0, _ => by simp [filK]
  | k + 1, hk => by
    have ih := filK_mem (l := l) (x := x) (k := k) (by omega)
    rw [take_snoc (by omega), List.mem_append, List.mem_singleton]
    unfold filK
    split
    · rename_i h
      rw [List.mem_append, List.mem_singleton, ih]
      constructor
      · rintro (⟨a, b⟩ | rfl)
        · exact ⟨.inl a, b⟩
        · exact ⟨.inr rfl, h⟩
      · rintro ⟨a | rfl, b⟩
        · exact .inl ⟨a, b⟩
        · exact .inr rfl
    · rename_i h
      rw [ih]
      constructor
      · rintro ⟨a, b⟩; exact ⟨.inl a, b⟩
      · rintro ⟨a | rfl, b⟩
        · exact ⟨a, b⟩
        · exact absurd b h
theorem filK_len (l : List Chg) : ∀ k, (filK l k).length ≤ k
  | 0 => Nat.le_refl _
  | k + 1 => by
    have := filK_len l k
    unfold filK
    split
    · rw [List.length_append]; simp; omega
    · omega
theorem candK_len (l : List Chg) (k : Nat) : (candK l k).length ≤ k := by rw [(candK_perm l k).length_eq]; exact filK_len l k
theorem candK_mem {l : List Chg} {x : Chg} {k : Nat} (hk : k ≤ l.length) : x ∈ candK l k ↔ x ∈ l.take k ∧ isCand l x = true := by rw [(candK_perm l k).mem_iff, filK_mem hk]
theorem candK_sorted {n : Int} {l : List Chg} (g : GoodH n l) : ∀ {k : Nat}, k ≤ l.length → (candK l k).Pairwise ltS
  | 0, _ => List.Pairwise.nil
  | k + 1, hk => by
    have ih := candK_sorted g (k := k) (by omega)
    unfold candK
    split
    · refine insS_sorted ih fun y hy => ?_
      obtain ⟨i, hi, e⟩ := List.getElem_of_mem ((candK_mem (by omega)).1 hy).1
      have hi2 : i < k := by rw [List.length_take] at hi; omega
      have e2 : l.getD i default = y := by rw [getD_lt (by omega), ← e, List.getElem_take]
      have hlt := g.lt (j := k) (i := i) (by omega) hi2
      rw [e2] at hlt
      rcases g.tot (x := y) (y := l.getD k default) (by rw [← e2, getD_lt (by omega)]; exact List.getElem_mem _) (by rw [getD_lt (by omega)]; exact List.getElem_mem _) with h | h
      · rw [h] at hlt; exact absurd hlt (ltX_irr _)
      · exact h
    · exact ih
theorem sortS_eq {r s : List Chg} (hp : r.Perm s) (hr : r.Pairwise (fun a b => ¬ ltS b a)) (hs : s.Pairwise ltS) : r = s := by
  refine List.Perm.eq_of_pairwise (le := fun a b => ¬ ltS b a) (fun a b ha hb h1 h2 => ?_) hr (hs.imp fun {a b} h h2 => ltS_irr a (ltS_trans h h2)) hp
  obtain ⟨i, hi, e1⟩ := List.getElem_of_mem (hp.mem_iff.1 ha)
  obtain ⟨j, hj, e2⟩ := List.getElem_of_mem hb
  rw [List.pairwise_iff_getElem] at hs
  rcases Nat.lt_trichotomy i j with h | h | h
  · have := hs i j hi hj h; rw [e1, e2] at this; exact absurd this h2
  · subst h; rw [← e1, ← e2]
  · have := hs j i hj hi h; rw [e1, e2] at this; exact absurd this h1
def candL (l : List Chg) : List Chg := candK l l.length
/-- The newest change of each name among the first k. -/
def nwK (l : List Chg) : Nat → List Int → Option Chg
  | 0, q => none
  | k + 1, q => if eqKs q (nm (l.getD k default).c) then (match nwK l k q with
      | none => some (l.getD k default)
      | some y => if newr (l.getD k default) y then some (l.getD k default) else some y) else nwK l k q
theorem eqKs_nm {q : List Int} {c : Ctc} : eqKs q (nm c) = true ↔ q = nm c := by
  unfold nm
  match q with
  | [] => simp [eqKs]
  | [a] => simp [eqKs]
  | [a, b] => simp [eqKs]
  | [a, b, d] => simp [eqKs]
  | a :: b :: d :: e :: m => simp [eqKs]
theorem nm_iff {a b : Ctc} : nm a = nm b ↔ nmE a b = true := by rw [nmE_iff]; simp [nm]
theorem nwK_none {l : List Chg} {q : List Int} : ∀ {k : Nat}, k ≤ l.length → nwK l k q = none → ∀ x ∈ l.take k, nm x.c ≠ q
  | 0, _, _ => by simp
  | k + 1, hk, h => by
    unfold nwK at h
    rw [take_snoc (by omega)]
    split at h
    · split at h
      · cases h
      · split at h <;> cases h
    · rename_i h1
      intro x hx
      rcases List.mem_append.1 hx with hx | hx
      · exact nwK_none (by omega) h x hx
      · rw [List.mem_singleton.1 hx]
        intro e
        exact h1 (eqKs_nm.2 e.symm)
theorem nwK_some {l : List Chg} {q : List Int} {y : Chg} : ∀ {k : Nat}, k ≤ l.length → nwK l k q = some y → y ∈ l.take k ∧ nm y.c = q ∧ ∀ x ∈ l.take k, nm x.c = q → newr x y = false
  | 0, _, h => by cases h
  | k + 1, hk, h => by
    unfold nwK at h
    rw [take_snoc (by omega)]
    have irr : ∀ x, newr x x = false := fun x => by rw [← Bool.not_eq_true, newr_iff]; exact ltS_irr x
    split at h
    · rename_i h1
      have h1 := eqKs_nm.1 h1
      split at h
      · rename_i h2
        injection h with h
        subst h
        refine ⟨by simp, h1.symm, fun x hx hq => ?_⟩
        rcases List.mem_append.1 hx with hx | hx
        · exact absurd hq (nwK_none (by omega) h2 x hx)
        · rw [List.mem_singleton.1 hx]; exact irr _
      · rename_i z h2
        obtain ⟨a, b, c⟩ := nwK_some (k := k) (by omega) h2
        split at h
        · rename_i h3
          injection h with h
          subst h
          refine ⟨by simp, h1.symm, fun x hx hq => ?_⟩
          rcases List.mem_append.1 hx with hx | hx
          · have := c x hx hq
            rw [← Bool.not_eq_true, newr_iff] at this ⊢
            rw [newr_iff] at h3
            exact fun e => this (ltS_trans e h3)
          · rw [List.mem_singleton.1 hx]; exact irr _
        · rename_i h3
          injection h with h
          subst h
          refine ⟨List.mem_append.2 (.inl a), b, fun x hx hq => ?_⟩
          rcases List.mem_append.1 hx with hx | hx
          · exact c x hx hq
          · rw [List.mem_singleton.1 hx]; simpa using h3
    · rename_i h1
      obtain ⟨a, b, c⟩ := nwK_some (k := k) (by omega) h
      refine ⟨List.mem_append.2 (.inl a), b, fun x hx hq => ?_⟩
      rcases List.mem_append.1 hx with hx | hx
      · exact c x hx hq
      · rw [List.mem_singleton.1 hx] at hq
        exact absurd (eqKs_nm.2 hq.symm) h1
/-- The program's test for a change that counts. -/
theorem nw_cand {n : Int} {l : List Chg} (g : GoodH n l) {x : Chg} (hx : x ∈ l) : ∃ y, nwK l l.length (nm x.c) = some y ∧ (x.kind == 1 && Chg.eqv y x) = isCand l x := by
  cases h : nwK l l.length (nm x.c) with
  | none =>
    have := nwK_none (Nat.le_refl _) h x (by rw [List.take_length]; exact hx)
    exact absurd rfl this
  | some y =>
    refine ⟨y, rfl, ?_⟩
    obtain ⟨a, b, c⟩ := nwK_some (Nat.le_refl _) h
    rw [List.take_length] at a c
    unfold isCand
    congr 1
    rw [Bool.eq_iff_iff, Chg.eqv_iff, Bool.not_eq_true', List.any_eq_false]
    constructor
    · rintro rfl z hz
      intro e
      rw [Bool.and_eq_true] at e
      have := c z hz (nm_iff.2 e.1).symm
      rw [e.2] at this; cases this
    · intro h2
      have h3 := h2 y a
      rw [nm_iff.1 b.symm, Bool.true_and, newr_iff] at h3
      have h4 := c x hx rfl
      rw [← Bool.not_eq_true, newr_iff] at h4
      rcases g.tot a hx with h5 | h5 | h5
      · exact h5
      · exact absurd h5 h3
      · exact absurd h5 h4
def ovl (a b : Ctc) : Bool := chkC a == 0 && (chkC b == 0 && (a.fr == b.fr && (a.to == b.to && (decide (a.start < b.stop) && decide (b.start < a.stop)))))
theorem ovl_iff {a b : Ctc} : ovl a b = true ↔ chkC a = 0 ∧ chkC b = 0 ∧ a.fr = b.fr ∧ a.to = b.to ∧ a.start < b.stop ∧ b.start < a.stop := by simp [ovl]
theorem ovl_symm (a b : Ctc) : ovl a b = ovl b a := by
  rw [Bool.eq_iff_iff, ovl_iff, ovl_iff]
  constructor <;> rintro ⟨a, b, c, d, e, f⟩ <;> exact ⟨b, a, c.symm, d.symm, f, e⟩
/-- The contacts, from the newest one on. -/
def tkK (c : List Chg) : Nat → List Ctc
  | 0 => []
  | k + 1 => if (tkK c k).any (fun d => ovl d (c.getD k default).c) then tkK c k else tkK c k ++ [(c.getD k default).c]
theorem tkK_len (c : List Chg) : ∀ k, (tkK c k).length ≤ k
  | 0 => Nat.le_refl _
  | k + 1 => by
    have := tkK_len c k
    unfold tkK
    split
    · omega
    · rw [List.length_append]; simp; omega
def conL (l : List Chg) : List Ctc := tkK (candL l) (candL l).length
theorem conL_len (l : List Chg) : (conL l).length ≤ l.length := Nat.le_trans (tkK_len _ _) (candK_len l _)
theorem tkK_mem {c : List Chg} {d : Ctc} : ∀ {k : Nat}, k ≤ c.length → d ∈ tkK c k → ∃ x ∈ c.take k, x.c = d
  | 0, _, h => by cases h
  | k + 1, hk, h => by
    rw [take_snoc (by omega)]
    unfold tkK at h
    split at h
    · obtain ⟨x, hx, e⟩ := tkK_mem (k := k) (by omega) h
      exact ⟨x, List.mem_append.2 (.inl hx), e⟩
    · rcases List.mem_append.1 h with h | h
      · obtain ⟨x, hx, e⟩ := tkK_mem (k := k) (by omega) h
        exact ⟨x, List.mem_append.2 (.inl hx), e⟩
      · exact ⟨_, List.mem_append.2 (.inr (List.mem_singleton.2 rfl)), (List.mem_singleton.1 h).symm⟩
/-- What two contacts of a plan are to each other. -/
def Apart (a b : Ctc) : Prop := ovl a b = false ∧ nmE a b = false
theorem Apart.symm {a b : Ctc} (h : Apart a b) : Apart b a := by
  refine ⟨by rw [ovl_symm]; exact h.1, ?_⟩
  have := h.2
  rw [← Bool.not_eq_true, nmE_iff] at this ⊢
  exact fun e => this ⟨e.1.symm, e.2.1.symm, e.2.2.symm⟩
theorem cand_names {n : Int} {l : List Chg} (g : GoodH n l) {x y : Chg} (hx : x ∈ candL l) (hy : y ∈ candL l) (e : nmE x.c y.c = true) : x = y := by
  have hx := (candK_mem (Nat.le_refl _)).1 hx
  have hy := (candK_mem (Nat.le_refl _)).1 hy
  rw [List.take_length] at hx hy
  have key : ∀ {a b : Chg}, isCand l a = true → b ∈ l → nmE a.c b.c = true → ¬ ltS b a := by
    intro a b h1 h2 h3 h4
    unfold isCand at h1
    rw [Bool.and_eq_true, Bool.not_eq_true', List.any_eq_false] at h1
    exact h1.2 b h2 (by rw [h3, newr_iff.2 h4]; rfl)
  have e' : nmE y.c x.c = true := nm_iff.1 (nm_iff.2 e).symm
  rcases g.tot hx.1 hy.1 with h | h | h
  · exact h
  · exact absurd h (key hy.2 hx.1 e')
  · exact absurd h (key hx.2 hy.1 e)
theorem tkK_apart {n : Int} {l : List Chg} (g : GoodH n l) : ∀ {k : Nat}, k ≤ (candL l).length → (tkK (candL l) k).Pairwise Apart
  | 0, _ => List.Pairwise.nil
  | k + 1, hk => by
    have ih := tkK_apart g (k := k) (by omega)
    unfold tkK
    split
    · exact ih
    · rename_i h
      rw [List.pairwise_append]
      refine ⟨ih, by simp, fun a ha b hb => ?_⟩
      rw [List.mem_singleton.1 hb]
      have h1 : (tkK (candL l) k).any (fun d => ovl d ((candL l).getD k default).c) = false := by simpa using h
      rw [List.any_eq_false] at h1
      refine ⟨by simpa using h1 a ha, ?_⟩
      obtain ⟨x, hx, rfl⟩ := tkK_mem (by omega) ha
      rw [← Bool.not_eq_true]
      intro e
      have hk1 : (candL l).getD k default ∈ candL l := by rw [getD_lt (by omega)]; exact List.getElem_mem _
      have e2 := cand_names g (List.mem_of_mem_take hx) hk1 e
      obtain ⟨i, hi, e3⟩ := List.getElem_of_mem hx
      have hi2 : i < k := by rw [List.length_take] at hi; omega
      have hs := candK_sorted g (Nat.le_refl _)
      rw [List.pairwise_iff_getElem] at hs
      have h4 := hs i k (by show i < (candL l).length; omega) (by show k < (candL l).length; omega) hi2
      have e4 : (candL l)[i]'(by omega) = x := by rw [← e3, List.getElem_take]
      have e5 : (candL l)[k]'(by omega) = (candL l).getD k default := (getD_lt (by omega)).symm
      have h4 : ltS ((candL l)[i]'(by omega)) ((candL l)[k]'(by omega)) := h4
      rw [e4, e5, e2] at h4
      exact ltS_irr _ h4
theorem conL_apart {n : Int} {l : List Chg} (g : GoodH n l) : (conL l).Pairwise Apart := tkK_apart g (Nat.le_refl _)
/-- Each contact was put, as the newest change of its name. -/
theorem conL_mem {l : List Chg} {d : Ctc} (h : d ∈ conL l) : ∃ x ∈ l, x.c = d ∧ isCand l x = true := by
  obtain ⟨x, hx, e⟩ := tkK_mem (Nat.le_refl _) h
  have := (candK_mem (Nat.le_refl _)).1 (List.mem_of_mem_take hx)
  rw [List.take_length] at this
  exact ⟨x, this.1, e, this.2⟩
/-- Contacts sorted by their names. -/
def insN : List Ctc → Ctc → List Ctc
  | [], x => [x]
  | y :: l, x => if decide (byN x y < 0) then x :: y :: l else y :: insN l x
def srtN : List Ctc → List Ctc
  | [] => []
  | x :: l => insN (srtN l) x
theorem insN_perm (l : List Ctc) (x : Ctc) : (insN l x).Perm (x :: l) := by
  induction l with
  | nil => exact List.Perm.refl _
  | cons y l ih =>
    unfold insN
    split
    · exact List.Perm.refl _
    · exact (List.Perm.cons y ih).trans (List.Perm.swap x y l)
theorem srtN_perm : ∀ l : List Ctc, (srtN l).Perm l
  | [] => List.Perm.refl _
  | x :: l => (insN_perm _ _).trans (List.Perm.cons x (srtN_perm l))
theorem apart_ltN {a b : Ctc} (h : Apart a b) : ltN a b ∨ ltN b a := by
  have := h.2
  rw [← Bool.not_eq_true, nmE_iff] at this
  unfold ltN; omega
theorem insN_sorted : ∀ {l : List Ctc} {x : Ctc}, l.Pairwise ltN → (∀ y ∈ l, ltN y x ∨ ltN x y) → (insN l x).Pairwise ltN
  | [], x, _, _ => by simp [insN]
  | y :: l, x, h, hx => by
    obtain ⟨h1, h2⟩ := List.pairwise_cons.1 h
    unfold insN
    split
    · rename_i hb
      have hxy : ltN x y := byN_neg.1 (of_decide_eq_true hb)
      refine List.pairwise_cons.2 ⟨fun z hz => ?_, h⟩
      rcases List.mem_cons.1 hz with rfl | hz
      · exact hxy
      · exact ltN_trans hxy (h1 z hz)
    · rename_i hb
      have hb : ltN y x := by
        rcases hx y List.mem_cons_self with h3 | h3
        · exact h3
        · exact absurd (decide_eq_true (byN_neg.2 h3)) hb
      refine List.pairwise_cons.2 ⟨fun z hz => ?_, insN_sorted h2 fun z hz => hx z (List.mem_cons_of_mem _ hz)⟩
      rcases List.mem_cons.1 ((insN_perm l x).mem_iff.1 hz) with rfl | hz
      · exact hb
      · exact h1 z hz
theorem srtN_sorted : ∀ {l : List Ctc}, l.Pairwise Apart → (srtN l).Pairwise ltN
  | [], _ => List.Pairwise.nil
  | x :: l, h => by
    obtain ⟨h1, h2⟩ := List.pairwise_cons.1 h
    refine insN_sorted (srtN_sorted h2) fun y hy => ?_
    exact (apart_ltN (h1 y ((srtN_perm l).mem_iff.1 hy))).symm
theorem sortN_eq {r s : List Ctc} (hp : r.Perm s) (hr : r.Pairwise (fun a b => ¬ ltN b a)) (hs : s.Pairwise ltN) : r = s := by
  refine List.Perm.eq_of_pairwise (le := fun a b => ¬ ltN b a) (fun a b ha hb h1 h2 => ?_) hr (hs.imp fun {a b} h h2 => ltN_irr a (ltN_trans h h2)) hp
  obtain ⟨i, hi, e1⟩ := List.getElem_of_mem (hp.mem_iff.1 ha)
  obtain ⟨j, hj, e2⟩ := List.getElem_of_mem hb
  rw [List.pairwise_iff_getElem] at hs
  rcases Nat.lt_trichotomy i j with h | h | h
  · have := hs i j hi hj h; rw [e1, e2] at this; exact absurd this h2
  · subst h; rw [← e1, ← e2]
  · have := hs j i hj hi h; rw [e1, e2] at this; exact absurd this h1
def conN (l : List Chg) : List Ctc := srtN (conL l)
theorem conN_eq {n : Int} {l : List Chg} (g : GoodH n l) {r : List Ctc} (hp : r.Perm (conL l)) (hr : r.Pairwise (fun a b => ¬ ltN b a)) : r = conN l := sortN_eq (hp.trans (srtN_perm _).symm) hr (srtN_sorted (conL_apart g))
def consM (h : His) : List Ctc × Int := if chkHi h != 0 then ([], 1) else if decide (((conL h.l).length : Int) > 64) then ([], 4) else (conN h.l, 0)
def remM (h : His) (o : Int) (c : Ctc) : His × Int :=
  if chkHi h != 0 then (⟨0, []⟩, 1) else if !validX h.nodes (nextM h.l o 2 (nameC c)) then (⟨0, []⟩, 2) else if !(conL h.l).any (fun d => nmE d c) then (⟨0, []⟩, 7) else (⟨h.nodes, insM h.l (nextM h.l o 2 (nameC c))⟩, 0)
end Go.Mb
