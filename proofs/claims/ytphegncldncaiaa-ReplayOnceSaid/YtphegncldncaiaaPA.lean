/- Replay windows in plain words. -/
import Derived.Test.YtphegncldncaiaaSyE
import Derived.Test.YtphegncldncaiaaSySort
set_option linter.unusedSimpArgs false
set_option linter.unusedSectionVars false
set_option linter.unusedVariables false
namespace Go.Mb
open Go.Sy
set_option linter.unusedVariables false

/-- Of the first k elements, those that are not like the one before them. -/
def dd {α : Type} [Inhabited α] (eq : α → α → Bool) (d : List α) : Nat → List α
  | 0 => []
  | k + 1 => match k with
    | 0 => [d.getD 0 default]
    | m + 1 => if eq (d.getD (m + 1) default) (d.getD m default) then dd eq d (m + 1) else dd eq d (m + 1) ++ [d.getD (m + 1) default]
section
variable {α : Type} [Inhabited α] {eq : α → α → Bool} {d : List α}
theorem dd_same {m : Nat} (h : eq (d.getD (m + 1) default) (d.getD m default) = true) : dd eq d (m + 2) = dd eq d (m + 1) := by rw [dd, if_pos h]
theorem dd_new {m : Nat} (h : eq (d.getD (m + 1) default) (d.getD m default) = false) : dd eq d (m + 2) = dd eq d (m + 1) ++ [d.getD (m + 1) default] := by rw [dd, if_neg (by rw [h]; simp)]
theorem dd_all : ∀ {k : Nat}, k ≤ d.length → (∀ m, m + 1 < k → eq (d.getD (m + 1) default) (d.getD m default) = false) → dd eq d k = d.take k
  | 0, _, _ => by simp [dd]
  | 1, h, _ => by
    have := take_snoc (l := d) (k := 0) (by omega)
    rw [this]; simp [dd]
  | m + 2, h, hn => by
    rw [dd_new (hn m (by omega)), dd_all (k := m + 1) (by omega) (fun i hi => hn i (by omega)), ← take_snoc (by omega)]
theorem dd_len : ∀ k, (dd eq d k).length ≤ k
  | 0 => Nat.le_refl _
  | 1 => by simp [dd]
  | m + 2 => by
    have := dd_len (m + 1)
    rw [dd]
    split
    · omega
    · simp; omega
theorem dd_mem (he : ∀ a b, eq a b = true ↔ a = b) {x : α} : ∀ {k : Nat}, k ≤ d.length → (x ∈ dd eq d k ↔ x ∈ d.take k)
  | 0, _ => by simp [dd]
  | 1, h => by
    rw [take_snoc (l := d) (k := 0) (by omega)]; simp [dd]
  | m + 2, h => by
    have ih := dd_mem he (x := x) (k := m + 1) (by omega)
    have e1 : d.getD m default ∈ d.take (m + 1) := by rw [take_snoc (by omega)]; simp
    rw [take_snoc (l := d) (k := m + 1) (by omega)]
    rw [dd]
    split
    · rename_i h2
      rw [(he _ _).1 h2, ih]
      simp only [List.mem_append, List.mem_singleton]
      constructor
      · exact .inl
      · rintro (h | rfl)
        · exact h
        · exact e1
    · simp only [List.mem_append, List.mem_singleton, ih]
theorem dd_last : ∀ {k : Nat}, k < d.length → (∀ a b, eq a b = true ↔ a = b) → (dd eq d (k + 1)).getLast? = some (d.getD k default)
  | 0, _, _ => by simp [dd]
  | m + 1, h, he => by
    rw [dd]
    split
    · rename_i h2
      rw [dd_last (by omega) he, (he _ _).1 h2]
    · simp
end
/-- Compacting in place: from k0 on (where a repetition is), k2 elements seen, kw written. -/
structure CInv {α : Type} [Inhabited α] (eq : α → α → Bool) (d : List α) (k0 k2 kw : Nat) (L : List α) : Prop where
  len : L.length = d.length
  b1 : 1 ≤ k0
  b2 : 1 ≤ k2
  b3 : k0 + k2 ≤ d.length
  b4 : kw < k0 + k2
  pl : (dd eq d (k0 + k2)).length = kw
  pre : ∀ i, i < kw → L.getD i default = (dd eq d (k0 + k2)).getD i default
  post : ∀ i, k0 + k2 ≤ i + 1 → L.getD i default = d.getD i default
section
variable {α : Type} [Inhabited α] {eq : α → α → Bool} {d L : List α} {k0 k2 kw : Nat}
theorem CInv.start (h1 : 1 ≤ k0) (h2 : k0 < d.length) (hn : ∀ m, m + 1 < k0 → eq (d.getD (m + 1) default) (d.getD m default) = false) (hd : eq (d.getD k0 default) (d.getD (k0 - 1) default) = true) : CInv eq d k0 1 k0 d := by
  obtain ⟨m, rfl⟩ : ∃ m, k0 = m + 1 := ⟨k0 - 1, by omega⟩
  have e : dd eq d (m + 1 + 1) = d.take (m + 1) := by rw [dd_same (m := m) hd, dd_all (by omega) hn]
  refine ⟨rfl, h1, Nat.le_refl _, by omega, by omega, by rw [e]; simp; omega, fun i hi => ?_, fun _ _ => rfl⟩
  rw [e]; simp [List.getD, hi]
theorem CInv.same (h : CInv eq d k0 k2 kw L) (hk : k0 + k2 < d.length) (hd : eq (d.getD (k0 + k2) default) (d.getD (k0 + k2 - 1) default) = true) : CInv eq d k0 (k2 + 1) kw L := by
  have hb2 := h.b2
  obtain ⟨m, hm⟩ : ∃ m, k0 + k2 = m + 1 := ⟨k0 + k2 - 1, by omega⟩
  have e : dd eq d (k0 + (k2 + 1)) = dd eq d (k0 + k2) := by
    rw [show k0 + (k2 + 1) = m + 2 by omega, hm]
    refine dd_same ?_
    rw [hm] at hd; exact hd
  exact ⟨h.len, h.b1, by omega, by omega, by have := h.b4; omega, by rw [e]; exact h.pl, fun i hi => by rw [e]; exact h.pre i hi, fun i hi => h.post i (by omega)⟩
theorem CInv.new (h : CInv eq d k0 k2 kw L) (hk : k0 + k2 < d.length) (hd : eq (d.getD (k0 + k2) default) (d.getD (k0 + k2 - 1) default) = false) : CInv eq d k0 (k2 + 1) (kw + 1) (L.set kw (d.getD (k0 + k2) default)) := by
  have hb2 := h.b2
  have hb4 := h.b4
  have hl := h.len
  obtain ⟨m, hm⟩ : ∃ m, k0 + k2 = m + 1 := ⟨k0 + k2 - 1, by omega⟩
  have e : dd eq d (k0 + (k2 + 1)) = dd eq d (k0 + k2) ++ [d.getD (k0 + k2) default] := by
    rw [show k0 + (k2 + 1) = m + 2 by omega, hm]
    refine dd_new ?_
    rw [hm] at hd; exact hd
  refine ⟨by simp [hl], h.b1, by omega, by omega, by omega, by rw [e]; simp [h.pl], fun i hi => ?_, fun i hi => ?_⟩
  · rw [getD_setG _ _ _ _ (by omega), e]
    by_cases hi2 : i = kw
    · rw [if_pos hi2, getD_append_right (by rw [h.pl]; omega), h.pl, hi2]; simp
    · rw [if_neg hi2, getD_append_left (by rw [h.pl]; omega)]; exact h.pre i (by omega)
  · rw [getD_setG _ _ _ _ (by omega), if_neg (by omega)]; exact h.post i (by omega)
end
theorem dd_asc {d : List Int} (hs : d.Pairwise (· ≤ ·)) : ∀ {k : Nat}, k ≤ d.length → (dd (· == ·) d k).Pairwise (· < ·)
  | 0, _ => by simp [dd]
  | 1, _ => by simp [dd]
  | m + 2, h => by
    have ih := dd_asc hs (k := m + 1) (by omega)
    rw [dd]
    split
    · exact ih
    · rename_i h2
      rw [List.pairwise_append]
      refine ⟨ih, by simp, ?_⟩
      intro a ha b hb
      rw [List.mem_singleton] at hb
      subst hb
      have h2 : d.getD (m + 1) default ≠ d.getD m default := by simpa using h2
      have ha := (dd_mem (by simp) (by omega)).1 ha
      rw [getD_lt (by omega), getD_lt (by omega)] at h2
      rw [getD_lt (by omega)]
      have e0 := List.pairwise_iff_getElem.1 hs
      obtain ⟨i, hi, rfl⟩ := List.getElem_of_mem ha
      simp only [List.length_take] at hi
      rw [List.getElem_take]
      have e1 := e0 m (m + 1) (by omega) (by omega) (by omega)
      by_cases him : i = m
      · subst him; omega
      · have e2 := e0 i m (by omega) (by omega) (by omega)
        omega

structure Win where
  size : Int
  top : Int
  seen : List Int
instance : Inhabited Win := ⟨⟨0, 0, []⟩⟩
def Win.cells (w : Win) : List A := [.int .i64 w.size, .int .i64 w.top, slN w.seen]
def badW (w : Win) : Bool := decide (w.size < 1) || (decide (w.size > 64) || (decide (w.top < -1) || decide (w.top > 1152921504606846976)))
def badN (w : Win) (n : Int) : Bool := decide (n < 0) || (decide (n > w.top) || decide (n ≤ w.top - w.size))
def gapN (n : Int) : Option Int → Bool
  | some q => decide (n ≤ q)
  | none => false
def chkN (w : Win) : Option Int → List Int → Int
  | _, [] => 0
  | p, n :: l => if badN w n then 2 else if gapN n p then 9 else chkN w (some n) l
def lastN (l : List Int) : Int := l.getD (l.length - 1) default
def lastOK (w : Win) : Bool := w.top == -1 || (w.seen.length != 0 && lastN w.seen == w.top)
def chkW (w : Win) : Int := if badW w then 2 else if chkN w none w.seen != 0 then chkN w none w.seen else if lastOK w then 0 else 10
/-- Ascending. -/
def AscN (r : List Int) : Prop := r.Pairwise (· < ·)
/-- Two ascending lists with the same numbers are one. -/
theorem asc_ext {r s : List Int} (hr : AscN r) (hs : AscN s) (h : ∀ x, x ∈ r ↔ x ∈ s) : r = s := by
  refine List.Perm.eq_of_pairwise (le := fun a b : Int => a < b) (fun a b _ _ h1 h2 => by omega) hr hs ?_
  refine (List.perm_ext_iff_of_nodup ?_ ?_).2 h
  · exact hr.imp fun h e => by omega
  · exact hs.imp fun h e => by omega
def refW (w : Win) (n : Int) : Bool := w.seen.contains n || decide (n ≤ w.top - w.size)

structure GoodW (w : Win) : Prop where
  s1 : 1 ≤ w.size
  s2 : w.size ≤ 64
  t1 : -1 ≤ w.top
  t2 : w.top ≤ 1152921504606846976
  asc : AscN w.seen
  mem : ∀ n ∈ w.seen, 0 ≤ n ∧ n ≤ w.top ∧ n > w.top - w.size
  last : w.top = -1 ∨ w.top ∈ w.seen

theorem chkN_zero {w : Win} : ∀ {p : Option Int} {l : List Int}, chkN w p l = 0 ↔ (∀ n ∈ l, badN w n = false) ∧ AscN l ∧ (∀ q, p = some q → ∀ n ∈ l, q < n)
  | p, [] => by simp [chkN, AscN]
  | p, n :: l => by
    rw [chkN]
    by_cases hb : badN w n = true
    · rw [if_pos hb]; simp [hb]
    · rw [if_neg hb]
      have hb : badN w n = false := by simpa using hb
      have ih := chkN_zero (w := w) (p := some n) (l := l)
      have key : (∀ q, p = some q → q < n) → ((∀ m ∈ n :: l, badN w m = false) ∧ AscN (n :: l) ∧ (∀ q, p = some q → ∀ m ∈ n :: l, q < m) ↔ (∀ m ∈ l, badN w m = false) ∧ AscN l ∧ (∀ q, some n = some q → ∀ m ∈ l, q < m)) := by
        intro hp
        simp only [List.mem_cons, forall_eq_or_imp, hb, true_and, AscN, List.pairwise_cons, Option.some.injEq, forall_eq']
        constructor
        · rintro ⟨h1, ⟨h2, h3⟩, h4⟩; exact ⟨h1, h3, h2⟩
        · rintro ⟨h1, h3, h2⟩
          refine ⟨h1, ⟨h2, h3⟩, fun q hq => ⟨hp q hq, fun m hm => ?_⟩⟩
          have := hp q hq
          have := h2 m hm
          omega
      cases p with
      | none => rw [if_neg (by simp [gapN]), ih, key (by simp)]
      | some q =>
        by_cases hq : n ≤ q
        · rw [if_pos (by simpa [gapN] using hq)]
          constructor
          · intro h; cases h
          · rintro ⟨_, _, h⟩
            have := h q rfl n List.mem_cons_self
            omega
        · rw [if_neg (by simpa [gapN] using hq), ih, key (by intro r hr; cases hr; omega)]
theorem badW_f {w : Win} : badW w = false ↔ 1 ≤ w.size ∧ w.size ≤ 64 ∧ -1 ≤ w.top ∧ w.top ≤ 1152921504606846976 := by
  simp [badW]
theorem badN_f {w : Win} {n : Int} : badN w n = false ↔ 0 ≤ n ∧ n ≤ w.top ∧ n > w.top - w.size := by
  simp [badN]
theorem asc_le_last {l : List Int} (h : AscN l) : ∀ x ∈ l, x ≤ lastN l := by
  intro x hx
  obtain ⟨i, hi, rfl⟩ := List.getElem_of_mem hx
  unfold lastN
  rw [getD_lt (by omega)]
  by_cases e : i = l.length - 1
  · subst e; exact Int.le_refl _
  · exact Int.le_of_lt (List.pairwise_iff_getElem.1 h i (l.length - 1) hi (by omega) (by omega))
theorem lastN_mem {l : List Int} (h : l.length ≠ 0) : lastN l ∈ l := by
  unfold lastN; rw [getD_lt (by omega)]; exact List.getElem_mem _
theorem good_iff (w : Win) : chkW w = 0 ↔ GoodW w := by
  unfold chkW
  by_cases hb : badW w = true
  · rw [if_pos hb]
    constructor
    · intro h; cases h
    · intro h
      have : badW w = false := badW_f.2 ⟨h.s1, h.s2, h.t1, h.t2⟩
      rw [this] at hb; cases hb
  · rw [if_neg hb]
    obtain ⟨b1, b2, b3, b4⟩ := badW_f.1 (by simpa using hb)
    by_cases hc : chkN w none w.seen = 0
    · rw [hc, if_neg (by simp)]
      obtain ⟨c1, c2, _⟩ := chkN_zero.1 hc
      constructor
      · intro h
        have hl : lastOK w = true := by
          rcases Bool.eq_false_or_eq_true (lastOK w) with h2 | h2
          · exact h2
          · rw [h2] at h; simp at h
        refine ⟨b1, b2, b3, b4, c2, fun n hn => badN_f.1 (c1 n hn), ?_⟩
        simp only [lastOK, Bool.or_eq_true, beq_iff_eq, Bool.and_eq_true, bne_iff_ne] at hl
        rcases hl with h | ⟨h1, h2⟩
        · exact .inl h
        · right; rw [← h2]; exact lastN_mem h1
      · intro h
        have hl : lastOK w = true := by
          simp only [lastOK, Bool.or_eq_true, beq_iff_eq, Bool.and_eq_true, bne_iff_ne]
          rcases h.last with h1 | h1
          · exact .inl h1
          · right
            have hne : w.seen.length ≠ 0 := fun e => by rw [List.eq_nil_of_length_eq_zero e] at h1; cases h1
            refine ⟨hne, ?_⟩
            have e1 := asc_le_last h.asc _ h1
            have e2 := (h.mem _ (lastN_mem hne)).2.1
            omega
        rw [if_pos hl]
    · rw [if_pos (by simpa using hc)]
      constructor
      · intro h; exact absurd h hc
      · intro h
        exact absurd (chkN_zero.2 ⟨fun n hn => badN_f.2 (h.mem n hn), h.asc, by simp⟩) hc
theorem good_ext {v w : Win} (hv : GoodW v) (hw : GoodW w) (hs : v.size = w.size) (ht : v.top = w.top) (hm : ∀ x, x ∈ v.seen ↔ x ∈ w.seen) : v = w := by
  have := asc_ext hv.asc hw.asc hm
  cases v; cases w; simp_all
theorem good_empty {w : Win} (h : GoodW w) (ht : w.top = -1) : w.seen = [] := by
  cases hs : w.seen with
  | nil => rfl
  | cons a l =>
    have := h.mem a (by rw [hs]; exact List.mem_cons_self)
    omega
theorem good_len {w : Win} (h : GoodW w) : w.seen.length ≤ 64 := by
  have hm : ∀ x ∈ w.seen, w.top - w.size < x ∧ x ≤ w.top := fun x hx => by have := h.mem x hx; omega
  have key : ∀ (l : List Int) (lo hi : Int), l.Pairwise (· < ·) → (∀ x ∈ l, lo < x ∧ x ≤ hi) → (l.length : Int) ≤ max 0 (hi - lo) := by
    intro l
    induction l with
    | nil => intro lo hi _ _; simp; omega
    | cons a l ih =>
      intro lo hi hp hm
      rw [List.pairwise_cons] at hp
      have h1 := ih a hi hp.2 (fun x hx => ⟨hp.1 x hx, (hm x (List.mem_cons_of_mem _ hx)).2⟩)
      have h2 := hm a List.mem_cons_self
      simp only [List.length_cons]
      omega
  have := key w.seen _ _ h.asc hm
  have := h.s1
  have := h.s2
  omega

/-- The window of some numbers. -/
def winM (size : Int) (l : List Int) : Win := match l with
  | [] => ⟨size, -1, []⟩
  | _ => ⟨size, lastN (srt l), (dd (· == ·) (srt l) (srt l).length).filter fun n => decide (n > lastN (srt l) - size)⟩
theorem srt_mem {l : List Int} {x : Int} : x ∈ srt l ↔ x ∈ l := (List.mergeSort_perm l _).mem_iff
theorem srt_le (l : List Int) : (srt l).Pairwise (· ≤ ·) := by
  have := List.pairwise_mergeSort (le := fun x y : Int => decide (x ≤ y)) (by intro a b c; simp; omega) (by intro a b; simp; omega) l
  exact this.imp fun h => by simpa using h
theorem srt_last {l : List Int} : ∀ x ∈ l, x ≤ lastN (srt l) := by
  intro x hx
  rw [← srt_mem] at hx
  obtain ⟨i, hi, rfl⟩ := List.getElem_of_mem hx
  unfold lastN
  rw [getD_lt (by omega)]
  by_cases e : i = (srt l).length - 1
  · subst e; exact Int.le_refl _
  · exact List.pairwise_iff_getElem.1 (srt_le l) i ((srt l).length - 1) hi (by omega) (by omega)
theorem srt_last_mem {l : List Int} (h : l ≠ []) : lastN (srt l) ∈ l := by
  rw [← srt_mem]
  refine lastN_mem ?_
  rw [srt_len]
  intro e
  exact h (List.eq_nil_of_length_eq_zero e)
theorem winM_cons {size : Int} {l : List Int} (h : l ≠ []) : winM size l = ⟨size, lastN (srt l), (dd (· == ·) (srt l) (srt l).length).filter fun n => decide (n > lastN (srt l) - size)⟩ := by
  cases l with
  | nil => exact absurd rfl h
  | cons a l => rfl
theorem winM_seen {size : Int} {l : List Int} (h : l ≠ []) : AscN (winM size l).seen ∧ ∀ x, x ∈ (winM size l).seen ↔ x ∈ l ∧ x > lastN (srt l) - size := by
  rw [winM_cons h]
  refine ⟨(dd_asc (srt_le l) (Nat.le_refl _)).filter _, fun x => ?_⟩
  simp only [List.mem_filter, decide_eq_true_eq]
  rw [dd_mem (by simp) (Nat.le_refl _), List.take_length, srt_mem]
/-- A window of some numbers, by its greatest one and what is kept. -/
theorem winM_eq {size T : Int} {l r : List Int} (hT : T ∈ l) (hm : ∀ x ∈ l, x ≤ T) (hr : AscN r) (h : ∀ x, x ∈ r ↔ x ∈ l ∧ x > T - size) : winM size l = ⟨size, T, r⟩ := by
  have hne : l ≠ [] := by rintro rfl; cases hT
  have e : lastN (srt l) = T := by
    have h1 := srt_last T hT
    have h2 := hm _ (srt_last_mem hne)
    omega
  obtain ⟨h1, h2⟩ := winM_seen (size := size) hne
  have e2 := asc_ext h1 hr fun x => by rw [h2, h, e]
  rw [winM_cons hne] at e2 ⊢
  simp only at e2
  rw [e2, e]

/-- What Accept returns. -/
def accW (w : Win) (n : Int) : Win := ⟨w.size, max w.top n, w.seen.filter (fun x => decide (x < n) && decide (x > max w.top n - w.size)) ++ n :: w.seen.filter fun x => decide (x > n)⟩
def accM (w : Win) (n : Int) : Win × Int :=
  if chkW w != 0 then (⟨0, 0, []⟩, 1) else if decide (n < 0) || decide (n > 1152921504606846976) then (⟨0, 0, []⟩, 2) else if refW w n then (⟨0, 0, []⟩, 23) else (accW w n, 0)
theorem refW_f {w : Win} {n : Int} : refW w n = false ↔ n ∉ w.seen ∧ n > w.top - w.size := by simp [refW]
theorem accW_seen {w : Win} {n : Int} (h : GoodW w) (hr : refW w n = false) : AscN (accW w n).seen ∧ ∀ x, x ∈ (accW w n).seen ↔ (x ∈ w.seen ∨ x = n) ∧ x > max w.top n - w.size := by
  obtain ⟨h1, h2⟩ := refW_f.1 hr
  have hs := h.s1
  refine ⟨?_, fun x => ?_⟩
  · simp only [accW, AscN]
    rw [List.pairwise_append]
    refine ⟨h.asc.filter _, ?_, ?_⟩
    · rw [List.pairwise_cons]
      refine ⟨fun x hx => ?_, h.asc.filter _⟩
      simp only [List.mem_filter, decide_eq_true_eq] at hx
      exact hx.2
    · intro a ha b hb
      simp only [List.mem_filter, Bool.and_eq_true, decide_eq_true_eq] at ha
      simp only [List.mem_cons, List.mem_filter, decide_eq_true_eq] at hb
      rcases hb with rfl | hb
      · exact ha.2.1
      · omega
  · simp only [accW, List.mem_append, List.mem_cons, List.mem_filter, Bool.and_eq_true, decide_eq_true_eq]
    constructor
    · rintro (⟨a, b, c⟩ | rfl | ⟨a, b⟩)
      · exact ⟨.inl a, c⟩
      · exact ⟨.inr rfl, by omega⟩
      · have := h.mem x a
        exact ⟨.inl a, by omega⟩
    · rintro ⟨a | rfl, c⟩
      · rcases Int.lt_trichotomy x n with d | d | d
        · exact .inl ⟨a, d, c⟩
        · exact .inr (.inl d)
        · exact .inr (.inr ⟨a, d⟩)
      · exact .inr (.inl rfl)
theorem accW_good {w : Win} {n : Int} (h : GoodW w) (hr : refW w n = false) (h0 : 0 ≤ n) (h1 : n ≤ 1152921504606846976) : GoodW (accW w n) := by
  obtain ⟨ha, hm⟩ := accW_seen h hr
  have hs := h.s1
  have ht := h.t1
  have ht2 := h.t2
  refine ⟨h.s1, h.s2, by simp only [accW]; omega, by simp only [accW]; omega, ha, fun x hx => ?_, ?_⟩
  · obtain ⟨h2, h3⟩ := (hm x).1 hx
    simp only [accW]
    rcases h2 with h2 | rfl
    · have := h.mem x h2
      omega
    · omega
  · right
    rw [hm]
    simp only [accW]
    by_cases hn : w.top ≤ n
    · exact ⟨.inr (by omega), by omega⟩
    · refine ⟨.inl ?_, by omega⟩
      rcases h.last with e | e
      · omega
      · rw [show max w.top n = w.top by omega]; exact e
theorem acc_win {w : Win} {n : Int} (h : GoodW w) (hr : refW w n = false) (h0 : 0 ≤ n) : winM w.size (w.seen ++ [n]) = accW w n := by
  obtain ⟨ha, hm⟩ := accW_seen h hr
  refine winM_eq ?_ ?_ ha ?_
  · by_cases hn : w.top ≤ n
    · simp; right; omega
    · rcases h.last with e | e
      · omega
      · rw [show max w.top n = w.top by omega]; simp [e]
  · intro x hx
    simp only [List.mem_append, List.mem_singleton] at hx
    rcases hx with hx | rfl
    · have := h.mem x hx; omega
    · omega
  · intro x
    exact (hm x).trans (by simp)
/-- What refuses behind Accept. -/
theorem acc_ref {w : Win} {n : Int} (h : GoodW w) (hr : refW w n = false) (m : Int) : refW (accW w n) m = (refW w m || m == n || decide (m ≤ n - w.size)) := by
  obtain ⟨ha, hm⟩ := accW_seen h hr
  have hs := h.s1
  rw [Bool.eq_iff_iff]
  simp only [refW, Bool.or_eq_true, List.contains_iff_mem, decide_eq_true_eq, beq_iff_eq, hm]
  simp only [accW]
  constructor
  · rintro (⟨a | rfl, b⟩ | a)
    · exact .inl (.inl (.inl a))
    · exact .inl (.inr rfl)
    · by_cases hn : w.top ≤ n
      · right; omega
      · left; left; right; omega
  · rintro (((a | a) | rfl) | a)
    · by_cases hx : m > max w.top n - w.size
      · exact .inl ⟨.inl a, hx⟩
      · right; omega
    · right; omega
    · by_cases hx : m > max w.top m - w.size
      · exact .inl ⟨.inr rfl, hx⟩
      · right; omega
    · right; omega

/-- What Join returns. -/
def fromTo (lo hi : Int) : List Int := (List.range (hi - lo + 1).toNat).map fun (k : Nat) => lo + (k : Int)
theorem mem_fromTo {lo hi x : Int} : x ∈ fromTo lo hi ↔ lo ≤ x ∧ x ≤ hi := by
  simp only [fromTo, List.mem_map, List.mem_range]
  constructor
  · rintro ⟨k, hk, rfl⟩; omega
  · rintro ⟨h1, h2⟩; exact ⟨(x - lo).toNat, by omega, by omega⟩
theorem fromTo_asc (lo hi : Int) : AscN (fromTo lo hi) := by
  unfold fromTo AscN
  rw [List.pairwise_map]
  exact (List.pairwise_lt_range (n := (hi - lo + 1).toNat)).imp fun h => by omega
def joinW (a b : Win) : Win := ⟨a.size, max a.top b.top, (fromTo (max 0 (max a.top b.top - a.size + 1)) (max a.top b.top)).filter fun n => refW a n || refW b n⟩
def joinM (a b : Win) : Win × Int :=
  if chkW a != 0 || chkW b != 0 then (⟨0, 0, []⟩, 1) else if a.size != b.size then (⟨0, 0, []⟩, 10) else (joinW a b, 0)
theorem joinW_seen {a b : Win} (ha : GoodW a) (hb : GoodW b) (hs : a.size = b.size) : AscN (joinW a b).seen ∧ ∀ x, x ∈ (joinW a b).seen ↔ (x ∈ a.seen ∨ x ∈ b.seen) ∧ x > max a.top b.top - a.size := by
  refine ⟨(fromTo_asc _ _).filter _, fun x => ?_⟩
  have h1 := ha.mem x
  have h2 := hb.mem x
  simp only [joinW, List.mem_filter, mem_fromTo, refW, Bool.or_eq_true, List.contains_iff_mem, decide_eq_true_eq]
  constructor
  · rintro ⟨⟨c1, c2⟩, (d | d) | (d | d)⟩
    · exact ⟨.inl d, by omega⟩
    · omega
    · exact ⟨.inr d, by omega⟩
    · omega
  · rintro ⟨d | d, c⟩
    · have := h1 d; exact ⟨by omega, .inl (.inl d)⟩
    · have := h2 d; exact ⟨by omega, .inr (.inl d)⟩
theorem joinW_good {a b : Win} (ha : GoodW a) (hb : GoodW b) (hs : a.size = b.size) : GoodW (joinW a b) := by
  obtain ⟨h1, h2⟩ := joinW_seen ha hb hs
  have a1 := ha.t1
  have a2 := ha.t2
  have b1 := hb.t1
  have b2 := hb.t2
  have s1 := ha.s1
  refine ⟨ha.s1, ha.s2, by simp only [joinW]; omega, by simp only [joinW]; omega, h1, fun x hx => ?_, ?_⟩
  · obtain ⟨h3, h4⟩ := (h2 x).1 hx
    simp only [joinW]
    rcases h3 with h3 | h3
    · have := ha.mem x h3; omega
    · have := hb.mem x h3; omega
  · rw [h2]
    simp only [joinW]
    by_cases hn : a.top ≤ b.top
    · rw [show max a.top b.top = b.top by omega]
      rcases hb.last with e | e
      · exact .inl e
      · exact .inr ⟨.inr e, by omega⟩
    · rw [show max a.top b.top = a.top by omega]
      rcases ha.last with e | e
      · exact .inl e
      · exact .inr ⟨.inl e, by omega⟩
theorem join_win {a b : Win} (ha : GoodW a) (hb : GoodW b) (hs : a.size = b.size) : winM a.size (a.seen ++ b.seen) = joinW a b := by
  obtain ⟨h1, h2⟩ := joinW_seen ha hb hs
  have hg := joinW_good ha hb hs
  by_cases h0 : a.seen ++ b.seen = []
  · obtain ⟨e1, e2⟩ := List.append_eq_nil_iff.1 h0
    have ta : a.top = -1 := by rcases ha.last with e | e; · exact e
                               · rw [e1] at e; cases e
    have tb : b.top = -1 := by rcases hb.last with e | e; · exact e
                               · rw [e2] at e; cases e
    have e3 := good_empty hg (by simp only [joinW]; omega)
    have e4 : joinW a b = ⟨a.size, max a.top b.top, (joinW a b).seen⟩ := rfl
    rw [h0, e4, e3, ta, tb]; rfl
  · refine winM_eq ?_ ?_ h1 ?_
    · have : max a.top b.top ∈ (joinW a b).seen := by
        rcases hg.last with e | e
        · exfalso
          simp only [joinW] at e
          have e1 := good_empty ha (by have := ha.t1; omega)
          have e2 := good_empty hb (by have := hb.t1; omega)
          exact h0 (by rw [e1, e2]; rfl)
        · exact e
      have := ((h2 _).1 this).1
      rw [List.mem_append]; exact this
    · intro x hx
      rw [List.mem_append] at hx
      rcases hx with hx | hx
      · have := ha.mem x hx; omega
      · have := hb.mem x hx; omega
    · intro x; exact (h2 x).trans (by rw [List.mem_append])
theorem join_ref {a b : Win} (ha : GoodW a) (hb : GoodW b) (hs : a.size = b.size) (m : Int) : refW (joinW a b) m = (refW a m || refW b m) := by
  obtain ⟨h1, h2⟩ := joinW_seen ha hb hs
  rw [Bool.eq_iff_iff]
  simp only [refW, Bool.or_eq_true, List.contains_iff_mem, decide_eq_true_eq, h2]
  simp only [joinW]
  constructor
  · rintro (⟨c | c, d⟩ | d)
    · exact .inl (.inl c)
    · exact .inr (.inl c)
    · by_cases hn : a.top ≤ b.top
      · right; right; omega
      · left; right; omega
  · rintro ((c | c) | (c | c))
    · by_cases hx : m > max a.top b.top - a.size
      · exact .inl ⟨.inl c, hx⟩
      · right; omega
    · right; omega
    · by_cases hx : m > max a.top b.top - a.size
      · exact .inl ⟨.inr c, hx⟩
      · right; omega
    · right; omega
theorem join_comm {a b : Win} (ha : GoodW a) (hb : GoodW b) (hs : a.size = b.size) : joinW a b = joinW b a := by
  obtain ⟨h1, h2⟩ := joinW_seen ha hb hs
  obtain ⟨h3, h4⟩ := joinW_seen hb ha hs.symm
  refine good_ext (joinW_good ha hb hs) (joinW_good hb ha hs.symm) hs (by simp only [joinW]; omega) fun x => ?_
  rw [h2, h4, Int.max_comm, hs]
  constructor <;> (rintro ⟨c | c, d⟩ <;> exact ⟨by simp [c], d⟩)
theorem join_assoc {a b c : Win} (ha : GoodW a) (hb : GoodW b) (hc : GoodW c) (hs : a.size = b.size) (hs2 : b.size = c.size) : joinW (joinW a b) c = joinW a (joinW b c) := by
  have gab := joinW_good ha hb hs
  have gbc := joinW_good hb hc hs2
  have e1 : (joinW a b).size = c.size := by show a.size = c.size; omega
  have e2 : a.size = (joinW b c).size := hs
  obtain ⟨_, h2⟩ := joinW_seen ha hb hs
  obtain ⟨_, h4⟩ := joinW_seen hb hc hs2
  obtain ⟨_, h6⟩ := joinW_seen gab hc e1
  obtain ⟨_, h8⟩ := joinW_seen ha gbc e2
  refine good_ext (joinW_good gab hc e1) (joinW_good ha gbc e2) rfl (by simp only [joinW]; omega) fun x => ?_
  rw [h6, h8, h2, h4]
  simp only [joinW]
  constructor
  · rintro ⟨⟨d | d, e⟩ | d, f⟩
    · exact ⟨.inl d, by omega⟩
    · exact ⟨.inr ⟨.inl d, by omega⟩, by omega⟩
    · exact ⟨.inr ⟨.inr d, by omega⟩, by omega⟩
  · rintro ⟨d | ⟨d | d, e⟩, f⟩
    · exact ⟨.inl ⟨.inl d, by omega⟩, by omega⟩
    · exact ⟨.inl ⟨.inr d, by omega⟩, by omega⟩
    · exact ⟨.inr d, by omega⟩
theorem join_self {a : Win} (ha : GoodW a) : joinW a a = a := by
  obtain ⟨h1, h2⟩ := joinW_seen ha ha rfl
  refine good_ext (joinW_good ha ha rfl) ha rfl (by simp only [joinW]; omega) fun x => ?_
  rw [h2]
  constructor
  · rintro ⟨c | c, _⟩ <;> exact c
  · intro c; have := ha.mem x c; exact ⟨.inl c, by omega⟩
end Go.Mb
