/- Sets of integers as ascending lists of end points, in plain words. -/
import Derived.Test.YtbpdbibnfmdpoaaSyE
set_option linter.unusedSimpArgs false
set_option linter.unusedSectionVars false
set_option linter.unusedVariables false
namespace Go.Mb
open Go.Sy
set_option linter.unusedVariables false

structure Spn where
  lo : Int
  hi : Int
instance : Inhabited Spn := ⟨⟨0, 0⟩⟩
def Spn.cells (x : Spn) : List A := [.int .i64 x.lo, .int .i64 x.hi]
def slS (l : List Spn) : A := .sl 2 l.length (rowL Spn.cells l)
def Spn.eqv (a b : Spn) : Bool := a.lo == b.lo && (a.hi == b.hi && true)
theorem Spn.eqv_iff {a b : Spn} : a.eqv b = true ↔ a = b := by
  cases a; cases b; simp [Spn.eqv]
def vS (x : Spn) : Bool := decide (x.lo < x.hi) && (decide (-1152921504606846976 ≤ x.lo) && decide (x.hi ≤ 1152921504606846976))
def gapB (p : Option Int) (x : Spn) : Bool := match p with | some t => decide (x.lo ≤ t) | none => false
/-- Why a list is no set. -/
def chkL : Option Int → List Spn → Int
  | _, [] => 0
  | p, x :: l => if vS x then (if gapB p x then 9 else chkL (some x.hi) l) else 2
def chkS (l : List Spn) : Int := if l.length > 1000 then 4 else chkL none l
def has1 (t : Int) (x : Spn) : Bool := decide (x.lo ≤ t) && decide (t < x.hi)
def hasL (l : List Spn) (t : Int) : Bool := l.any (has1 t)

/-- The end points, one behind the other. -/
def flatS : List Spn → List Int
  | [] => []
  | x :: l => x.lo :: x.hi :: flatS l
/-- .. put together; the last one may be open. -/
def pairS : List Int → List Spn
  | [] => []
  | [x] => [⟨x, 0⟩]
  | x :: y :: l => ⟨x, y⟩ :: pairS l
theorem pair_flat : ∀ l : List Spn, pairS (flatS l) = l
  | [] => rfl
  | x :: l => by simp [flatS, pairS, pair_flat l]
theorem flat_len : ∀ l : List Spn, (flatS l).length = 2 * l.length
  | [] => rfl
  | x :: l => by simp [flatS, flat_len l]; omega
theorem flat_pair : ∀ r : List Int, r.length % 2 = 0 → flatS (pairS r) = r
  | [], _ => rfl
  | [x], h => by simp at h
  | x :: y :: l, h => by simp [pairS, flatS]; exact flat_pair l (by simp only [List.length_cons] at h; omega)
theorem pair_len : ∀ r : List Int, (pairS r).length = (r.length + 1) / 2
  | [] => by simp [pairS]
  | [x] => by simp [pairS]
  | x :: y :: l => by simp [pairS, pair_len l]; omega

/-- Ascending. -/
def Asc (r : List Int) : Prop := r.Pairwise (· < ·)
def Bnd (r : List Int) : Prop := ∀ x ∈ r, -1152921504606846976 ≤ x ∧ x ≤ 1152921504606846976
/-- Whether an integer lies inside: an odd number of end points is not behind it. -/
def inF : List Int → Int → Bool
  | [], _ => false
  | x :: l, t => if x ≤ t then !inF l t else false
theorem inF_lt {r : List Int} {t : Int} (h : ∀ x ∈ r, t < x) : inF r t = false := by
  cases r with
  | nil => rfl
  | cons x l => simp only [inF]; rw [if_neg (by have := h x (by simp); omega)]
theorem has_flat : ∀ {l : List Spn}, Asc (flatS l) → ∀ t, inF (flatS l) t = hasL l t
  | [], _, t => rfl
  | x :: l, h, t => by
    simp only [flatS, Asc, List.pairwise_cons] at h
    obtain ⟨h1, h2, h3⟩ := h
    have ih := has_flat (l := l) h3 t
    have hx := h1 x.hi (by simp)
    simp only [flatS, inF, hasL, List.any_cons, has1] at ih ⊢
    by_cases a : x.lo ≤ t
    · rw [if_pos a]
      by_cases b : x.hi ≤ t
      · rw [if_pos b, ih]; simp [a, show ¬ t < x.hi by omega]
      · have : hasL l t = false := by rw [← has_flat (l := l) h3 t]; exact inF_lt fun y hy => by have := h2 y hy; omega
        simp only [hasL, has1] at this
        rw [if_neg b, this]; simp [a, show t < x.hi by omega]
    · have : hasL l t = false := by rw [← has_flat (l := l) h3 t]; exact inF_lt fun y hy => by have := h2 y hy; omega
      simp only [hasL, has1] at this
      rw [if_neg a, this]; simp [a]
/-- Two ascending lists with the same points inside are one. -/
theorem inF_inj : ∀ {r s : List Int}, Asc r → Asc s → (∀ t, inF r t = inF s t) → r = s
  | [], [], _, _, _ => rfl
  | [], y :: s, _, hs, h => by
    have h1 := h y
    simp only [Asc, List.pairwise_cons] at hs
    simp only [inF, Int.le_refl, if_true] at h1
    rw [inF_lt hs.1] at h1; cases h1
  | x :: r, [], hr, _, h => by
    have h1 := h x
    simp only [Asc, List.pairwise_cons] at hr
    simp only [inF, Int.le_refl, if_true] at h1
    rw [inF_lt hr.1] at h1; cases h1
  | x :: r, y :: s, hr, hs, h => by
    simp only [Asc, List.pairwise_cons] at hr hs
    have h1 := h x
    have h2 := h y
    simp only [inF, Int.le_refl, if_true] at h1 h2
    rw [inF_lt hr.1] at h1
    rw [inF_lt hs.1] at h2
    have hxy : x = y := by
      by_cases a : y ≤ x
      · by_cases b : x ≤ y
        · omega
        · rw [if_neg b] at h2; cases h2
      · rw [if_neg a] at h1; cases h1
    subst hxy
    rw [inF_inj hr.2 hs.2 fun t => ?_]
    have h3 := h t
    simp only [inF] at h3
    by_cases a : x ≤ t
    · rw [if_pos a, if_pos a] at h3
      cases h4 : inF r t <;> cases h5 : inF s t <;> simp_all
    · rw [inF_lt fun z hz => by have := hr.1 z hz; omega, inF_lt fun z hz => by have := hs.1 z hz; omega]

/-- A set, in these words. -/
theorem chk_iff : ∀ (p : Option Int) (l : List Spn), chkL p l = 0 ↔ Asc (flatS l) ∧ Bnd (flatS l) ∧ (∀ t, p = some t → ∀ x ∈ flatS l, t < x)
  | p, [] => by simp [chkL, flatS, Asc, Bnd]
  | p, x :: l => by
    have ih := chk_iff (some x.hi) l
    unfold chkL
    by_cases hv : vS x = true
    · rw [if_pos hv]
      simp only [vS, Bool.and_eq_true, decide_eq_true_eq] at hv
      by_cases hg : gapB p x = true
      · rw [if_pos hg]
        constructor
        · intro h; cases h
        · rintro ⟨_, _, h⟩
          cases p with
          | none => simp [gapB] at hg
          | some t =>
            simp [gapB] at hg
            have := h t rfl x.lo (by simp [flatS])
            omega
      · rw [if_neg hg, ih]
        simp only [flatS, Asc, List.pairwise_cons, Bnd, List.mem_cons]
        constructor
        · rintro ⟨h1, h2, h3⟩
          have h3' := h3 x.hi rfl
          refine ⟨⟨fun y hy => ?_, fun y hy => h3' y hy, h1⟩, fun y hy => ?_, fun t ht y hy => ?_⟩
          · rcases hy with rfl | hy
            · exact hv.1
            · have := h3' y hy; omega
          · rcases hy with rfl | rfl | hy
            · omega
            · omega
            · exact h2 y hy
          · subst ht
            simp [gapB] at hg
            rcases hy with rfl | rfl | hy
            · exact hg
            · omega
            · have := h3' y hy; omega
        · rintro ⟨⟨h1, h2, h3⟩, h4, h5⟩
          exact ⟨h3, fun y hy => h4 y (.inr (.inr hy)), fun t ht y hy => by cases ht; exact h2 y hy⟩
    · rw [if_neg hv]
      constructor
      · intro h; cases h
      · rintro ⟨h1, h2, _⟩
        exfalso
        apply hv
        simp only [flatS, Asc, List.pairwise_cons] at h1
        have a := h1.1 x.hi (by simp)
        have b := h2 x.lo (by simp [flatS])
        have c := h2 x.hi (by simp [flatS])
        simp only [vS, Bool.and_eq_true, decide_eq_true_eq]
        omega
/-- A set of any number of intervals. -/
def SetL (l : List Spn) : Prop := Asc (flatS l) ∧ Bnd (flatS l)
theorem chk_set (l : List Spn) : chkL none l = 0 ↔ SetL l := by
  rw [chk_iff]; simp [SetL]
theorem chkS_zero (l : List Spn) : chkS l = 0 ↔ l.length ≤ 1000 ∧ SetL l := by
  unfold chkS
  split
  · constructor
    · intro h; cases h
    · rintro ⟨h, _⟩; omega
  · rw [chk_set]
    constructor
    · exact fun h => ⟨by omega, h⟩
    · exact fun h => h.2
theorem set_inj {l m : List Spn} (hl : SetL l) (hm : SetL m) (h : ∀ t, hasL l t = hasL m t) : l = m := by
  have := inF_inj hl.1 hm.1 fun t => by rw [has_flat hl.1, has_flat hm.1, h t]
  rw [← pair_flat l, ← pair_flat m, this]

/-- The points at which a function of two sets changes. -/
def sw (f : Bool → Bool → Bool) : List Int → List Int → Bool → Bool → List Int
  | [], [], _, _ => []
  | x :: p, [], a, b => if f (!a) b == f a b then sw f p [] (!a) b else x :: sw f p [] (!a) b
  | [], y :: q, a, b => if f a (!b) == f a b then sw f [] q a (!b) else y :: sw f [] q a (!b)
  | x :: p, y :: q, a, b =>
    if x < y then (if f (!a) b == f a b then sw f p (y :: q) (!a) b else x :: sw f p (y :: q) (!a) b)
    else if y < x then (if f a (!b) == f a b then sw f (x :: p) q a (!b) else y :: sw f (x :: p) q a (!b))
    else (if f (!a) (!b) == f a b then sw f p q (!a) (!b) else x :: sw f p q (!a) (!b))
  termination_by p q => p.length + q.length
theorem sw_len (f : Bool → Bool → Bool) (p q : List Int) (a b : Bool) : (sw f p q a b).length ≤ p.length + q.length := by
  fun_induction sw f p q a b <;> simp_all <;> omega
theorem sw_mem (f : Bool → Bool → Bool) (p q : List Int) (a b : Bool) : ∀ z ∈ sw f p q a b, z ∈ p ∨ z ∈ q := by
  fun_induction sw f p q a b <;> simp_all <;> grind
theorem sw_asc (f : Bool → Bool → Bool) (p q : List Int) (a b : Bool) (hp : Asc p) (hq : Asc q) : Asc (sw f p q a b) := by
  fun_induction sw f p q a b <;> simp_all [Asc, List.pairwise_cons] <;> (intro z hz; have := sw_mem _ _ _ _ _ z hz; grind)
theorem tri (t x : Int) : t < x ∨ x ≤ t := by omega
theorem xor_not (a u : Bool) : (!a).xor u = a.xor (!u) := by cases a <;> cases u <;> rfl
theorem beq_f {x y : Bool} (h : ¬ (x == y) = true) : x = !y := by cases x <;> cases y <;> simp_all
theorem not_xor (a u : Bool) : (!a).xor (!u) = a.xor u := by cases a <;> cases u <;> rfl
theorem inF_ge {x : Int} {p : List Int} {t : Int} (h : x ≤ t) : inF (x :: p) t = !inF p t := by simp only [inF]; rw [if_pos h]
theorem inF_no {x : Int} {p : List Int} {t : Int} (h : t < x) : inF (x :: p) t = false := by simp only [inF]; rw [if_neg (by omega)]
theorem asc_tl {x : Int} {p : List Int} (h : Asc (x :: p)) : Asc p ∧ ∀ z ∈ p, x < z := by
  simp only [Asc, List.pairwise_cons] at h; exact ⟨h.2, h.1⟩
theorem sw_no (f : Bool → Bool → Bool) {p q : List Int} {a b : Bool} {t : Int} (hp : ∀ z ∈ p, t < z) (hq : ∀ z ∈ q, t < z) : inF (sw f p q a b) t = false :=
  inF_lt fun z hz => by
    rcases sw_mem f p q a b z hz with h | h
    · exact hp z h
    · exact hq z h
theorem sw_in (f : Bool → Bool → Bool) (p q : List Int) (a b : Bool) (hp : Asc p) (hq : Asc q) (t : Int) : (inF (sw f p q a b) t).xor (f a b) = f (a.xor (inF p t)) (b.xor (inF q t)) := by
  fun_induction sw f p q a b
  case case1 a b => simp [inF]
  case case2 x p a b he ih =>
    obtain ⟨h1, h2⟩ := asc_tl hp
    rcases tri t x with ht | ht
    · rw [sw_no f (fun z hz => by have := h2 z hz; omega) (fun z hz => by cases hz), inF_no ht]; simp [inF]
    · rw [inF_ge ht, ← xor_not, ← ih h1 hq, eq_of_beq he]
  case case3 x p a b he ih =>
    obtain ⟨h1, h2⟩ := asc_tl hp
    rcases tri t x with ht | ht
    · rw [inF_no ht, inF_no ht]; simp [inF]
    · rw [inF_ge ht, inF_ge ht, ← xor_not, ← ih h1 hq, beq_f he, xor_not]
  case case4 y q a b he ih =>
    obtain ⟨h1, h2⟩ := asc_tl hq
    rcases tri t y with ht | ht
    · rw [sw_no f (fun z hz => by cases hz) (fun z hz => by have := h2 z hz; omega), inF_no ht]; simp [inF]
    · rw [inF_ge ht, ← xor_not, ← ih hp h1, eq_of_beq he]
  case case5 y q a b he ih =>
    obtain ⟨h1, h2⟩ := asc_tl hq
    rcases tri t y with ht | ht
    · rw [inF_no ht, inF_no ht]; simp [inF]
    · rw [inF_ge ht, inF_ge ht, ← xor_not, ← ih hp h1, beq_f he, xor_not]
  case case6 x p y q a b hxy he ih =>
    obtain ⟨h1, h2⟩ := asc_tl hp
    have h3 := (asc_tl hq).2
    rcases tri t x with ht | ht
    · rw [sw_no f (fun z hz => by have := h2 z hz; omega) (fun z hz => by rcases List.mem_cons.1 hz with rfl | hz; omega; have := h3 z hz; omega), inF_no ht, inF_no (x := y) (by omega)]; simp
    · rw [inF_ge (x := x) ht, ← xor_not, ← ih h1 hq, eq_of_beq he]
  case case7 x p y q a b hxy he ih =>
    obtain ⟨h1, h2⟩ := asc_tl hp
    rcases tri t x with ht | ht
    · rw [inF_no ht, inF_no ht, inF_no (x := y) (by omega)]; simp
    · rw [inF_ge (x := x) ht, inF_ge (x := x) ht, ← xor_not, ← ih h1 hq, beq_f he, xor_not]
  case case8 x p y q a b hxy hyx he ih =>
    obtain ⟨h1, h2⟩ := asc_tl hq
    have h3 := (asc_tl hp).2
    rcases tri t y with ht | ht
    · rw [sw_no f (fun z hz => by rcases List.mem_cons.1 hz with rfl | hz; omega; have := h3 z hz; omega) (fun z hz => by have := h2 z hz; omega), inF_no ht, inF_no (x := x) (by omega)]; simp
    · rw [inF_ge (x := y) ht, ← xor_not, ← ih hp h1, eq_of_beq he]
  case case9 x p y q a b hxy hyx he ih =>
    obtain ⟨h1, h2⟩ := asc_tl hq
    rcases tri t y with ht | ht
    · rw [inF_no ht, inF_no ht, inF_no (x := x) (by omega)]; simp
    · rw [inF_ge (x := y) ht, inF_ge (x := y) ht, ← xor_not, ← ih hp h1, beq_f he, xor_not]
  case case10 x p y q a b hxy hyx he ih =>
    obtain ⟨h1, h2⟩ := asc_tl hp
    obtain ⟨h3, h4⟩ := asc_tl hq
    have hxe : x = y := by omega
    rcases tri t x with ht | ht
    · rw [sw_no f (fun z hz => by have := h2 z hz; omega) (fun z hz => by have := h4 z hz; omega), inF_no ht, inF_no (x := y) (by omega)]; simp
    · rw [inF_ge (x := x) ht, inF_ge (x := y) (by omega), ← xor_not, ← xor_not, ← ih h1 h3, eq_of_beq he]
  case case11 x p y q a b hxy hyx he ih =>
    obtain ⟨h1, h2⟩ := asc_tl hp
    obtain ⟨h3, h4⟩ := asc_tl hq
    have hxe : x = y := by omega
    rcases tri t x with ht | ht
    · rw [inF_no ht, inF_no ht, inF_no (x := y) (by omega)]; simp
    · rw [inF_ge (x := x) ht, inF_ge (x := x) ht, inF_ge (x := y) (by omega), ← xor_not, ← xor_not, ← ih h1 h3, beq_f he, xor_not]
/-- An even number, where the function is false of two points outside. -/
theorem inF_big : ∀ (r : List Int) (t : Int), (∀ x ∈ r, x ≤ t) → inF r t = decide (r.length % 2 = 1)
  | [], t, _ => by simp [inF]
  | x :: r, t, h => by
    rw [inF_ge (h x (by simp)), inF_big r t fun z hz => h z (by simp [hz])]
    rw [← decide_not]
    apply decide_eq_decide.2
    simp only [List.length_cons]
    omega
theorem bound_ex : ∀ r : List Int, ∃ t : Int, ∀ x ∈ r, x ≤ t
  | [] => ⟨0, by simp⟩
  | x :: r => by
    obtain ⟨t, ht⟩ := bound_ex r
    refine ⟨max x t, fun y hy => ?_⟩
    rcases List.mem_cons.1 hy with rfl | hy
    · omega
    · have := ht y hy; omega
/-- The set of the integers for which a function of two sets is true. -/
def combL (f : Bool → Bool → Bool) (a b : List Spn) : List Spn := pairS (sw f (flatS a) (flatS b) false false)
theorem comb_spec {f : Bool → Bool → Bool} (hf : f false false = false) {a b : List Spn} (ha : SetL a) (hb : SetL b) : SetL (combL f a b) ∧ (∀ t, hasL (combL f a b) t = f (hasL a t) (hasL b t)) ∧ (combL f a b).length ≤ a.length + b.length := by
  have hasc := sw_asc f (flatS a) (flatS b) false false ha.1 hb.1
  have hin := sw_in f (flatS a) (flatS b) false false ha.1 hb.1
  have hmem := sw_mem f (flatS a) (flatS b) false false
  have hlen := sw_len f (flatS a) (flatS b) false false
  rw [flat_len, flat_len] at hlen
  simp only [hf, Bool.xor_false, Bool.false_xor] at hin
  have heven : (sw f (flatS a) (flatS b) false false).length % 2 = 0 := by
    obtain ⟨t, ht⟩ := bound_ex (flatS a ++ flatS b ++ sw f (flatS a) (flatS b) false false)
    have h1 := hin t
    rw [inF_big _ t (fun x hx => ht x (by simp [hx])), inF_big _ t (fun x hx => ht x (by simp [hx])), inF_big _ t (fun x hx => ht x (by simp [hx])), flat_len, flat_len] at h1
    have e1 : decide (2 * a.length % 2 = 1) = false := by simp
    have e2 : decide (2 * b.length % 2 = 1) = false := by simp
    rw [e1, e2, hf] at h1
    simp at h1
    exact h1
  have hfl : flatS (combL f a b) = sw f (flatS a) (flatS b) false false := flat_pair _ heven
  refine ⟨⟨by rw [hfl]; exact hasc, by rw [hfl]; intro x hx; rcases hmem x hx with h | h; exact ha.2 x h; exact hb.2 x h⟩, fun t => ?_, ?_⟩
  · rw [← has_flat (by rw [hfl]; exact hasc), hfl, hin, has_flat ha.1, has_flat hb.1]
  · unfold combL
    rw [pair_len]
    omega

/-- Intervals that ascend by their beginnings, joined. -/
def mgL : Spn → List Spn → List Spn
  | c, [] => [c]
  | c, x :: l => if x.lo ≤ c.hi then mgL ⟨c.lo, max c.hi x.hi⟩ l else c :: mgL x l
def joinL : List Spn → List Spn
  | [] => []
  | x :: l => mgL x l
theorem mg_spec : ∀ (l : List Spn) (c : Spn), vS c = true → (∀ x ∈ l, vS x = true) → (∀ x ∈ l, c.lo ≤ x.lo) → l.Pairwise (fun x y => x.lo ≤ y.lo) →
    SetL (mgL c l) ∧ (∀ t, hasL (mgL c l) t = (has1 t c || hasL l t)) ∧ (∀ z ∈ flatS (mgL c l), c.lo ≤ z) ∧ (mgL c l).length ≤ l.length + 1
  | [], c, hc, _, _, _ => by
    simp only [vS, Bool.and_eq_true, decide_eq_true_eq] at hc
    refine ⟨⟨?_, ?_⟩, fun t => by simp [mgL, hasL], ?_, by simp [mgL]⟩
    · simp [mgL, flatS, Asc]; omega
    · intro x hx; simp [mgL, flatS] at hx; omega
    · intro x hx; simp [mgL, flatS] at hx; omega
  | x :: l, c, hc, hv, hb, hs => by
    have hvx := hv x (by simp)
    have hbx := hb x (by simp)
    have hc' := hc
    have hvx' := hvx
    simp only [vS, Bool.and_eq_true, decide_eq_true_eq] at hc' hvx'
    rw [List.pairwise_cons] at hs
    unfold mgL
    split
    · rename_i hle
      obtain ⟨i1, i2, i3, i4⟩ := mg_spec l ⟨c.lo, max c.hi x.hi⟩ (by simp only [vS, Bool.and_eq_true, decide_eq_true_eq]; omega) (fun y hy => hv y (by simp [hy])) (fun y hy => hb y (by simp [hy])) hs.2
      refine ⟨i1, fun t => ?_, i3, by simp; omega⟩
      rw [i2]
      simp only [hasL, List.any_cons, ← Bool.or_assoc]
      congr 1
      rw [Bool.eq_iff_iff]
      simp only [has1, Bool.or_eq_true, Bool.and_eq_true, decide_eq_true_eq]
      omega
    · rename_i hle
      obtain ⟨i1, i2, i3, i4⟩ := mg_spec l x hvx (fun y hy => hv y (by simp [hy])) (fun y hy => hs.1 y hy) hs.2
      refine ⟨⟨?_, ?_⟩, fun t => ?_, ?_, by simp; omega⟩
      · simp only [flatS, Asc, List.pairwise_cons]
        refine ⟨fun z hz => ?_, fun z hz => by have := i3 z hz; omega, i1.1⟩
        rcases List.mem_cons.1 hz with rfl | hz
        · exact hc'.1
        · have := i3 z hz; omega
      · intro z hz
        simp only [flatS, List.mem_cons] at hz
        rcases hz with rfl | rfl | hz
        · omega
        · omega
        · exact i1.2 z hz
      · simp only [hasL, List.any_cons] at i2 ⊢
        rw [i2]
      · intro z hz
        simp only [flatS, List.mem_cons] at hz
        rcases hz with rfl | rfl | hz
        · omega
        · omega
        · have := i3 z hz; omega
theorem join_spec {l : List Spn} (hv : ∀ x ∈ l, vS x = true) (hs : l.Pairwise (fun x y => x.lo ≤ y.lo)) : SetL (joinL l) ∧ (∀ t, hasL (joinL l) t = hasL l t) ∧ (joinL l).length ≤ l.length := by
  cases l with
  | nil => exact ⟨⟨by simp [joinL, flatS, Asc], by simp [joinL, flatS, Bnd]⟩, fun t => rfl, by simp [joinL]⟩
  | cons x l =>
    rw [List.pairwise_cons] at hs
    obtain ⟨h1, h2, _, h4⟩ := mg_spec l x (hv x (by simp)) (fun y hy => hv y (by simp [hy])) hs.1 hs.2
    exact ⟨h1, fun t => by rw [joinL, h2]; simp [hasL], by simpa [joinL] using h4⟩
theorem hasL_perm {l m : List Spn} (h : l.Perm m) (t : Int) : hasL l t = hasL m t := by
  unfold hasL
  rw [Bool.eq_iff_iff]
  simp only [List.any_eq_true]
  constructor
  · rintro ⟨x, hx, h2⟩; exact ⟨x, h.mem_iff.1 hx, h2⟩
  · rintro ⟨x, hx, h2⟩; exact ⟨x, h.mem_iff.2 hx, h2⟩
/-- The normal form. -/
def normL (l : List Spn) : List Spn := joinL (l.mergeSort fun x y => decide (x.lo ≤ y.lo))
theorem norm_sorted (l : List Spn) : (l.mergeSort fun x y => decide (x.lo ≤ y.lo)).Pairwise (fun x y => x.lo ≤ y.lo) := by
  have := List.pairwise_mergeSort (le := fun x y : Spn => decide (x.lo ≤ y.lo)) (fun a b c h1 h2 => by simp at h1 h2 ⊢; omega) (fun a b => by simp; omega) l
  exact this.imp (by simp)
theorem norm_spec {l : List Spn} (hv : ∀ x ∈ l, vS x = true) : SetL (normL l) ∧ (∀ t, hasL (normL l) t = hasL l t) ∧ (normL l).length ≤ l.length := by
  have hp := List.mergeSort_perm l fun x y => decide (x.lo ≤ y.lo)
  obtain ⟨h1, h2, h3⟩ := join_spec (fun x hx => hv x (hp.mem_iff.1 hx)) (norm_sorted l)
  exact ⟨h1, fun t => (h2 t).trans (hasL_perm hp t), by rw [← hp.length_eq]; exact h3⟩
/-- Any list in order leads there. -/
theorem join_perm {l d : List Spn} (hv : ∀ x ∈ l, vS x = true) (hp : d.Perm l) (hs : d.Pairwise (fun x y => x.lo ≤ y.lo)) : joinL d = normL l := by
  obtain ⟨h1, h2, _⟩ := join_spec (fun x hx => hv x (hp.mem_iff.1 hx)) hs
  obtain ⟨h3, h4, _⟩ := norm_spec hv
  exact set_inj h1 h3 fun t => by rw [h2, h4, hasL_perm hp]
end Go.Mb
