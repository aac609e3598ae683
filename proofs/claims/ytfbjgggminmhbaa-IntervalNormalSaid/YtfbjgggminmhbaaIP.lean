/- The reference's operations on sets, in plain words. -/
import Derived.Test.YtfbjgggminmhbaaIA
set_option linter.unusedSimpArgs false
set_option linter.unusedSectionVars false
set_option linter.unusedVariables false
namespace Go.Mb
open Go.Sy
set_option linter.unusedVariables false

theorem flat_app (l m : List Spn) : flatS (l ++ m) = flatS l ++ flatS m := by
  induction l with
  | nil => rfl
  | cons x l ih => simp [flatS, ih]
theorem hasL_app (l m : List Spn) (t : Int) : hasL (l ++ m) t = (hasL l t || hasL m t) := by simp [hasL]
theorem hasL_cons (x : Spn) (l : List Spn) (t : Int) : hasL (x :: l) t = (has1 t x || hasL l t) := by simp [hasL]
theorem set_nil : SetL [] := ⟨by simp [flatS, Asc], by simp [flatS, Bnd]⟩
theorem set_cons {x : Spn} {l : List Spn} : SetL (x :: l) ↔ vS x = true ∧ (∀ z ∈ flatS l, x.hi < z) ∧ SetL l := by
  simp only [SetL, flatS, Asc, List.pairwise_cons, Bnd, List.mem_cons, vS, Bool.and_eq_true, decide_eq_true_eq]
  constructor
  · rintro ⟨⟨h1, h2, h3⟩, h4⟩
    have a := h1 x.hi (.inl rfl)
    have b := h4 x.lo (.inl rfl)
    have c := h4 x.hi (.inr (.inl rfl))
    exact ⟨⟨a, by omega, by omega⟩, h2, h3, fun z hz => h4 z (.inr (.inr hz))⟩
  · rintro ⟨⟨h1, h2, h3⟩, h4, h5, h6⟩
    refine ⟨⟨fun z hz => ?_, h4, h5⟩, fun z hz => ?_⟩
    · rcases hz with rfl | hz
      · exact h1
      · have := h4 z hz; omega
    · rcases hz with rfl | rfl | hz
      · omega
      · omega
      · exact h6 z hz
theorem set_app {l m : List Spn} (hl : SetL l) (hm : SetL m) (h : ∀ p ∈ flatS l, ∀ q ∈ flatS m, p < q) : SetL (l ++ m) := by
  refine ⟨?_, ?_⟩
  · rw [flat_app]; exact List.pairwise_append.2 ⟨hl.1, hm.1, h⟩
  · rw [flat_app]; intro x hx
    rcases List.mem_append.1 hx with hx | hx
    · exact hl.2 x hx
    · exact hm.2 x hx
theorem mem_flat {l : List Spn} {z : Int} (h : z ∈ flatS l) : ∃ x ∈ l, z = x.lo ∨ z = x.hi := by
  induction l with
  | nil => simp [flatS] at h
  | cons x l ih =>
    simp only [flatS, List.mem_cons] at h
    rcases h with h | h | h
    · exact ⟨x, by simp, .inl h⟩
    · exact ⟨x, by simp, .inr h⟩
    · obtain ⟨y, hy, h⟩ := ih h; exact ⟨y, by simp [hy], h⟩
theorem flat_mem {l : List Spn} {x : Spn} (h : x ∈ l) : x.lo ∈ flatS l ∧ x.hi ∈ flatS l := by
  induction l with
  | nil => cases h
  | cons y l ih =>
    rcases List.mem_cons.1 h with rfl | h
    · simp [flatS]
    · have := ih h; simp [flatS, this]

/-- The reference's insertion. -/
def insB : List Spn → Spn → List Spn
  | [], x => [x]
  | y :: l, x => if y.lo ≤ x.hi then insB l ⟨min x.lo y.lo, max x.hi y.hi⟩ else x :: y :: l
def insA : List Spn → Spn → List Spn
  | [], x => [x]
  | y :: l, x => if y.hi < x.lo then y :: insA l x else insB (y :: l) x
theorem insB_spec : ∀ (l : List Spn) (x : Spn), SetL l → vS x = true → (∀ y ∈ l, x.lo ≤ y.hi) → SetL (insB l x) ∧ (∀ t, hasL (insB l x) t = (hasL l t || has1 t x)) ∧ (insB l x).length ≤ l.length + 1 ∧ (∀ c, c < x.lo → (∀ z ∈ flatS l, c < z) → ∀ z ∈ flatS (insB l x), c < z)
  | [], x, _, hx, _ => by
    have hx' := hx
    simp only [vS, Bool.and_eq_true, decide_eq_true_eq] at hx'
    refine ⟨set_cons.2 ⟨hx, by simp [flatS], set_nil⟩, fun t => by simp [insB, hasL], by simp [insB], fun c hc _ z hz => ?_⟩
    simp [insB, flatS] at hz; omega
  | y :: l, x, hs, hx, hd => by
    have hx' := hx
    simp only [vS, Bool.and_eq_true, decide_eq_true_eq] at hx'
    obtain ⟨s1, s2, s3⟩ := set_cons.1 hs
    have s1' := s1
    simp only [vS, Bool.and_eq_true, decide_eq_true_eq] at s1'
    unfold insB
    split
    · rename_i hle
      have hdy := hd y (by simp)
      obtain ⟨i1, i2, i3, i4⟩ := insB_spec l ⟨min x.lo y.lo, max x.hi y.hi⟩ s3 (by simp only [vS, Bool.and_eq_true, decide_eq_true_eq]; omega) (fun z hz => by have := hd z (by simp [hz]); simp only; omega)
      refine ⟨i1, fun t => ?_, by simp; omega, fun c hc hl z hz => ?_⟩
      · rw [i2, hasL_cons, Bool.or_comm (has1 t y), Bool.or_assoc]
        congr 1
        rw [Bool.eq_iff_iff]
        simp only [has1, Bool.or_eq_true, Bool.and_eq_true, decide_eq_true_eq]
        omega
      · have hy := hl y.lo (by simp [flatS])
        exact i4 c (by simp only; omega) (fun w hw => hl w (by simp [flatS, hw])) z hz
    · rename_i hle
      refine ⟨set_cons.2 ⟨hx, fun z hz => ?_, hs⟩, fun t => ?_, by simp, fun c hc hl z hz => ?_⟩
      · simp only [flatS, List.mem_cons] at hz
        rcases hz with rfl | rfl | hz
        · omega
        · omega
        · have := s2 z hz; omega
      · rw [hasL_cons, Bool.or_comm]
      · rw [show flatS (x :: y :: l) = x.lo :: x.hi :: flatS (y :: l) from rfl] at hz
        simp only [List.mem_cons] at hz
        rcases hz with rfl | rfl | hz
        · exact hc
        · omega
        · exact hl z hz
theorem insA_spec : ∀ (l : List Spn) (x : Spn), SetL l → vS x = true → SetL (insA l x) ∧ (∀ t, hasL (insA l x) t = (hasL l t || has1 t x)) ∧ (insA l x).length ≤ l.length + 1 ∧ (∀ c, c < x.lo → (∀ z ∈ flatS l, c < z) → ∀ z ∈ flatS (insA l x), c < z)
  | [], x, hs, hx => insB_spec [] x hs hx (by simp)
  | y :: l, x, hs, hx => by
    obtain ⟨s1, s2, s3⟩ := set_cons.1 hs
    unfold insA
    split
    · rename_i hlt
      obtain ⟨i1, i2, i3, i4⟩ := insA_spec l x s3 hx
      refine ⟨set_cons.2 ⟨s1, i4 y.hi hlt s2, i1⟩, fun t => ?_, by simp; omega, fun c hc hl z hz => ?_⟩
      · rw [hasL_cons, i2, hasL_cons, Bool.or_assoc]
      · simp only [flatS, List.mem_cons] at hz
        rcases hz with rfl | rfl | hz
        · exact hl _ (by simp [flatS])
        · exact hl _ (by simp [flatS])
        · exact i4 c hc (fun w hw => hl w (by simp [flatS, hw])) z hz
    · rename_i hlt
      exact insB_spec (y :: l) x hs hx fun w hw => by
        rcases List.mem_cons.1 hw with rfl | hw
        · omega
        · have := s2 _ (flat_mem hw).2; omega
def foldI (a b : List Spn) : List Spn := b.foldl insA a
theorem foldI_spec : ∀ (b a : List Spn), SetL a → (∀ x ∈ b, vS x = true) → SetL (foldI a b) ∧ (∀ t, hasL (foldI a b) t = (hasL a t || hasL b t)) ∧ (foldI a b).length ≤ a.length + b.length
  | [], a, ha, _ => ⟨ha, fun t => by simp [foldI, hasL], by simp [foldI]⟩
  | x :: b, a, ha, hb => by
    obtain ⟨i1, i2, i3, _⟩ := insA_spec a x ha (hb x (by simp))
    obtain ⟨j1, j2, j3⟩ := foldI_spec b (insA a x) i1 fun y hy => hb y (by simp [hy])
    refine ⟨j1, fun t => ?_, by simp only [foldI, List.foldl_cons, List.length_cons] at j3 ⊢; omega⟩
    show hasL (foldI (insA a x) b) t = _
    rw [j2, i2, hasL_cons, Bool.or_assoc]
theorem set_all {l : List Spn} (h : SetL l) : ∀ x ∈ l, vS x = true := by
  induction l with
  | nil => intro x hx; cases hx
  | cons y l ih =>
    obtain ⟨h1, _, h3⟩ := set_cons.1 h
    intro x hx
    rcases List.mem_cons.1 hx with rfl | hx
    · exact h1
    · exact ih h3 x hx
theorem foldI_norm {l : List Spn} (hv : ∀ x ∈ l, vS x = true) : foldI [] l = normL l := by
  obtain ⟨h1, h2, _⟩ := foldI_spec l [] set_nil hv
  obtain ⟨h3, h4, _⟩ := norm_spec hv
  exact set_inj h1 h3 fun t => by rw [h2, h4]; simp [hasL]
theorem foldI_comb {a b : List Spn} (ha : SetL a) (hb : SetL b) : foldI a b = combL (fun x y => x || y) a b := by
  obtain ⟨h1, h2, _⟩ := foldI_spec b a ha (set_all hb)
  obtain ⟨h3, h4, _⟩ := comb_spec (f := fun x y => x || y) rfl ha hb
  exact set_inj h1 h3 fun t => by rw [h2, h4]

/-- The reference's intersection. -/
def int1 (x y : Spn) : List Spn := if max x.lo y.lo < min x.hi y.hi then [⟨max x.lo y.lo, min x.hi y.hi⟩] else []
def intR (x : Spn) (b : List Spn) : List Spn := b.flatMap (int1 x)
def bothL (a b : List Spn) : List Spn := a.flatMap fun x => intR x b
theorem int1_has (x y : Spn) (t : Int) : hasL (int1 x y) t = (has1 t x && has1 t y) := by
  unfold int1
  split
  · simp only [hasL, List.any_cons, List.any_nil, Bool.or_false]
    rw [Bool.eq_iff_iff]
    simp only [has1, Bool.and_eq_true, decide_eq_true_eq]
    omega
  · rename_i h
    simp only [hasL, List.any_nil]
    symm
    rw [← Bool.not_eq_true]
    simp only [has1, Bool.and_eq_true, decide_eq_true_eq]
    omega
theorem intR_spec : ∀ (b : List Spn) (x : Spn), SetL b → vS x = true → SetL (intR x b) ∧ (∀ t, hasL (intR x b) t = (has1 t x && hasL b t)) ∧ (∀ z ∈ flatS (intR x b), x.lo ≤ z ∧ z ≤ x.hi) ∧ (∀ c, (∀ z ∈ flatS b, c < z) → ∀ z ∈ flatS (intR x b), c < z) ∧ (intR x b).length ≤ b.length
  | [], x, _, _ => ⟨set_nil, fun t => by simp [intR, hasL], by simp [intR, flatS], by simp [intR, flatS], by simp [intR]⟩
  | y :: b, x, hs, hx => by
    obtain ⟨s1, s2, s3⟩ := set_cons.1 hs
    obtain ⟨i1, i2, i3, i4, i5⟩ := intR_spec b x s3 hx
    have s1' := s1
    have hx' := hx
    simp only [vS, Bool.and_eq_true, decide_eq_true_eq] at s1' hx'
    have e : intR x (y :: b) = int1 x y ++ intR x b := rfl
    rw [e]
    have hz1 : ∀ z ∈ flatS (int1 x y), x.lo ≤ z ∧ z ≤ x.hi ∧ z ≤ y.hi ∧ y.lo ≤ z := by
      intro z hz
      unfold int1 at hz
      split at hz
      · simp only [flatS, List.mem_cons, List.not_mem_nil, or_false] at hz
        rcases hz with rfl | rfl <;> omega
      · simp [flatS] at hz
    refine ⟨set_app ?_ i1 fun p hp q hq => ?_, fun t => ?_, fun z hz => ?_, fun c hc z hz => ?_, ?_⟩
    · unfold int1
      split
      · refine set_cons.2 ⟨?_, by simp [flatS], set_nil⟩
        simp only [vS, Bool.and_eq_true, decide_eq_true_eq]; omega
      · exact set_nil
    · have := hz1 p hp
      have := i4 y.hi s2 q hq
      omega
    · rw [hasL_app, int1_has, i2, hasL_cons, Bool.and_or_distrib_left]
    · rw [flat_app, List.mem_append] at hz
      rcases hz with hz | hz
      · have := hz1 z hz; omega
      · exact i3 z hz
    · rw [flat_app, List.mem_append] at hz
      rcases hz with hz | hz
      · have := hz1 z hz
        have := hc y.lo (by simp [flatS])
        omega
      · exact i4 c (fun w hw => hc w (by simp [flatS, hw])) z hz
    · have : (int1 x y).length ≤ 1 := by unfold int1; split <;> simp
      simp only [List.length_append, List.length_cons]; omega
theorem both_spec : ∀ (a b : List Spn), SetL a → SetL b → SetL (bothL a b) ∧ (∀ t, hasL (bothL a b) t = (hasL a t && hasL b t)) ∧ (∀ c, (∀ z ∈ flatS a, c < z) → ∀ z ∈ flatS (bothL a b), c < z)
  | [], b, _, _ => ⟨set_nil, fun t => by simp [bothL, hasL], by simp [bothL, flatS]⟩
  | x :: a, b, ha, hb => by
    obtain ⟨s1, s2, s3⟩ := set_cons.1 ha
    obtain ⟨i1, i2, i3⟩ := both_spec a b s3 hb
    obtain ⟨j1, j2, j3, j4, _⟩ := intR_spec b x hb s1
    have e : bothL (x :: a) b = intR x b ++ bothL a b := rfl
    rw [e]
    refine ⟨set_app j1 i1 fun p hp q hq => ?_, fun t => ?_, fun c hc z hz => ?_⟩
    · have := j3 p hp
      have := i3 x.hi s2 q hq
      omega
    · rw [hasL_app, j2, i2, hasL_cons, Bool.and_or_distrib_right]
    · rw [flat_app, List.mem_append] at hz
      rcases hz with hz | hz
      · have := j3 z hz
        have := hc x.lo (by simp [flatS])
        omega
      · exact i3 c (fun w hw => hc w (by simp [flatS, hw])) z hz
/-- The reference's complement. -/
def outL : Int → List Spn → List Spn
  | f, [] => if f < 1152921504606846976 then [⟨f, 1152921504606846976⟩] else []
  | f, x :: l => (if f < x.lo then [⟨f, x.lo⟩] else []) ++ outL x.hi l
theorem out_spec : ∀ (l : List Spn) (f : Int), SetL l → -1152921504606846976 ≤ f → f ≤ 1152921504606846976 → (∀ z ∈ flatS l, f ≤ z) → SetL (outL f l) ∧ (∀ t, hasL (outL f l) t = (decide (f ≤ t) && (decide (t < 1152921504606846976) && !hasL l t))) ∧ (∀ z ∈ flatS (outL f l), f ≤ z) ∧ (outL f l).length ≤ l.length + 1
  | [], f, _, h1, h2, _ => by
    unfold outL
    split
    · refine ⟨set_cons.2 ⟨?_, by simp [flatS], set_nil⟩, fun t => ?_, ?_, by simp⟩
      · simp only [vS, Bool.and_eq_true, decide_eq_true_eq]; omega
      · simp [hasL, has1]
      · intro z hz; simp [flatS] at hz; omega
    · refine ⟨set_nil, fun t => ?_, by simp [flatS], by simp⟩
      simp only [hasL, List.any_nil, Bool.not_false, Bool.and_true]
      symm
      rw [← Bool.not_eq_true]
      simp only [Bool.and_eq_true, decide_eq_true_eq]
      omega
  | x :: l, f, hs, h1, h2, h3 => by
    obtain ⟨s1, s2, s3⟩ := set_cons.1 hs
    have s1' := s1
    simp only [vS, Bool.and_eq_true, decide_eq_true_eq] at s1'
    obtain ⟨i1, i2, i3, i4⟩ := out_spec l x.hi s3 (by omega) (by omega) (fun z hz => by have := s2 z hz; omega)
    have hlo := h3 x.lo (by simp [flatS])
    unfold outL
    refine ⟨set_app ?_ i1 fun p hp q hq => ?_, fun t => ?_, fun z hz => ?_, ?_⟩
    · split
      · refine set_cons.2 ⟨?_, by simp [flatS], set_nil⟩
        simp only [vS, Bool.and_eq_true, decide_eq_true_eq]; omega
      · exact set_nil
    · have := i3 q hq
      split at hp
      · simp [flatS] at hp; omega
      · simp [flatS] at hp
    · have hl : t < x.hi → hasL l t = false := fun ht => by
        rw [← has_flat s3.1]; exact inF_lt fun z hz => by have := s2 z hz; omega
      rw [hasL_app, i2, hasL_cons]
      by_cases ht : t < x.hi
      · rw [hl ht]
        rw [Bool.eq_iff_iff]
        split
        · simp [hasL, has1]; omega
        · simp [hasL, has1]; omega
      · generalize hasL l t = B
        rw [Bool.eq_iff_iff]
        cases B
        · split
          · simp [hasL, has1]; omega
          · simp [hasL, has1]; omega
        · split
          · simp [hasL, has1]; omega
          · simp [hasL, has1]
    · rw [flat_app, List.mem_append] at hz
      rcases hz with hz | hz
      · split at hz
        · simp [flatS] at hz; omega
        · simp [flatS] at hz
      · have := i3 z hz; omega
    · simp only [List.length_append, List.length_cons]
      split <;> simp <;> omega
theorem has_bnd {l : List Spn} (h : SetL l) {t : Int} (ht : hasL l t = true) : -1152921504606846976 ≤ t ∧ t < 1152921504606846976 := by
  simp only [hasL, List.any_eq_true, has1, Bool.and_eq_true, decide_eq_true_eq] at ht
  obtain ⟨x, hx, h1, h2⟩ := ht
  have := set_all h x hx
  simp only [vS, Bool.and_eq_true, decide_eq_true_eq] at this
  omega
theorem both_comb {a b : List Spn} (ha : SetL a) (hb : SetL b) : bothL a b = combL (fun x y => x && y) a b := by
  obtain ⟨h1, h2, _⟩ := both_spec a b ha hb
  obtain ⟨h3, h4, _⟩ := comb_spec (f := fun x y => x && y) rfl ha hb
  exact set_inj h1 h3 fun t => by rw [h2, h4]
theorem minus_comb {a b : List Spn} (ha : SetL a) (hb : SetL b) : bothL a (outL (-1152921504606846976) b) = combL (fun x y => x && !y) a b := by
  obtain ⟨o1, o2, _⟩ := out_spec b (-1152921504606846976) hb (by omega) (by omega) (fun z hz => (hb.2 z hz).1)
  obtain ⟨h1, h2, _⟩ := both_spec a _ ha o1
  obtain ⟨h3, h4, _⟩ := comb_spec (f := fun x y => x && !y) rfl ha hb
  refine set_inj h1 h3 fun t => ?_
  rw [h2, h4, o2]
  cases h : hasL a t with
  | false => rfl
  | true =>
    have := has_bnd ha h
    simp [this]
end Go.Mb
