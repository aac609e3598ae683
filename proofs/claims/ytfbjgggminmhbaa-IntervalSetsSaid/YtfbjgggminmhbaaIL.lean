/- Counting the integers of sets; lists in both directions; lists of many intervals, in plain words. -/
import Derived.Test.YtfbjgggminmhbaaIP
import Derived.Test.YtfbjgggminmhbaaIC
set_option linter.unusedSimpArgs false
set_option linter.unusedSectionVars false
set_option linter.unusedVariables false
namespace Go.Mb
open Go.Sy
set_option linter.unusedVariables false

def b2i (b : Bool) : Int := if b then 1 else 0
def cnt (p : Int → Bool) (lo : Int) : Nat → Int
  | 0 => 0
  | n + 1 => cnt p lo n + b2i (p (lo + n))
theorem cnt_add {p q r s : Int → Bool} (h : ∀ t, b2i (p t) + b2i (q t) = b2i (r t) + b2i (s t)) (lo : Int) : ∀ n, cnt p lo n + cnt q lo n = cnt r lo n + cnt s lo n
  | 0 => rfl
  | n + 1 => by
    have := cnt_add h lo n
    have := h (lo + n)
    simp only [cnt]; omega
theorem cnt_none (lo : Int) : ∀ n, cnt (fun _ => false) lo n = 0
  | 0 => rfl
  | n + 1 => by simp [cnt, cnt_none lo n, b2i]
theorem cnt_int {x : Spn} (hx : x.lo < x.hi) (lo : Int) : ∀ n : Nat, cnt (fun t => has1 t x) lo n = max 0 (min (lo + n) x.hi - max lo x.lo)
  | 0 => by simp only [cnt]; omega
  | n + 1 => by
    have ih := cnt_int hx lo n
    rw [cnt, ih]
    have e : ((n + 1 : Nat) : Int) = n + 1 := by omega
    rw [e]
    simp only [b2i, has1, Bool.and_eq_true, decide_eq_true_eq]
    split <;> omega
theorem tot_cnt : ∀ (l : List Spn) (lo : Int) (n : Nat), SetL l → (∀ z ∈ flatS l, lo ≤ z ∧ z ≤ lo + n) → totL l = cnt (hasL l) lo n
  | [], lo, n, _, _ => by
    have : hasL [] = fun _ => false := by funext t; rfl
    rw [this, cnt_none]; rfl
  | x :: l, lo, n, hs, hb => by
    obtain ⟨s1, s2, s3⟩ := set_cons.1 hs
    simp only [vS, Bool.and_eq_true, decide_eq_true_eq] at s1
    have ih := tot_cnt l lo n s3 fun z hz => hb z (by simp [flatS, hz])
    have h1 := hb x.lo (by simp [flatS])
    have h2 := hb x.hi (by simp [flatS])
    have hc := cnt_int s1.1 lo n
    have hadd := cnt_add (p := hasL (x :: l)) (q := fun _ => false) (r := fun t => has1 t x) (s := hasL l) (fun t => by
      rw [hasL_cons]
      cases h3 : has1 t x with
      | false => simp [b2i]
      | true =>
        simp only [has1, Bool.and_eq_true, decide_eq_true_eq] at h3
        have : hasL l t = false := by
          rw [← has_flat s3.1]; exact inF_lt fun z hz => by have := s2 z hz; omega
        simp [b2i, this]) lo n
    rw [cnt_none] at hadd
    simp only [totL]
    omega
theorem tot_eq {u i a b : List Spn} (hu : SetL u) (hi : SetL i) (ha : SetL a) (hb : SetL b) (h : ∀ t, b2i (hasL u t) + b2i (hasL i t) = b2i (hasL a t) + b2i (hasL b t)) : totL u + totL i = totL a + totL b := by
  obtain ⟨N, hN⟩ : ∃ N : Nat, (N : Int) = 2305843009213693952 := ⟨2305843009213693952, rfl⟩
  have key : ∀ l, SetL l → totL l = cnt (hasL l) (-1152921504606846976) N := fun l hl => tot_cnt l _ N hl fun z hz => by
    have := hl.2 z hz; omega
  rw [key u hu, key i hi, key a ha, key b hb]
  exact cnt_add h _ N

/-- The list, backwards. -/
def backL (l : List Spn) (k : Nat) : List Spn := l.reverse.take k
theorem backL_snoc {l : List Spn} {k : Nat} (h : k < l.length) : backL l (k + 1) = backL l k ++ [l.getD (l.length - 1 - k) default] := by
  unfold backL
  rw [List.take_succ_eq_append_getElem (by simpa using h), List.getElem_reverse, getD_lt (by omega)]
theorem backL_all (l : List Spn) : backL l l.length = l.reverse := by unfold backL; rw [List.take_of_length_le (by simp)]
theorem backL_len {l : List Spn} {k : Nat} (h : k ≤ l.length) : (backL l k).length = k := by simp [backL]; omega
theorem norm_perm {l m : List Spn} (h : m.Perm l) (hv : ∀ x ∈ l, vS x = true) : normL m = normL l := by
  obtain ⟨h1, h2, _⟩ := norm_spec hv
  obtain ⟨h3, h4, _⟩ := norm_spec (l := m) fun x hx => hv x (h.mem_iff.1 hx)
  exact set_inj h3 h1 fun t => by rw [h4, h2, hasL_perm h]
theorem norm_set {l : List Spn} (h : SetL l) : normL l = l := by
  obtain ⟨h1, h2, _⟩ := norm_spec (set_all h)
  exact set_inj h1 h h2
/-- An interval is covered if all its points belong to a set. -/
theorem cov_of {l : List Spn} (hs : SetL l) {x : Spn} (hx : x.lo < x.hi) (h : ∀ t, has1 t x = true → hasL l t = true) : l.any (cov1 x) = true := by
  have h1 := h x.lo (by simp [has1]; omega)
  simp only [hasL, List.any_eq_true] at h1
  obtain ⟨y, hy, h1⟩ := h1
  simp only [has1, Bool.and_eq_true, decide_eq_true_eq] at h1
  refine List.any_eq_true.2 ⟨y, hy, ?_⟩
  simp only [cov1, Bool.and_eq_true, decide_eq_true_eq]
  refine ⟨h1.1, ?_⟩
  by_cases hlt : y.hi < x.hi
  · exfalso
    have h2 := h y.hi (by simp [has1]; omega)
    simp only [hasL, List.any_eq_true] at h2
    obtain ⟨z, hz, h2⟩ := h2
    simp only [has1, Bool.and_eq_true, decide_eq_true_eq] at h2
    -- two intervals of a set do not touch
    have key : ∀ (l : List Spn), SetL l → y ∈ l → z ∈ l → z.lo ≤ y.hi → y.hi < z.hi → False := by
      intro l
      induction l with
      | nil => intro _ hy; cases hy
      | cons w l ih =>
        intro hs hy hz h3 h4
        obtain ⟨s1, s2, s3⟩ := set_cons.1 hs
        rcases List.mem_cons.1 hy with hy | hy
        · rw [← hy] at s2
          rcases List.mem_cons.1 hz with hz | hz
          · rw [← hy] at hz; subst hz; omega
          · have := s2 _ (flat_mem hz).1; omega
        · rcases List.mem_cons.1 hz with hz | hz
          · rw [← hz] at s2; have := s2 _ (flat_mem hy).2; omega
          · exact ih s3 hy hz h3 h4
    exact key l hs hy hz h2.1 h2.2
  · omega
theorem cov_has {l : List Spn} {x : Spn} (h : l.any (cov1 x) = true) {t : Int} (ht : has1 t x = true) : hasL l t = true := by
  rw [List.any_eq_true] at h
  obtain ⟨y, hy, h⟩ := h
  simp only [cov1, has1, Bool.and_eq_true, decide_eq_true_eq] at h ht
  exact List.any_eq_true.2 ⟨y, hy, by simp only [has1, Bool.and_eq_true, decide_eq_true_eq]; omega⟩

/-- Many intervals, one behind the other. -/
def manyL (s u v : Int) (n : Nat) : List Spn := (List.range n).map fun i : Nat => ⟨s * (i : Int) + u, s * (i : Int) + v⟩
theorem many_len (s u v : Int) (n : Nat) : (manyL s u v n).length = n := by simp [manyL]
theorem many_snoc (s u v : Int) (n : Nat) : manyL s u v (n + 1) = manyL s u v n ++ [⟨s * n + u, s * n + v⟩] := by simp [manyL, List.range_succ]
theorem many_set {s u v : Int} (hs : 0 ≤ s) (h1 : u < v) (h2 : v < s + u) (h3 : 0 ≤ u) (h4 : u ≤ s) : ∀ n : Nat, s * n + s ≤ 1152921504606846976 → SetL (manyL s u v n) ∧ (∀ z ∈ flatS (manyL s u v n), z < s * n + u)
  | 0, _ => ⟨set_nil, by simp [manyL, flatS]⟩
  | n + 1, hb => by
    have e : s * ((n + 1 : Nat) : Int) = s * n + s := by rw [Int.natCast_add, Int.mul_add]; simp
    rw [e] at hb
    have hp : 0 ≤ s * (n : Int) := Int.mul_nonneg hs (by omega)
    obtain ⟨i1, i2⟩ := many_set hs h1 h2 h3 h4 n (by omega)
    rw [many_snoc]
    refine ⟨set_app i1 (set_cons.2 ⟨?_, by simp [flatS], set_nil⟩) fun p hp q hq => ?_, fun z hz => ?_⟩
    · simp only [vS, Bool.and_eq_true, decide_eq_true_eq]; omega
    · have := i2 p hp
      simp [flatS] at hq
      omega
    · rw [flat_app, List.mem_append] at hz
      rw [e]
      rcases hz with hz | hz
      · have := i2 z hz; omega
      · simp [flatS] at hz; omega
theorem many_has {s u v : Int} (hs : 0 < s) (h1 : u ≤ v) (h2 : v ≤ s) (h3 : 0 ≤ u) (n : Nat) (t : Int) : hasL (manyL s u v n) t = (decide (0 ≤ t ∧ t < s * n) && decide (u ≤ t % s ∧ t % s < v)) := by
  rw [Bool.eq_iff_iff]
  simp only [hasL, List.any_eq_true, manyL, List.mem_map, List.mem_range, has1, Bool.and_eq_true, decide_eq_true_eq]
  constructor
  · rintro ⟨x, ⟨i, hi, rfl⟩, h4, h5⟩
    simp only at h4 h5
    have hm : t % s = t - s * i := by
      rw [Int.emod_eq_iff (by omega)]
      refine ⟨by omega, by omega, ?_⟩
      rw [show t - s * (i : Int) - t = s * (-(i : Int)) by rw [Int.mul_neg]; omega]
      exact Int.dvd_mul_right _ _
    have hp : 0 ≤ s * (i : Int) := Int.mul_nonneg (by omega) (by omega)
    have hle : s * ((i : Int) + 1) ≤ s * n := Int.mul_le_mul_of_nonneg_left (by omega) (by omega)
    rw [Int.mul_add, Int.mul_one] at hle
    omega
  · rintro ⟨⟨h4, h5⟩, h6, h7⟩
    have hd := Int.mul_ediv_add_emod t s
    have hq : 0 ≤ t / s := Int.ediv_nonneg h4 (by omega)
    have hlt : t / s < n := Int.ediv_lt_of_lt_mul hs (by rw [Int.mul_comm]; exact h5)
    refine ⟨_, ⟨(t / s).toNat, by omega, rfl⟩, ?_⟩
    simp only
    rw [Int.toNat_of_nonneg hq]
    omega
theorem many_union {n : Nat} (hn : n = 1000) : combL (fun x y => x || y) (manyL 4 0 1 n) (manyL 4 0 2 n) = manyL 4 0 2 n := by
  obtain ⟨a1, _⟩ := many_set (s := 4) (u := 0) (v := 1) (by omega) (by omega) (by omega) (by omega) (by omega) n (by omega)
  obtain ⟨b1, _⟩ := many_set (s := 4) (u := 0) (v := 2) (by omega) (by omega) (by omega) (by omega) (by omega) n (by omega)
  obtain ⟨h3, h4, _⟩ := comb_spec (f := fun x y => x || y) rfl a1 b1
  refine set_inj h3 b1 fun t => ?_
  rw [h4, many_has (by omega) (by omega) (by omega) (by omega), many_has (by omega) (by omega) (by omega) (by omega), Bool.eq_iff_iff]
  simp only [Bool.or_eq_true, Bool.and_eq_true, decide_eq_true_eq]
  omega
theorem many_apart {n : Nat} (hn : n = 1000) : combL (fun x y => x || y) (manyL 4 0 1 n) (manyL 4 2 3 n) = manyL 2 0 1 (2 * n) := by
  obtain ⟨a1, _⟩ := many_set (s := 4) (u := 0) (v := 1) (by omega) (by omega) (by omega) (by omega) (by omega) n (by omega)
  obtain ⟨b1, _⟩ := many_set (s := 4) (u := 2) (v := 3) (by omega) (by omega) (by omega) (by omega) (by omega) n (by omega)
  obtain ⟨c1, _⟩ := many_set (s := 2) (u := 0) (v := 1) (by omega) (by omega) (by omega) (by omega) (by omega) (2 * n) (by omega)
  obtain ⟨h3, h4, _⟩ := comb_spec (f := fun x y => x || y) rfl a1 b1
  refine set_inj h3 c1 fun t => ?_
  rw [h4, many_has (by omega) (by omega) (by omega) (by omega), many_has (by omega) (by omega) (by omega) (by omega), many_has (by omega) (by omega) (by omega) (by omega), Bool.eq_iff_iff]
  simp only [Bool.or_eq_true, Bool.and_eq_true, decide_eq_true_eq]
  omega
end Go.Mb
