/- The pieces of batches in plain words. -/
import Derived.Test.YtbpdbibnfmdpoaaGI
set_option linter.unusedSimpArgs false
set_option linter.unusedSectionVars false
set_option linter.unusedVariables false
namespace Go.Mb
open Go.Sy
set_option linter.unusedVariables false
/-- Pieces within 0 to t, from p on, in ascending order, each as long as possible. -/
def PcOK (t : Int) : Int → Bool → List Spn → Prop
  | _, _, [] => True
  | p, f, x :: l => p ≤ x.lo ∧ x.lo < x.hi ∧ x.hi ≤ t ∧ x.lo / 16 = (x.hi - 1) / 16 ∧ (x.lo = p → f = true ∨ p % 16 = 0) ∧ PcOK t x.hi false l
theorem pk_pcs {t : Int} {rest : List Spn} (n : Nat) : ∀ (lo hi : Nat) (p : Int) (f : Bool), hi - lo ≤ n → lo < hi → p ≤ lo → ((lo : Int) = p → f = true ∨ p % 16 = 0) → (hi : Int) ≤ t → PcOK t hi false rest → PcOK t p f (pcs lo hi ++ rest) := by
  induction n with
  | zero => intro lo hi p f h1 h2; omega
  | succ n ih =>
    intro lo hi p f h1 h2 h3 h4 h5 h6
    have hg := cut_gt h2
    have hc := cut_le (x := lo) (hi := hi)
    rw [pcs_go h2, List.cons_append]
    refine ⟨h3, by simp only; omega, by simp only; omega, ?_, h4, ?_⟩
    · show (lo : Int) / 16 = (((cutE lo hi : Nat) : Int) - 1) / 16
      unfold cutE; omega
    · show PcOK t ((cutE lo hi : Nat) : Int) false (pcs (cutE lo hi) hi ++ rest)
      by_cases he : cutE lo hi < hi
      · refine ih (cutE lo hi) hi _ false (by omega) he (Int.le_refl _) (fun _ => .inr ?_) h5 h6
        unfold cutE at he ⊢; omega
      · have : cutE lo hi = hi := by omega
        rw [this, pcs_end (by omega)]; exact h6
theorem pk_all {t : Int} : ∀ (m : List Spn) (p : Int) (f : Bool), Asc (flatS m) → (∀ x ∈ m, 0 ≤ x.lo ∧ x.lo < x.hi ∧ x.hi ≤ t) → (∀ x ∈ m, p < x.lo ∨ (f = true ∧ p ≤ x.lo)) → PcOK t p f (pcsL m)
  | [], p, f, _, _, _ => trivial
  | x :: m, p, f, hA, hb, hp => by
    have hx := hb x List.mem_cons_self
    have hA2 : Asc (flatS m) := (List.pairwise_cons.1 (List.pairwise_cons.1 hA).2).2
    have hhi : ∀ y ∈ m, x.hi < y.lo := fun y hy => List.rel_of_pairwise_cons (List.pairwise_cons.1 hA).2 (flat_mem hy).1
    have e : pcsL (x :: m) = pcs x.lo.toNat x.hi.toNat ++ pcsL m := by simp [pcsL, pcsS]
    have el : ((x.lo.toNat : Nat) : Int) = x.lo := by omega
    have eh : ((x.hi.toNat : Nat) : Int) = x.hi := by omega
    rw [e]
    refine pk_pcs _ _ _ p f (Nat.le_refl _) (by omega) ?_ ?_ (by omega) ?_
    · rcases hp x List.mem_cons_self with h | h <;> omega
    · intro h; rcases hp x List.mem_cons_self with h2 | h2
      · omega
      · exact .inl h2.1
    · rw [eh]
      exact pk_all m x.hi false hA2 (fun y hy => hb y (List.mem_cons_of_mem _ hy)) (fun y hy => .inl (hhi y hy))
theorem pk_len {t : Int} : ∀ {l : List Spn} {p : Int} {f : Bool}, p ≤ t → PcOK t p f l → (l.length : Int) ≤ t - p
  | [], p, f, hp, _ => by simp; omega
  | x :: l, p, f, hp, h => by
    obtain ⟨h1, h2, h3, h4, h5, h6⟩ := h
    have := pk_len h3 h6
    simp only [List.length_cons]; omega
theorem pk_mem {t : Int} : ∀ {l : List Spn} {p : Int} {f : Bool}, PcOK t p f l → ∀ x ∈ l, p ≤ x.lo ∧ x.lo < x.hi ∧ x.hi ≤ t ∧ x.lo / 16 = (x.hi - 1) / 16
  | y :: l, p, f, h, x, hx => by
    obtain ⟨h1, h2, h3, h4, h5, h6⟩ := h
    rcases List.mem_cons.1 hx with rfl | hx
    · exact ⟨h1, h2, h3, h4⟩
    · have := pk_mem h6 x hx
      exact ⟨by omega, this.2⟩
theorem has_pcs (q : Int) (n : Nat) : ∀ lo hi : Nat, hi - lo ≤ n → hasL (pcs lo hi) q = (decide ((lo : Int) ≤ q) && decide (q < (hi : Int))) := by
  induction n with
  | zero =>
    intro lo hi h
    rw [pcs_end (by omega)]
    simp [hasL]; omega
  | succ n ih =>
    intro lo hi h
    by_cases hl : lo < hi
    · have hg := cut_gt hl
      have hc := cut_le (x := lo) (hi := hi)
      rw [pcs_go hl]
      have := ih (cutE lo hi) hi (by omega)
      simp only [hasL, List.any_cons, has1] at this ⊢
      rw [this, Bool.eq_iff_iff]
      simp only [Bool.or_eq_true, Bool.and_eq_true, decide_eq_true_eq]
      omega
    · rw [pcs_end hl]
      simp [hasL]; omega
theorem has_pcsL (q : Int) : ∀ (m : List Spn), (∀ x ∈ m, 0 ≤ x.lo ∧ x.lo < x.hi) → hasL (pcsL m) q = hasL m q
  | [], _ => rfl
  | x :: m, h => by
    have hx := h x List.mem_cons_self
    have ih := has_pcsL q m fun y hy => h y (List.mem_cons_of_mem _ hy)
    have e : pcsL (x :: m) = pcs x.lo.toNat x.hi.toNat ++ pcsL m := by simp [pcsL, pcsS]
    have hp := has_pcs q _ x.lo.toNat x.hi.toNat (Nat.le_refl _)
    rw [e]
    simp only [hasL, List.any_append, List.any_cons] at hp ih ⊢
    rw [hp, ih]
    congr 1
    rw [show ((x.lo.toNat : Nat) : Int) = x.lo by omega, show ((x.hi.toNat : Nat) : Int) = x.hi by omega]
    rfl
theorem bat_get {a b : Int} {d : ByteArray} {m : List Spn} {i : Nat} (hi : i < (pcsL m).length) : (batL a b d m).getD i default = if i = (pcsL m).length - 1 then lastP b (segP a d ((pcsL m).getD i default)) else segP a d ((pcsL m).getD i default) := by
  have hm : ∀ k, k < (pcsL m).length → (mapP a d (pcsL m)).getD k default = segP a d ((pcsL m).getD k default) := by
    intro k hk
    rw [getD_lt (by rw [mapP_len]; exact hk), getD_lt hk]
    simp [mapP]
  unfold batL
  rw [getD_setG _ _ _ _ (by rw [mapP_len]; omega), hm i hi, hm _ (by omega)]
  split
  · rename_i h; rw [← h]
  · rfl
theorem ex_len {d : ByteArray} {lo hi : Nat} (h : hi ≤ d.size) : (d.extract lo hi).size = hi - lo := by
  rw [ByteArray.size_extract]; omega
/-- The segments of a batch are valid. -/
theorem seg_good {a b : Int} {d : ByteArray} {x : Spn} (ha : inR a 0 tMax = true) (hb : inR b 1 tMax = true) (hd : d.size ≤ 65536) (h0 : 0 ≤ x.lo) (h1 : x.lo < x.hi) (h2 : x.hi ≤ d.size) (h3 : x.lo / 16 = (x.hi - 1) / 16) : chkG (segP a d x) = 0 ∧ chkG (lastP b (segP a d x)) = 0 := by
  have hb' : 1 ≤ b ∧ b ≤ tMax := by simpa [inR] using hb
  have hsz : ((d.extract x.lo.toNat x.hi.toNat).size : Int) = x.hi - x.lo := by rw [ex_len (by omega)]; omega
  have i1 : inR (d.size : Int) 1 65536 = true := by simp [inR]; omega
  have i2 : inR x.lo 0 (d.size - 1) = true := by simp [inR]; omega
  have i3 : inR (x.hi - x.lo) 1 (min 16 (d.size - x.lo)) = true := by simp [inR]; omega
  have i4 : inR b 0 tMax = true := by simp [inR]; omega
  have i5 : decide (b ≥ 1) = true := by simp; omega
  have i6 : inR 0 0 tMax = true := by decide
  constructor
  · rw [chkG_zero]
    refine ⟨rfl, ?_, ?_⟩
    · show (inR a 0 tMax && (inR 0 0 tMax && (inR (d.size : Int) 1 65536 && (inR x.lo 0 (d.size - 1) && (decide ((0 : Int) ≥ 1) == false))))) = true
      rw [ha, i6, i1, i2]; rfl
    · show (inR ((d.extract x.lo.toNat x.hi.toNat).size : Int) 1 (min 16 (d.size - x.lo)) && true) = true
      rw [hsz, i3]; rfl
  · rw [chkG_zero]
    refine ⟨rfl, ?_, ?_⟩
    · show (inR a 0 tMax && (inR b 0 tMax && (inR (d.size : Int) 1 65536 && (inR x.lo 0 (d.size - 1) && (decide (b ≥ 1) == true))))) = true
      rw [ha, i4, i1, i2, i5]; rfl
    · show (inR ((d.extract x.lo.toNat x.hi.toNat).size : Int) 1 (min 16 (d.size - x.lo)) && true) = true
      rw [hsz, i3]; rfl
/-- What is known of a batch that is made. -/
theorem batE_zero {a b : Int} {d : ByteArray} {m : List Spn} (h : batE a b d m = 0) : inR a 0 tMax = true ∧ inR b 1 tMax = true ∧ 1 ≤ d.size ∧ d.size ≤ 65536 ∧ insideM m d.size = true ∧ 0 < m.length := by
  unfold batE at h
  split at h
  · cases h
  rename_i h1
  split at h
  · cases h
  rename_i h2
  split at h
  · cases h
  rename_i h3
  split at h
  · cases h
  rename_i h4
  split at h
  · cases h
  rename_i h5
  simp only [Bool.or_eq_true, not_or, Bool.not_eq_true', Bool.not_eq_false, beq_iff_eq, decide_eq_true_eq] at h1 h2 h3 h4 h5
  exact ⟨h1.1, h1.2, by omega, by omega, h4, by omega⟩
/-- The ticks of a piece; of all. -/
def tkM (r n : Int) : Int := (n + 8 + r - 1).tdiv r
def passN (r : Int) (n : Nat) : Int := if h : n = 0 then 0 else tkM r (min n 16 : Nat) + passN r (n - 16)
termination_by n
decreasing_by omega
theorem passN_go {r : Int} {n : Nat} (h : n ≠ 0) : passN r n = tkM r (min n 16 : Nat) + passN r (n - 16) := by rw [passN, dif_neg h]
theorem passN_zero {r : Int} : passN r 0 = 0 := by rw [passN, dif_pos rfl]
def sumP (r : Int) (l : List Spn) : Int := (l.map fun x => tkM r (x.hi - x.lo)).sum
theorem sum_pcs (r : Int) (n : Nat) : ∀ lo hi : Nat, hi - lo ≤ n → lo % 16 = 0 → sumP r (pcs lo hi) = passN r (hi - lo) := by
  induction n with
  | zero => intro lo hi h _; rw [pcs_end (by omega), show hi - lo = 0 by omega, passN_zero]; rfl
  | succ n ih =>
    intro lo hi h hm
    by_cases hl : lo < hi
    · have hg := cut_gt hl
      have hc := cut_le (x := lo) (hi := hi)
      have e1 : sumP r (pcs lo hi) = tkM r ((cutE lo hi : Nat) - (lo : Int)) + sumP r (pcs (cutE lo hi) hi) := by rw [pcs_go hl]; simp [sumP]
      have e2 : ((cutE lo hi : Nat) : Int) - (lo : Int) = ((min (hi - lo) 16 : Nat) : Int) := by unfold cutE; omega
      rw [e1, passN_go (by omega), e2]
      congr 1
      by_cases he : cutE lo hi < hi
      · rw [ih (cutE lo hi) hi (by omega) (by unfold cutE at he ⊢; omega)]
        congr 1
        unfold cutE at he ⊢; omega
      · rw [pcs_end (by omega), show hi - lo - 16 = 0 by unfold cutE at he; omega, passN_zero]; rfl
    · rw [pcs_end hl, show hi - lo = 0 by omega, passN_zero]; rfl
theorem tk_bound {r n : Int} (hr : 1 ≤ r) (hn : 1 ≤ n) : 1 ≤ tkM r n ∧ tkM r n ≤ n + 8 + r := by
  unfold tkM
  rw [Int.tdiv_eq_ediv_of_nonneg (by omega)]
  constructor
  · have := Int.le_ediv_of_mul_le (c := r) (a := 1) (b := n + 8 + r - 1) (by omega) (by omega)
    exact this
  · have := Int.ediv_le_self (a := n + 8 + r - 1) r (by omega)
    omega
end Go.Mb
