/- Lists and frames, there and back. -/
import Derived.Test.YtdhfgfkfejpfdaaGreatWC
set_option linter.unusedSimpArgs false
set_option linter.unusedSectionVars false
set_option linter.unusedVariables false
namespace Go.Mb
open Go.Sy
set_option linter.unusedVariables false

theorem mem_drop_lt {l : List Nat} (hl : ∀ x ∈ l, x < 256) (k : Nat) : ∀ x ∈ l.drop k, x < 256 := fun x hx => hl x (List.mem_of_mem_drop hx)
theorem drop_len_append (a b : List Nat) : (a ++ b).drop a.length = b := by simp
theorem rdLA_enc : ∀ (l : List Int) (p r : List Nat) (acc : List Int), (∀ x ∈ l, inI x = true) → rdLA l.length (p ++ encL l ++ r) p.length acc = (acc ++ l, p.length + (encL l).length, 0)
  | [], p, r, acc, _ => by simp [rdLA, encL]
  | a :: l, p, r, acc, h => by
    have ha := h a List.mem_cons_self
    have e0 : p ++ encL (a :: l) ++ r = (p ++ encI a) ++ encL l ++ r := by simp [encL]
    have e1 : (p ++ encL (a :: l) ++ r).drop p.length = encI a ++ (encL l ++ r) := by
      rw [show p ++ encL (a :: l) ++ r = p ++ (encI a ++ (encL l ++ r)) by simp [encL]]; exact drop_len_append _ _
    have e2 := rdI_enc ha (encL l ++ r)
    rw [List.length_cons, rdLA, e1, e2, if_neg (by simp), e0]
    have ih := rdLA_enc l (p ++ encI a) r (acc ++ [a]) (fun x hx => h x (List.mem_cons_of_mem _ hx))
    rw [List.length_append] at ih
    rw [ih]
    simp [encL, Nat.add_assoc]
theorem lenI_enc {n : Nat} (h : n ≤ 65536) (r : List Nat) : lenI (encI n ++ r) = ((n : Int), (encI n).length, 0) := by
  have e := rdI_enc (inI_nat (n := n) (by omega)) r
  unfold lenI
  simp only
  rw [e, if_neg (by simp), if_neg (by simp; omega)]
/-- A list, encoded. -/
def encLL (l : List Int) : List Nat := encI l.length ++ encL l
theorem rdL_enc {l : List Int} (h : ∀ x ∈ l, inI x = true) (hn : l.length ≤ 65536) (r : List Nat) : rdL (encLL l ++ r) = (l, (encLL l).length, 0) := by
  unfold rdL encLL
  have e0 : encI l.length ++ encL l ++ r = encI l.length ++ (encL l ++ r) := by simp
  rw [e0, lenI_enc hn, if_neg (by simp), ← e0]
  have := rdLA_enc l (encI l.length) r [] h
  rw [show ((l.length : Int)).toNat = l.length from rfl]
  rw [this]
  simp
theorem rdLA_ok : ∀ {n : Nat} {l : List Nat} {k q : Nat} {acc out : List Int}, (∀ x ∈ l, x < 256) → k ≤ l.length → rdLA n l k acc = (out, q, 0) → ∃ m : List Int, out = acc ++ m ∧ m.length = n ∧ (∀ x ∈ m, inI x = true) ∧ k ≤ q ∧ q ≤ l.length ∧ (l.drop k).take (q - k) = encL m
  | 0, l, k, q, acc, out, hl, hk, h => by
    simp only [rdLA, Prod.mk.injEq, and_true] at h
    obtain ⟨rfl, rfl⟩ := h
    exact ⟨[], by simp, rfl, by simp, Nat.le_refl _, hk, by simp [encL]⟩
  | n + 1, l, k, q, acc, out, hl, hk, h => by
    rw [rdLA] at h
    split at h
    · rename_i he
      simp only [Prod.mk.injEq] at h
      rw [h.2.2] at he; cases he
    · rename_i he
      have hr : rdI (l.drop k) = ((rdI (l.drop k)).1, (rdI (l.drop k)).2.1, 0) := by
        have : (rdI (l.drop k)).2.2 = 0 := by simpa using he
        rw [← this]
      obtain ⟨i1, i2, i3, i4, i5⟩ := rdI_ok (mem_drop_lt hl k) hr
      generalize (rdI (l.drop k)).1 = a at *
      generalize (rdI (l.drop k)).2.1 = b at *
      rw [List.length_drop] at i3
      obtain ⟨m, rfl, m2, m3, m4, m5, m6⟩ := rdLA_ok hl (by omega) h
      refine ⟨a :: m, by simp, by simp [m2], ?_, by omega, m5, ?_⟩
      · intro x hx
        rcases List.mem_cons.1 hx with rfl | hx
        · exact i1
        · exact m3 x hx
      · have e1 : q - k = b + (q - (k + b)) := by omega
        rw [e1, List.take_add, i2, List.drop_drop, m6]
        simp [encL]
theorem rdL_ok {L : List Nat} {l : List Int} {k : Nat} (hL : ∀ x ∈ L, x < 256) (h : rdL L = (l, k, 0)) : (∀ x ∈ l, inI x = true) ∧ l.length ≤ 65536 ∧ k ≤ L.length ∧ L.take k = encLL l := by
  unfold rdL at h
  split at h
  · rename_i he
    simp only [Prod.mk.injEq] at h
    rw [h.2.2] at he; cases he
  · rename_i he
    have hr : lenI L = ((lenI L).1, (lenI L).2.1, 0) := by
      have : (lenI L).2.2 = 0 := by simpa using he
      rw [← this]
    obtain ⟨h1, h2, h3⟩ := lenI_ok hr
    obtain ⟨i1, i2, i3, i4, i5⟩ := rdI_ok hL h1
    generalize (lenI L).1 = n at *
    generalize (lenI L).2.1 = b at *
    obtain ⟨m, rfl, m2, m3, m4, m5, m6⟩ := rdLA_ok hL i3 h
    refine ⟨m3, by omega, m5, ?_⟩
    have e1 : k = b + (k - b) := by omega
    rw [e1, List.take_add, i2, m6]
    unfold encLL
    rw [m2, Int.toNat_of_nonneg h2]
theorem opL_lt {l : List Nat} (hl : ∀ x ∈ l, x < 256) : ∀ x ∈ (opL l).1, x < 256 := by
  unfold opL
  repeat' split
  all_goals first | (intro x hx; exact hl x (List.mem_of_mem_take (List.mem_of_mem_drop hx))) | (intro x hx; cases hx)
theorem opL_len (l : List Nat) : (opL l).1.length ≤ l.length ∧ (opL l).1.length ≤ 65536 := by
  unfold opL
  split
  · simp
  · split
    · simp
    · rename_i h
      split
      · simp
      · split
        · simp
        · simp only [List.length_drop, List.length_take]
          simp at h
          omega
theorem sealL_lt {p : List Nat} (hp : ∀ x ∈ p, x < 256) : ∀ x ∈ sealL p, x < 256 := by
  intro x hx
  rcases List.mem_append.1 hx with hx | hx
  · exact frameL_lt hp x hx
  · exact tailL_lt x hx
theorem sealL_len {p : List Nat} (h : p.length ≤ 65536) : (sealL p).length ≤ p.length + 13 ∧ p.length + 5 ≤ (sealL p).length := by
  have h1 := encI_len (inI_nat (n := p.length) (by omega))
  have h2 : 0 < (encI p.length).length := List.length_pos_iff.2 (encZ_ne _)
  simp only [sealL, frameL, List.length_append]
  have : (tailL (encI p.length ++ p)).length = 4 := rfl
  omega
theorem opL_of {l : List Nat} {n k : Nat} (h : rdI l = ((n : Int), k, 0)) (hn : n ≤ 65536) : opL l = if decide (l.length < k + n + 4) then ([], 0, 12) else
      if tailL (l.take (k + n)) != (l.take (k + n + 4)).drop (k + n) then ([], 0, 13) else ((l.take (k + n)).drop k, k + n + 4, 0) := by
  unfold opL
  rw [h, if_neg (by simp), if_neg (by simp; omega)]
  rfl
theorem opL_seal {p : List Nat} (hp : p.length ≤ 65536) (r : List Nat) : opL (sealL p ++ r) = (p, (sealL p).length, 0) := by
  have hi := inI_nat (n := p.length) (by omega)
  have e0 : sealL p ++ r = encI p.length ++ (p ++ (tailL (frameL p) ++ r)) := by simp [sealL, frameL]
  have e1 : rdI (sealL p ++ r) = ((p.length : Int), (encI p.length).length, 0) := by rw [e0]; exact rdI_enc hi _
  have hfl : (encI p.length).length + p.length = (frameL p).length := by simp [frameL]
  have ht : (tailL (frameL p)).length = 4 := rfl
  have hsl : (sealL p).length = (frameL p).length + 4 := by simp [sealL, ht]
  rw [opL_of e1 hp, hfl, if_neg (by simp [hsl])]
  have e2 : (sealL p ++ r).take (frameL p).length = frameL p := by
    rw [show sealL p ++ r = frameL p ++ (tailL (frameL p) ++ r) by simp [sealL]]; simp
  have e3 : (sealL p ++ r).take ((frameL p).length + 4) = sealL p := by rw [← hsl]; simp
  rw [e2, e3, if_neg]
  · rw [hsl]
    congr 1
    unfold frameL; simp
  · have : (sealL p).drop (frameL p).length = tailL (frameL p) := by unfold sealL; simp
    rw [this]; simp
theorem opL_ok {l p : List Nat} {k : Nat} (hl : ∀ x ∈ l, x < 256) (h : opL l = (p, k, 0)) : l.take k = sealL p ∧ k ≤ l.length ∧ p.length ≤ 65536 := by
  unfold opL at h
  split at h
  · rename_i he
    simp only [Prod.mk.injEq] at h
    rw [h.2.2] at he; cases he
  · rename_i he
    have hr : rdI l = ((rdI l).1, (rdI l).2.1, 0) := by
      have : (rdI l).2.2 = 0 := by simpa using he
      rw [← this]
    obtain ⟨i1, i2, i3, i4, i5⟩ := rdI_ok hl hr
    generalize (rdI l).1 = n at *
    generalize (rdI l).2.1 = b at *
    split at h
    · simp at h
    · rename_i hn
      simp at hn
      split at h
      · simp at h
      · rename_i hlen
        simp at hlen
        split at h
        · simp at h
        · rename_i htl
          simp only [Prod.mk.injEq, and_true] at h
          obtain ⟨rfl, rfl⟩ := h
          have htl : tailL (l.take (b + n.toNat)) = (l.take (b + n.toNat + 4)).drop (b + n.toNat) := by simpa using htl
          have hpl : ((l.take (b + n.toNat)).drop b).length = n.toNat := by simp; omega
          have hf : frameL ((l.take (b + n.toNat)).drop b) = l.take (b + n.toNat) := by
            unfold frameL
            rw [hpl, Int.toNat_of_nonneg hn.1, ← i2]
            have e : l.take b = (l.take (b + n.toNat)).take b := by rw [List.take_take]; congr 1; omega
            rw [e, List.take_append_drop]
          refine ⟨?_, by omega, by rw [hpl]; omega⟩
          unfold sealL
          rw [hf, htl]
          have e : l.take (b + n.toNat) = (l.take (b + n.toNat + 4)).take (b + n.toNat) := by rw [List.take_take]; congr 1; omega
          rw [e, List.take_append_drop]
end Go.Mb
