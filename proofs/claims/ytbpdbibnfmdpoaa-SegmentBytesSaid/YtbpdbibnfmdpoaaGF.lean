/- Decoding segments in plain words. -/
import Derived.Test.YtbpdbibnfmdpoaaGD
import Derived.Test.YtbpdbibnfmdpoaaVX
set_option linter.unusedSimpArgs false
set_option linter.unusedSectionVars false
set_option linter.unusedVariables false
namespace Go.Mb
open Go.Sy
set_option linter.unusedVariables false
theorem ends_flat (l : List Spn) : endsL l = flatS l := by
  induction l with
  | nil => rfl
  | cons a l ih => simp only [endsL, List.flatMap_cons, flatS] at ih ⊢; rw [ih]; rfl
def p6 (t : List Nat) : List Int × Nat × Int := rdLA 6 t 0 []
def pT (t : List Nat) : List Nat × Nat × Int := rdT (t.drop (p6 t).2.1)
def pL (t : List Nat) : List Int × Nat × Int := rdL (t.drop ((p6 t).2.1 + (pT t).2.1))
def n6 (t : List Nat) (i : Nat) : Int := (p6 t).1.getD i default
def segR (t : List Nat) : Seg := ⟨n6 t 0, n6 t 1, n6 t 2, n6 t 3, n6 t 4, n6 t 5 == 1, bs (pT t).1, pairS (pL t).1⟩
def okT (t : List Nat) : Bool := (p6 t).2.2 == 0 && ((pT t).2.2 == 0 && (inR (n6 t 5) 0 1 && ((pL t).2.2 == 0 && ((p6 t).2.1 + (pT t).2.1 + (pL t).2.1 == t.length && ((pL t).1.length % 2 == 0 && chkG (segR t) == 0)))))
def zeroG : Seg := ⟨0, 0, 0, 0, 0, false, .empty, []⟩
def decG (l : List Nat) : Seg × Int := if (opL l).2.2 != 0 then (zeroG, (opL l).2.2) else if okT (opL l).1 && (opL l).2.1 == l.length then (segR (opL l).1, 0) else (zeroG, 11)
theorem okT_iff {t : List Nat} : okT t = true ↔ (p6 t).2.2 = 0 ∧ (pT t).2.2 = 0 ∧ inR (n6 t 5) 0 1 = true ∧ (pL t).2.2 = 0 ∧ (p6 t).2.1 + (pT t).2.1 + (pL t).2.1 = t.length ∧ (pL t).1.length % 2 = 0 ∧ chkG (segR t) = 0 := by
  unfold okT
  simp only [Bool.and_eq_true, beq_iff_eq]
theorem rdT_enc {d : List Nat} (h : d.length ≤ 65536) (r : List Nat) : rdT (encT d ++ r) = (d, (encT d).length, 0) := by
  have e1 : lenI (encT d ++ r) = ((d.length : Int), (encI d.length).length, 0) := by unfold encT; rw [List.append_assoc]; exact lenI_enc h _
  have e2 : (encT d ++ r).length = (encI d.length).length + d.length + r.length := by unfold encT; simp only [List.length_append]
  rw [rdT_ok e1 (by omega)]
  have e3 : (encT d ++ r).drop (encI d.length).length = d ++ r := by unfold encT; rw [List.append_assoc]; exact drop_len_append _ _
  rw [e3]
  simp [encT]
theorem rdT_back {L d : List Nat} {k : Nat} (hL : ∀ x ∈ L, x < 256) (h : rdT L = (d, k, 0)) : L.take k = encT d ∧ k ≤ L.length ∧ d.length ≤ 65536 := by
  rcases lenI_cases L with ⟨n, q, hq⟩ | ⟨e, he, hq⟩
  · obtain ⟨h1, h2, h3⟩ := lenI_ok hq
    obtain ⟨_, h5, h6, _, _⟩ := rdI_ok hL h1
    by_cases hs : ((L.length - q : Nat) : Int) < n
    · rw [rdT_short hq hs] at h; simp at h
    · rw [rdT_ok hq hs] at h
      simp only [Prod.mk.injEq, and_true] at h
      obtain ⟨rfl, rfl⟩ := h
      have hl : ((L.drop q).take n.toNat).length = n.toNat := by rw [List.length_take, List.length_drop]; omega
      refine ⟨?_, by omega, by omega⟩
      unfold encT
      rw [hl, show ((n.toNat : Nat) : Int) = n by omega, ← h5, ← List.take_add]
  · rw [rdT_err hq he] at h
    simp only [Prod.mk.injEq] at h
    rw [h.2.2] at he; cases he
theorem parts_enc {s : Seg} (h : chkG s = 0) : okT (encG s) = true ∧ segR (encG s) = s := by
  have g := goodG h
  have hc := (chkS_both g.c1).2
  have e6 : p6 (encG s) = (hd6 s, (encL (hd6 s)).length, 0) := by
    have := rdLA_enc (hd6 s) [] (encT (ls s.data) ++ encLL (endsL s.claims)) [] (hd6_in g)
    simp only [List.nil_append, List.length_nil, Nat.zero_add, ← List.append_assoc] at this
    exact this
  have dT : (encG s).drop (encL (hd6 s)).length = encT (ls s.data) ++ encLL (endsL s.claims) := by unfold encG; rw [List.append_assoc]; exact drop_len_append _ _
  have eT : pT (encG s) = (ls s.data, (encT (ls s.data)).length, 0) := by
    unfold pT; rw [e6]; simp only; rw [dT]; exact rdT_enc (by have := g.d; rw [ls_len]; omega) _
  have dL : (encG s).drop ((encL (hd6 s)).length + (encT (ls s.data)).length) = encLL (endsL s.claims) := by rw [← List.drop_drop, dT]; exact drop_len_append _ _
  have eL : pL (encG s) = (endsL s.claims, (encLL (endsL s.claims)).length, 0) := by
    have := rdL_enc (ends_in g.c1) (by rw [endsL_len]; omega) []
    rw [List.append_nil] at this
    unfold pL; rw [e6, eT]; simp only; rw [dL]; exact this
  have n5 : n6 (encG s) 5 = bitI s.chk := by unfold n6; rw [e6]; rfl
  have hb : (bitI s.chk == 1) = s.chk := by cases s.chk <;> rfl
  have hs : segR (encG s) = s := by
    unfold segR
    rw [n5, hb, eT, eL]
    simp only
    rw [bs_ls, ends_flat, pair_flat]
    unfold n6
    rw [e6]
    rfl
  refine ⟨?_, hs⟩
  rw [okT_iff, hs, e6, eT, eL, n5]
  refine ⟨rfl, rfl, ?_, rfl, ?_, ?_, h⟩
  · cases s.chk <;> rfl
  · simp only [encG, List.length_append]
  · simp only [endsL_len]; omega
theorem decG_enc {s : Seg} (h : chkG s = 0) : decG (sealL (encG s)) = (s, 0) := by
  obtain ⟨h1, h2⟩ := parts_enc h
  have eo := opL_seal (encG_len (goodG h)) []
  rw [List.append_nil] at eo
  unfold decG
  rw [eo]
  simp only
  rw [h1, h2]
  simp
theorem decG_more {s : Seg} (h : chkG s = 0) {r : List Nat} (hr : r ≠ []) : decG (sealL (encG s) ++ r) = (zeroG, 11) := by
  have eo := opL_seal (encG_len (goodG h)) r
  have : 0 < r.length := List.length_pos_iff.2 hr
  unfold decG
  rw [eo]
  simp only
  rw [if_neg (by simp), if_neg]
  simp only [List.length_append, Bool.and_eq_true, beq_iff_eq, not_and]
  intro _; omega
theorem parts_ok {t : List Nat} (hT : ∀ x ∈ t, x < 256) (h : okT t = true) : chkG (segR t) = 0 ∧ encG (segR t) = t := by
  obtain ⟨h1, h2, h3, h4, h5, h6, h7⟩ := okT_iff.1 h
  refine ⟨h7, ?_⟩
  have r6 : rdLA 6 t 0 [] = ((p6 t).1, (p6 t).2.1, 0) := by rw [← h1]; rfl
  have rT : rdT (t.drop (p6 t).2.1) = ((pT t).1, (pT t).2.1, 0) := by rw [← h2]; rfl
  have rL : rdL (t.drop ((p6 t).2.1 + (pT t).2.1)) = ((pL t).1, (pL t).2.1, 0) := by rw [← h4]; rfl
  obtain ⟨m, hm, hm6, _, _, hq, he⟩ := rdLA_ok hT (Nat.zero_le _) r6
  rw [List.nil_append] at hm
  obtain ⟨eT, hqT, _⟩ := rdT_back (mem_drop_lt hT _) rT
  obtain ⟨_, _, hqL, eL⟩ := rdL_ok (mem_drop_lt hT _) rL
  have hh : hd6 (segR t) = m := by
    have h3' := h3
    simp only [inR, n6, hm, decide_eq_true_eq] at h3'
    unfold hd6 segR n6
    rw [hm]
    match m, hm6 with
    | [a, b, c, d, e, f], _ =>
      have hf : 0 ≤ f ∧ f ≤ 1 := h3'
      have : bitI (f == 1) = f := by
        unfold bitI
        split
        · rename_i hf1; simp at hf1; omega
        · rename_i hf1; simp at hf1; omega
      show [a, b, c, d, e, bitI (f == 1)] = _
      rw [this]
  have hd : ls (segR t).data = (pT t).1 := by
    show ls (bs (pT t).1) = _
    refine ls_bs fun x hx => ?_
    have h8 : x ∈ encT (pT t).1 := List.mem_append.2 (.inr hx)
    rw [← eT] at h8
    exact mem_drop_lt hT _ x (List.mem_of_mem_take h8)
  have hc : endsL (segR t).claims = (pL t).1 := by
    show endsL (pairS (pL t).1) = _
    rw [ends_flat, flat_pair _ h6]
  unfold encG
  rw [hh, hd, hc, ← eT, ← eL]
  rw [List.drop_zero, Nat.sub_zero] at he
  rw [← he, ← List.take_add, ← List.take_add, h5, List.take_length]
theorem decG_ok {l : List Nat} (hl : ∀ x ∈ l, x < 256) (h : (decG l).2 = 0) : chkG (decG l).1 = 0 ∧ sealL (encG (decG l).1) = l := by
  unfold decG at h ⊢
  split at h
  · rename_i c; simp only [bne_iff_ne, ne_eq] at c; exact absurd h c
  · rename_i c1
    rw [if_neg c1]
    split at h
    · rename_i c2
      rw [if_pos c2]
      simp only [Bool.and_eq_true, beq_iff_eq, bne_iff_ne, ne_eq, Decidable.not_not] at c1 c2
      have ho : opL l = ((opL l).1, l.length, 0) := by rw [← c1, ← c2.2]
      obtain ⟨o1, _, _⟩ := opL_ok hl ho
      rw [List.take_length] at o1
      obtain ⟨a, b⟩ := parts_ok (opL_lt hl) c2.1
      refine ⟨a, ?_⟩
      simp only
      rw [b]; exact o1.symm
    · cases h
theorem decG_bad (l : List Nat) : (decG l).2 = 0 ∨ (decG l).1 = zeroG := by
  unfold decG
  repeat' split
  all_goals first | exact .inr rfl | exact .inl rfl
theorem decG_claims (l : List Nat) : (decG l).1.claims.length ≤ 1000 := by
  unfold decG
  split
  · simp [zeroG]
  · split
    · rename_i c
      simp only [Bool.and_eq_true] at c
      exact (chkS_both (goodG (okT_iff.1 c.1).2.2.2.2.2.2).c1).2
    · simp [zeroG]
end Go.Mb
