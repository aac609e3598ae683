/- Damaged segments in plain words. -/
import Derived.Test.YtbpdbibnfmdpoaaGF
set_option linter.unusedSimpArgs false
set_option linter.unusedSectionVars false
set_option linter.unusedVariables false
namespace Go.Mb
open Go.Sy
set_option linter.unusedVariables false
theorem tail4 (l : List Nat) : (tailL l).length = 4 := rfl
theorem seal_len (p : List Nat) : (sealL p).length = (frameL p).length + 4 := by unfold sealL; rw [List.length_append, tail4]
theorem decG_seal {l : List Nat} (hl : ∀ x ∈ l, x < 256) (h : (decG l).2 = 0) : ∃ p, l = sealL p ∧ (∀ x ∈ p, x < 256) ∧ p.length ≤ 65536 := by
  obtain ⟨h1, h2⟩ := decG_ok hl h
  exact ⟨_, h2.symm, encG_lt _, encG_len (goodG h1)⟩
theorem seal_changed {P Q : List Nat} {k b : Nat} (hP : ∀ x ∈ P, x < 256) (hQ : ∀ x ∈ Q, x < 256) (hb : b < 256) (hk : k < (sealL P).length) (hne : (sealL P).getD k 0 ≠ b) : (sealL P).set k b ≠ sealL Q := by
  intro he
  have hlen : (frameL P).length = (frameL Q).length := by
    have := congrArg List.length he
    rw [List.length_set, seal_len, seal_len] at this; omega
  have hs := seal_len P
  by_cases hkn : k < (frameL P).length
  · have e1 : (sealL P).set k b = (frameL P).set k b ++ tailL (frameL P) := by unfold sealL; rw [List.set_append_left _ _ hkn]
    rw [e1] at he
    unfold sealL at he
    obtain ⟨h1, h2⟩ := List.append_inj he (by rw [List.length_set]; exact hlen)
    have h3 := tailL_inj (frameL_lt hP) (frameL_lt hQ) h2
    rw [← h1] at h3
    have h4 : frameL P = (frameL P).take k ++ (frameL P)[k] :: (frameL P).drop (k + 1) := by
      rw [← List.drop_eq_getElem_cons hkn, List.take_append_drop]
    have h5 : (frameL P).set k b = (frameL P).take k ++ b :: (frameL P).drop (k + 1) := List.set_eq_take_append_cons_drop.trans (by rw [if_pos hkn])
    rw [h5] at h3
    conv at h3 => lhs; rw [h4]
    refine sumL_ne (fun x hx => frameL_lt hP x (List.mem_of_mem_take hx)) (fun x hx => frameL_lt hP x (List.mem_of_mem_drop hx)) (frameL_lt hP _ (List.getElem_mem _)) hb ?_ h3
    intro e
    apply hne
    unfold sealL
    rw [← e]
    simp [List.getD, List.getElem?_append_left hkn, hkn]
  · have e1 : (sealL P).set k b = frameL P ++ (tailL (frameL P)).set (k - (frameL P).length) b := by unfold sealL; rw [List.set_append_right _ _ (by omega)]
    have e2 : (sealL P).set k b = frameL Q ++ tailL (frameL Q) := he
    rw [e1] at e2
    obtain ⟨h1, h2⟩ := List.append_inj e2 hlen
    rw [← h1] at h2
    apply hne
    have h6 : sealL P = (sealL P).set k b := by
      conv => lhs; unfold sealL
      rw [e1, h2]
    rw [h6]
    simp [List.getD, hk]
theorem seal_short {P Q : List Nat} {k : Nat} (hP : P.length ≤ 65536) (hQ : Q.length ≤ 65536) (hk : k < (sealL P).length) : (sealL P).take k ≠ sealL Q := by
  intro he
  have h1 := opL_seal hP []
  rw [List.append_nil] at h1
  have h2 := opL_seal hQ ((sealL P).drop k)
  rw [← he, List.take_append_drop, h1] at h2
  simp only [Prod.mk.injEq] at h2
  have h3 := h2.2.1
  rw [List.length_take] at h3
  omega
theorem damaged {s : Seg} (h : chkG s = 0) {k b : Nat} (hb : b < 256) (hk : k < (sealL (encG s)).length) (hne : (sealL (encG s)).getD k 0 ≠ b) : ((decG ((sealL (encG s)).set k b)).2 != 0) = true := by
  rw [bne_iff_ne]
  intro h0
  obtain ⟨Q, h1, h2, _⟩ := decG_seal (fun x hx => by
    rcases List.mem_or_eq_of_mem_set hx with hx | rfl
    · exact sealL_lt (encG_lt s) x hx
    · exact hb) h0
  exact seal_changed (encG_lt s) h2 hb hk hne h1
theorem shortened {s : Seg} (h : chkG s = 0) {k : Nat} (hk : k < (sealL (encG s)).length) : ((decG ((sealL (encG s)).take k)).2 != 0) = true := by
  rw [bne_iff_ne]
  intro h0
  obtain ⟨Q, h1, h2, h3⟩ := decG_seal (fun x hx => sealL_lt (encG_lt s) x (List.mem_of_mem_take hx)) h0
  exact seal_short (encG_len (goodG h)) h3 hk h1
end Go.Mb
