/- Stripping, in plain words. -/
import Derived.Test.YtdhfgfkfejpfdaaKY
import Derived.Test.YtdhfgfkfejpfdaaKYA
set_option linter.unusedSimpArgs false
set_option linter.unusedSectionVars false
set_option linter.unusedVariables false
namespace Go.Mb
open Go.Sy
set_option linter.unusedVariables false
theorem fnd_filter {S : List Sg} {n m : Int} (h : m ≠ n) : fndS (S.filter fun p => (p.1 : Int) != n) m = fndS S m := by
  have e : (fun a : Sg => decide (((a.1 : Int) != n) = true ∧ ((a.1 : Int) == m) = true)) = fun a : Sg => ((a.1 : Int) == m) := by
    funext a
    rw [Bool.eq_iff_iff]
    simp only [decide_eq_true_eq, bne_iff_ne, ne_eq, beq_iff_eq]
    constructor
    · intro h; exact h.2
    · intro h2; exact ⟨by omega, h2⟩
  unfold fndS
  rw [List.find?_filter, e]
def strF (b : Bun) (n : Int) : List Sg := (sgB b).filter fun p => (p.1 : Int) != n
def strB (b : Bun) (n : Int) : Bun := if (strF b n).isEmpty then noS b else setS b (strF b n)
theorem stripM_ok {b x : Bun} {n : Int} : stripM b n = (x, 0) ↔ Okb b ∧ okN n ∧ (fndS (sgB b) n).2 = true ∧ x = strB b n := by
  unfold stripM
  split <;> rename_i h1
  · have h1 : chkB b ≠ 0 := by simpa using h1
    exact ⟨fun e => absurd (congrArg Prod.snd e) h1, fun e => absurd e.1.chk h1⟩
  have h1 : chkB b = 0 := by simpa using h1
  split <;> rename_i h2
  · simp only [Bool.or_eq_true, decide_eq_true_eq] at h2
    exact ⟨fun e => (by have := congrArg Prod.snd e; cases this), fun e => by have := e.2.1; unfold okN at this; omega⟩
  simp only [Bool.or_eq_true, decide_eq_true_eq, not_or] at h2
  split <;> rename_i h3
  · exact ⟨fun e => (by have := congrArg Prod.snd e; cases this), fun e => by rw [e.1.dmg] at h3; cases h3⟩
  have h3 : dmgB b = false := by simpa using h3
  split <;> rename_i h4
  · exact ⟨fun e => (by have := congrArg Prod.snd e; cases this), fun e => by rw [e.2.2.1] at h4; cases h4⟩
  have h4 : (fndS (sgB b) n).2 = true := by simpa using h4
  have hc : Okb b ∧ okN n ∧ (fndS (sgB b) n).2 = true := ⟨⟨h1, h3⟩, ⟨by omega, by omega⟩, h4⟩
  unfold strB strF
  split <;> rename_i h5
  · exact ⟨fun e => ⟨hc.1, hc.2.1, hc.2.2, (congrArg Prod.fst e).symm⟩, fun e => by rw [e.2.2.2]; rfl⟩
  · exact ⟨fun e => ⟨hc.1, hc.2.1, hc.2.2, (congrArg Prod.fst e).symm⟩, fun e => by rw [e.2.2.2]; rfl⟩
theorem stripM_fst {b : Bun} {n : Int} (h : (stripM b n).2 ≠ 0) : (stripM b n).1 = default := by
  unfold stripM at h ⊢
  split
  · rfl
  rename_i h1
  rw [if_neg h1] at h
  split
  · rfl
  rename_i h2
  rw [if_neg h2] at h
  split
  · rfl
  rename_i h3
  rw [if_neg h3] at h
  split
  · rfl
  rename_i h4
  rw [if_neg h4] at h
  split at h <;> exact absurd rfl h
theorem found_of {b : Bun} {n : Int} (h : (fndS (sgB b) n).2 = true) : (fndB b.l 4).2 = true := by
  cases hb : (fndB b.l 4).2 with
  | true => rfl
  | false => rw [sgB_none hb] at h; cases h
structure StrOK (b : Bun) (n : Int) : Prop where
  ok : Okb (strB b n)
  sg : sgB (strB b n) = strF b n
  sd : sdt (strB b n) = sdt b
theorem strB_ok {b : Bun} {n : Int} (h : Okb b) (hf : (fndS (sgB b) n).2 = true) : StrOK b n := by
  have hfb := found_of hf
  have hF : GoodS (strF b n) := h.good.filter _
  by_cases h1 : (strF b n).isEmpty = true
  · have e : strF b n = [] := List.isEmpty_iff.1 h1
    refine ⟨?_, ?_, ?_⟩
    · rw [show strB b n = noS b from if_pos h1]; exact noS_ok h.chk
    · rw [show strB b n = noS b from if_pos h1, noS_sg, e]
    · rw [show strB b n = noS b from if_pos h1, noS_sdt]
  · have e : strF b n ≠ [] := fun e => h1 (by rw [e]; rfl)
    refine ⟨?_, ?_, ?_⟩
    · rw [show strB b n = setS b (strF b n) from if_neg h1]; exact setS_ok h.chk hF e (room_of h.chk hfb)
    · rw [show strB b n = setS b (strF b n) from if_neg h1]; exact setS_sg h.chk hF
    · rw [show strB b n = setS b (strF b n) from if_neg h1]; exact setS_sdt h.chk _
theorem ver_strip {b : Bun} {n m : Int} {key : ByteArray} (h : Okb b) (hf : (fndS (sgB b) n).2 = true) (hne : m ≠ n) : verM (strB b n) m key = verM b m key := by
  obtain ⟨h1, h2, h3⟩ := strB_ok h hf
  have ha : chkAll (strB b n) m key = chkAll b m key := by unfold chkAll; rw [h1.chk, h.chk, h1.dmg, h.dmg]
  have ht : sgnM (strB b n) m.toNat key = sgnM b m.toNat key := by unfold sgnM; rw [h3]
  unfold verM
  rw [ha, h2, ht, show strF b n = (sgB b).filter fun p => (p.1 : Int) != n from rfl, fnd_filter hne]
def ndsI (S : List Sg) : List Int := S.map fun p => (p.1 : Int)
theorem signers_of {b : Bun} (h : Okb b) : signersM b = (ndsI (sgB b), 0) := by
  unfold signersM; rw [h.chk, h.dmg]; rfl
theorem nds_filter (S : List Sg) (n : Int) : ndsI (S.filter fun p => (p.1 : Int) != n) = keepG (fun z => z == n) (ndsI S) := by
  unfold ndsI keepG
  rw [List.filter_map]; rfl
theorem nds_any {S : List Sg} {n : Int} : (ndsI S).any (fun z => z == n) = (fndS S n).2 := by
  rw [Bool.eq_iff_iff]
  constructor
  · intro h
    cases hf : (fndS S n).2 with
    | true => rfl
    | false =>
      rw [List.any_eq_true] at h
      obtain ⟨z, hz, e⟩ := h
      unfold ndsI at hz
      rw [List.mem_map] at hz
      obtain ⟨p, hp, rfl⟩ := hz
      exact absurd (by simpa using e) (fndS_none.1 hf p hp)
  · intro h
    obtain ⟨p, hp, e, _⟩ := fndS_some h
    rw [List.any_eq_true]
    exact ⟨n, by unfold ndsI; rw [List.mem_map]; exact ⟨p, hp, e⟩, by simp⟩
theorem strip_prot {b x : Bun} {n : Int} {key : ByteArray} (h : protM b n key = (x, 0)) : stripM x n = (b, 0) := by
  obtain ⟨pa, fa, ra, ex⟩ := protM_ok.1 h
  have tn := toN pa.rng
  have hT := fresh_ins pa fa
  have hx : Okb x := by rw [ex]; exact setS_ok pa.ok.chk hT (insS_ne _ _) ra
  have hsx : sgB x = insS (n.toNat, sgnM b n.toNat key) (sgB b) := by rw [ex]; exact setS_sg pa.ok.chk hT
  have hF : strF x n = sgB b := by
    unfold strF
    rw [hsx]
    refine sorted_ext (hT.filter _).1 pa.ok.good.1 fun z => ?_
    rw [List.mem_filter, insS_mem]
    constructor
    · rintro ⟨h1 | h1, h2⟩
      · subst h1
        simp only [bne_iff_ne, ne_eq] at h2
        exact absurd tn h2
      · exact h1
    · intro h1
      have := fndS_none.1 fa z h1
      exact ⟨.inr h1, by simpa using this⟩
  have hfx : (fndS (sgB x) n).2 = true := by
    have := fndS_mem hT (p := (n.toNat, sgnM b n.toNat key)) (insS_mem.2 (.inl rfl))
    rw [hsx]
    have e : fndS (insS (n.toNat, sgnM b n.toNat key) (sgB b)) n = fndS (insS (n.toNat, sgnM b n.toNat key) (sgB b)) ((n.toNat : Nat) : Int) := by rw [tn]
    rw [e, this]
  refine stripM_ok.2 ⟨hx, pa.rng, hfx, ?_⟩
  unfold strB
  rw [hF]
  cases hb : (fndB b.l 4).2 with
  | false =>
    rw [sgB_none hb, if_pos (show ([] : List Sg).isEmpty = true from rfl)]
    show b = { x with l := remB x.l 4 }
    rw [ex, setS_rem pa.ok.chk, remB_none hb]
    rfl
  | true =>
    have hne := (pa.ok.enc hb).2
    rw [if_neg (fun e => hne (List.isEmpty_iff.1 e)), ex, setS_setS pa.ok.chk, setS_self pa.ok hb]
end Go.Mb
