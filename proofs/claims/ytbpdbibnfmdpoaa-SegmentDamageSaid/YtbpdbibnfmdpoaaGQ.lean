/- The law of damaged segments. -/
import Derived.Test.YtbpdbibnfmdpoaaGN
import Derived.Test.YtbpdbibnfmdpoaaGM
set_option linter.unusedSimpArgs false
set_option linter.unusedSectionVars false
set_option linter.unusedVariables false
namespace Go.Proofs.Ytbpdbibnfmdpoaa
open Go.Sy Go.Mb
set_option maxRecDepth 100000
set_option linter.unusedVariables false
set_option maxHeartbeats 4000000

theorem u8max (b : Nat) : (if (b : Int) < 1 then (1 : Int) else (b : Int)) = ((max b 1 : Nat) : Int) := by split <;> omega
theorem set_bytes (a : ByteArray) (k v : Nat) (hk : k < a.size) (el : Nat → Nat → A) (h : ∀ i, i < a.size → el i 0 = if i = k then A.int .u8 (v : Int) else strEl a i 0) : bytesOf el a.size = bs ((ls a).set k v) := by
  have hl := ls_len a
  have h2 : bytesOf el a.size = bytesOf (rowL bC ((ls a).set k v)) a.size := by
    refine bytesOf_congr fun i hi => ?_
    rw [h i hi]
    unfold rowL
    rw [getD_setG _ _ _ _ (by omega)]
    split
    · rfl
    · rw [strEl_row a i 0 (by omega)]; rfl
  rw [h2]
  have := bytesOf_row ((ls a).set k v)
  rw [List.length_set, hl] at this
  exact this
def xorK (a : ByteArray) (K b : Int) : Int := IntKind.u8.wrap ((BitVec.ofInt IntKind.u8.bits ((a.data.toList.getD K.toNat 0).toNat : Int) ^^^ BitVec.ofInt IntKind.u8.bits (if 1 > b then 1 else b)).toNat : Int)
theorem xorK_eq (a : ByteArray) (k b : Nat) (hb : b < 256) : xorK a (k : Int) (b : Int) = (((ls a).getD k 0 ^^^ max b 1 : Nat) : Int) := by
  have e1 : (if (1 : Int) > (b : Int) then (1 : Int) else (b : Int)) = ((max b 1 : Nat) : Int) := by split <;> omega
  unfold xorK
  rw [e1, show ((a.data.toList.getD (Int.toNat ((k : Nat) : Int)) 0).toNat : Int) = (((ls a).getD k 0 : Nat) : Int) by rw [← ls_get]; rfl]
  exact xor8 (ls_bd a k) (by omega)
def elK (a : ByteArray) (K b : Int) : Nat → Nat → A := fun i' j => if i' = K.toNat ∧ 0 ≤ j ∧ j < 0 + (0 + 1) then getA [A.int .u8 (xorK a K b)] (j - 0) else strEl a i' j
theorem elK_eq (a : ByteArray) (k b : Nat) (hb : b < 256) (hk : k < a.size) : bytesOf (elK a (k : Int) (b : Int)) a.size = bs ((ls a).set k ((ls a).getD k 0 ^^^ max b 1)) := by
  refine set_bytes a k _ hk _ fun i hi => ?_
  unfold elK
  rw [xorK_eq a k b hb]
  by_cases h : i = k
  · rw [if_pos ⟨h, by omega, by omega⟩, if_pos h]; rfl
  · rw [if_neg (fun e => h e.1), if_neg h]
theorem elK_u8 (a : ByteArray) (K b : Int) (n : Nat) : allN (fun i => isU8 (elK a K b i 0)) n = true := allN_row fun i hi => by
  unfold elK
  split <;> rfl
theorem xor_ne {x m : Nat} (h : m ≠ 0) : x ≠ x ^^^ m := by
  intro e
  exact h (xor_cancel (a := x) (b := m) (c := 0) (by rw [Nat.xor_zero]; exact e.symm))
theorem segmentDamage_ok (s : Seg) (at_ : Nat) (hat : at_ < 65536) (by_ : Nat) (hby : by_ < 256) (more : ByteArray) : FnOK Try.prog 5 [.agg s.cells, .int .u16 at_, .int .u8 by_, .str more] (.bool true, none) := by
  refine fn_ok CN rfl (by kernel_rfl) Try.func5 rfl ?_
  refine Sat.go (Eq.refl _) (NS.call (great_ok s) rfl ?_)
  refine Sat.go (Eq.refl _) (NS.ite (fun h0 => ?_) (fun h0 => ?_))
  · refine Sat.go (Eq.refl _) (NS.call (awake_ok) rfl ?_)
    exact Sat.go (Eq.refl _) (NS.ret rfl rfl (LeA.of (congrArg A.bool (rfl))))
  refine Sat.go (Eq.refl _) (NS.ite (fun h1 => ?_) (fun h1 => ?_))
  · refine Sat.go (Eq.refl _) (NS.call (awake_ok) rfl ?_)
    exact Sat.go (Eq.refl _) (NS.ret rfl rfl (LeA.of (congrArg A.bool (rfl))))
  have h1 : more.size ≤ 20 := by have h1 : ¬ (more.size : Int) > 20 := of_decide_eq_false h1
                                 omega
  by_cases hg : chkG s = 0
  · have hgg := goodG hg
    have ce := encode_ok s
    rw [encGM_ok hg] at ce
    have hlen := (sealL_len (encG_len hgg)).2
    have hlen2 := (sealL_len (encG_len hgg)).1
    have hel := encG_len hgg
    have hlt := sealL_lt (encG_lt s)
    have hsz := bs_len (sealL (encG s))
    have hlsa : ls (bs (sealL (encG s))) = sealL (encG s) := ls_bs hlt
    refine Sat.go (Eq.refl _) (NS.call (ce) rfl ?_)
    refine Sat.go (Eq.refl _) (NS.no (rfl) ?_)
    refine Sat.go (Eq.refl _) (NS.no (by rw [beq_eq_false_iff_ne]; show ((bs (sealL (encG s))).size : Int) ≠ 0; omega) ?_)
    refine Sat.go (Eq.refl _) (NS.need (by rw [bne_iff_ne]; show ((bs (sealL (encG s))).size : Int) ≠ 0; omega) ?_)
    have hdm := fun (k b : Nat) (hb : b < 256) (hk : k < (sealL (encG s)).length) (hne : (sealL (encG s)).getD k 0 ≠ b) => damaged hg hb hk hne
    have hds := fun (k : Nat) (hk : k < (sealL (encG s)).length) => shortened hg hk
    have hdo := decG_enc hg
    have hdx := fun (r : List Nat) (hr : r ≠ []) => decG_more hg hr
    generalize sealL (encG s) = a at *
    have hk : at_ % a.length < a.length := Nat.mod_lt _ (by omega)
    have eK : (IntKind.i64.wrap (at_ : Int)).tmod ((bs a).size : Int) = ((at_ % a.length : Nat) : Int) := by rw [wrap_i64 (by omega) (by omega), hsz]; exact (Int.ofNat_tmod at_ a.length).symm
    generalize at_ % a.length = k at *
    refine Sat.go (Eq.refl _) (NS.need (by exact decide_eq_true (by show (bs a).size ≤ maxRow; simp only [maxRow]; omega)) ?_)
    refine Sat.go (Eq.refl _) (NS.need (by exact decide_eq_true (by show 0 ≤ (IntKind.i64.wrap (at_ : Int)).tmod ((bs a).size : Int) ∧ (IntKind.i64.wrap (at_ : Int)).tmod ((bs a).size : Int) < (bs a).size; rw [eK]; omega)) ?_)
    refine Sat.go (Eq.refl _) (NS.need (by exact decide_eq_true (by show Int.toNat ((IntKind.i64.wrap (at_ : Int)).tmod ((bs a).size : Int)) < (bs a).size; rw [eK]; show k < _; omega)) ?_)
    refine Sat.go (Eq.refl _) (NS.need (by exact decide_eq_true (by show 0 ≤ (IntKind.i64.wrap (at_ : Int)).tmod ((bs a).size : Int) ∧ (IntKind.i64.wrap (at_ : Int)).tmod ((bs a).size : Int) < (bs a).size; rw [eK]; omega)) ?_)
    refine Sat.go (Eq.refl _) (NS.need (by exact decide_eq_true (by show Int.toNat ((IntKind.i64.wrap (at_ : Int)).tmod ((bs a).size : Int)) < (bs a).size; rw [eK]; show k < _; omega)) ?_)
    refine Sat.go (Eq.refl _) (NS.need (by exact elK_u8 (bs a) ((IntKind.i64.wrap (at_ : Int)).tmod ((bs a).size : Int)) (by_ : Int) (bs a).size) ?_)
    have hv : a.getD k 0 ^^^ max by_ 1 < 256 := xor_lt (n := 8) (by have := ls_bd (bs a) k; rw [hlsa] at this; exact this) (by omega)
    have cd := decode_ok (bs (a.set k (a.getD k 0 ^^^ max by_ 1))) (by rw [bs_len, List.length_set]; omega)
    rw [ls_bs (fun x hx => by
      rcases List.mem_or_eq_of_mem_set hx with hx | rfl
      · exact hlt x hx
      · exact hv)] at cd
    have ee := elK_eq (bs a) k by_ hby (by omega)
    rw [← eK, hlsa] at ee
    have d1 := hdm k _ hv hk (xor_ne (by omega))
    have d2 := hds k hk
    refine Sat.go (Eq.refl _) (NS.call (cd.le (LeL.cons (LeA.of (congrArg A.str ee)) LeL.nil)) rfl ?_)
    refine Sat.go (Eq.refl _) (NS.need (by exact decide_eq_true (by show 0 ≤ ((0 : Nat) : Int) ∧ ((0 : Nat) : Int) ≤ (IntKind.i64.wrap (at_ : Int)).tmod ((bs a).size : Int) ∧ (IntKind.i64.wrap (at_ : Int)).tmod ((bs a).size : Int) ≤ (bs a).size; rw [eK]; omega)) ?_)
    have e2 : (bs a).extract (Int.toNat ((0 : Nat) : Int)) (Int.toNat ((IntKind.i64.wrap (at_ : Int)).tmod ((bs a).size : Int))) = bs (a.take k) := by
      rw [eK, ← bs_ls ((bs a).extract _ _), ls_extract, hlsa]; rfl
    have ct := decode_ok (bs (a.take k)) (by rw [bs_len, List.length_take]; omega)
    rw [ls_bs (fun x hx => hlt x (List.mem_of_mem_take hx))] at ct
    refine Sat.go (Eq.refl _) (NS.call (ct.le (LeL.cons (LeA.of (congrArg A.str e2)) LeL.nil)) rfl ?_)
    refine Sat.go (Eq.refl _) (NS.need (by exact decide_eq_true (by show (bs a).size + more.size ≤ _; omega)) ?_)
    have e3 : bs a ++ more = bs (a ++ ls more) := by rw [bs_append, bs_ls]
    have hml := ls_len more
    have cm := decode_ok (bs (a ++ ls more)) (by rw [bs_len, List.length_append]; omega)
    rw [ls_bs (fun x hx => by
      rcases List.mem_append.1 hx with hx | hx
      · exact hlt x hx
      · exact ls_lt more x hx)] at cm
    refine Sat.go (Eq.refl _) (NS.call (cm.le (LeL.cons (LeA.of (congrArg A.str e3)) LeL.nil)) rfl ?_)
    refine Sat.go (Eq.refl _) (NS.yes (d1) ?_)
    refine Sat.go (Eq.refl _) (NS.yes (d2) ?_)
    have hm3 : (((decG (a ++ ls more)).2 == 0) == (more.toList == (ByteArray.mk #[]).toList)) = true := by
      rw [size0]
      by_cases hm : ls more = []
      · rw [hm, List.append_nil, hdo]
        have : more.size = 0 := by rw [← hml, hm]; rfl
        rw [this]; rfl
      · have hp := List.length_pos_iff.2 hm
        rw [hdx _ hm]
        have : (more.size == 0) = false := by rw [beq_eq_false_iff_ne]; omega
        rw [this]; rfl
    refine Sat.go (Eq.refl _) (NS.yes (hm3) ?_)
    refine Sat.go (Eq.refl _) (NS.call (awake_ok) rfl ?_)
    exact Sat.go (Eq.refl _) (NS.ret rfl rfl (LeA.of (congrArg A.bool (rfl))))
  · have ce := encode_ok s
    have hE : encGM s = (.empty, chkG s) := by unfold encGM; rw [if_pos (by simpa using hg)]
    rw [hE] at ce
    have hb : (chkG s != 0) = true := by simpa using hg
    refine Sat.go (Eq.refl _) (NS.call (ce) rfl ?_)
    refine Sat.go (Eq.refl _) (NS.yes (hb) ?_)
    refine Sat.go (Eq.refl _) (NS.yes (hb) ?_)
    refine Sat.go (Eq.refl _) (NS.call (awake_ok) rfl ?_)
    exact Sat.go (Eq.refl _) (NS.ret rfl rfl (LeA.of (congrArg A.bool (rfl))))
end Go.Proofs.Ytbpdbibnfmdpoaa
