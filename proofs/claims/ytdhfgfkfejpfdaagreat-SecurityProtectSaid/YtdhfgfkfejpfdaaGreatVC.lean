
/- The contracts of reading numbers. -/
import Derived.Test.YtdhfgfkfejpfdaaGreatVB
set_option linter.unusedSimpArgs false
set_option linter.unusedSectionVars false
set_option linter.unusedVariables false
namespace Go.Proofs.YtdhfgfkfejpfdaaGreat
open Go.Sy Go.Mb
set_option maxRecDepth 100000
set_option linter.unusedVariables false
set_option maxHeartbeats 1000000

theorem rdI_le {r : Int × Nat × Int} {n e : Int} {k : Nat} (h : r = (n, k, e)) : LeA (.tup [.int .i64 n, .int .i64 (k : Int), .int .i64 e]) (.tup [.int .i64 r.1, .int .i64 (r.2.1 : Nat), .int .i64 r.2.2]) := by subst h; exact LeA.refl _
theorem rdI_err {l : List Nat} {e : Int} {m k : Nat} (h : rdZ 9 l 0 0 = (e, m, k)) (he : (e != 0) = true) : rdI l = (0, 0, e) := by unfold rdI; rw [h]; simp only; rw [if_pos he]
theorem rdI_bad {l : List Nat} {m k : Nat} (h : rdZ 9 l 0 0 = (0, m, k)) (hb : l.getD 0 0 = 128 ∨ inI (unz m) = false) : rdI l = (0, 0, 11) := by
  unfold rdI; rw [h]; simp only; rw [if_neg (by simp), if_pos]
  rcases hb with hb | hb
  · rw [hb]; rfl
  · rw [hb]; simp
theorem rdI_good {l : List Nat} {m k : Nat} (h : rdZ 9 l 0 0 = (0, m, k)) (h1 : l.getD 0 0 ≠ 128) (h2 : inI (unz m) = true) : rdI l = (unz m, k, 0) := by
  unfold rdI; rw [h]; simp only; rw [if_neg (by simp), if_neg]
  rw [h2]; simpa using h1
/-- What is known while groups are read. -/
structure RdU (l : List Nat) (i m : Nat) : Prop where
  le : i ≤ 9
  eq : rdZ 9 l 0 0 = rdZ (9 - i) (l.drop i) m i
  sz : m < 128 ^ i
  ln : i ≤ l.length
theorem RdU.start (l : List Nat) : RdU l 0 0 := ⟨by omega, rfl, by simp, by omega⟩
theorem RdU.short {l : List Nat} {i m : Nat} (u : RdU l i m) (h9 : i < 9) (h : l.length ≤ i) : rdI l = (0, 0, 12) := by
  refine rdI_err (e := 12) (m := 0) (k := 0) ?_ rfl
  rw [u.eq, drop_end h]
  obtain ⟨g, hg⟩ : ∃ g, 9 - i = g + 1 := ⟨8 - i, by omega⟩
  rw [hg, rdZ]
theorem RdU.long {l : List Nat} {m : Nat} (u : RdU l 9 m) : rdI l = (0, 0, 11) := by
  refine rdI_err (e := 11) (m := 0) (k := 0) ?_ rfl
  rw [u.eq]; rfl
theorem RdU.last {l : List Nat} {i m : Nat} (u : RdU l i m) (h9 : i < 9) (h : i < l.length) (hc : l.getD i 0 < 128) : rdZ 9 l 0 0 = (0, m * 128 + l.getD i 0, i + 1) := by
  obtain ⟨g, hg⟩ : ∃ g, 9 - i = g + 1 := ⟨8 - i, by omega⟩
  have hd : l.drop i = l.getD i 0 :: l.drop (i + 1) := drop_cons h
  rw [u.eq, hd, hg, rdZ, if_pos hc]
theorem RdU.step {l : List Nat} {i m : Nat} (hl : ∀ x ∈ l, x < 256) (u : RdU l i m) (h9 : i < 9) (h : i < l.length) (hc : ¬ l.getD i 0 < 128) : RdU l (i + 1) (m * 128 + l.getD i 0 % 128) := by
  obtain ⟨g, hg⟩ : ∃ g, 9 - i = g + 1 := ⟨8 - i, by omega⟩
  have hd : l.drop i = l.getD i 0 :: l.drop (i + 1) := drop_cons h
  have h256 : l.getD i 0 < 256 := memD (p := fun x => x < 256) hl h
  have hs := u.sz
  refine ⟨by omega, ?_, ?_, h⟩
  · rw [u.eq, hd, hg, rdZ, if_neg hc, show l.getD i 0 - 128 = l.getD i 0 % 128 by omega, show 9 - (i + 1) = g by omega]
  · rw [Nat.pow_succ]; omega
theorem RdU.small {l : List Nat} {i m : Nat} (u : RdU l i m) (h9 : i < 9) : m < 2 ^ 56 := by
  have h1 : 128 ^ i ≤ 128 ^ 8 := Nat.pow_le_pow_right (by omega) (by omega)
  have := u.sz
  omega
theorem ls_bd (s : ByteArray) (i : Nat) : (ls s).getD i 0 < 256 := by
  rcases Nat.lt_or_ge i (ls s).length with h | h
  · exact memD (p := fun x => x < 256) (ls_lt s) h
  · simp [List.getD, h]
theorem u8_i64 (x : Nat) (h : x < 256) : IntKind.i64.wrap ((x : Nat) : Int) = ((x : Nat) : Int) := wrap_i64 (by omega) (by omega)
theorem tdiv2 (m : Nat) : ((m : Nat) : Int).tdiv 2 = ((m / 2 : Nat) : Int) := (Int.ofNat_tdiv m 2).symm
theorem tmod2 (m : Nat) : ((m : Nat) : Int).tmod 2 = ((m % 2 : Nat) : Int) := (Int.ofNat_tmod m 2).symm
/-- The reference's number. -/
theorem ref_neg {m : Nat} (h : m < 2 ^ 63) (hm : m % 2 = 1) : IntKind.i64.wrap ((IntKind.i64.wrap (0 - IntKind.i64.wrap ((m : Int) + 1))).tdiv 2) = unz m := by
  unfold unz
  rw [if_pos hm]
  by_cases hb : m = 2 ^ 63 - 1
  · subst hb; decide
  · rw [wrap_i64 (n := (m : Int) + 1) (by omega) (by omega), wrap_i64 (n := 0 - ((m : Int) + 1)) (by omega) (by omega)]
    have e : (0 - ((m : Int) + 1)).tdiv 2 = -((m / 2 : Nat) : Int) - 1 := by
      rw [show 0 - ((m : Int) + 1) = -(((m + 1 : Nat) : Int)) by omega, Int.neg_tdiv]
      have : (((m + 1 : Nat) : Int)).tdiv 2 = (((m + 1) / 2 : Nat) : Int) := (Int.ofNat_tdiv (m + 1) 2).symm
      rw [this]; omega
    rw [e, wrap_i64 (by omega) (by omega)]
end Go.Proofs.YtdhfgfkfejpfdaaGreat
