
/- The contracts of the encodings of numbers. -/
import Derived.Test.YtdhfgfkfejpfdaaGreatVA
import Derived.Test.YtdhfgfkfejpfdaaGreatProg
set_option linter.unusedSimpArgs false
set_option linter.unusedSectionVars false
set_option linter.unusedVariables false
namespace Go.Mb
open Go.Sy
theorem shr7 {z j : Nat} (hj : 7 * j ≤ 63) : (z : Int).fdiv (2 ^ (min ((7 * j : Nat) : Int).toNat IntKind.i64.bits)) = ((z / 128 ^ j : Nat) : Int) := by
  have e1 : min ((7 * j : Nat) : Int).toNat IntKind.i64.bits = 7 * j := by
    have : IntKind.i64.bits = 64 := rfl
    rw [this, Int.toNat_natCast]; omega
  have e2 : (2 : Int) ^ (7 * j) = ((128 ^ j : Nat) : Int) := by
    rw [Int.pow_mul]; simp
  rw [e1, e2, Int.fdiv_eq_ediv_of_nonneg _ (Int.natCast_nonneg _)]
  exact (Int.natCast_ediv z (128 ^ j)).symm
theorem and127 (x : Nat) : IntKind.u8.wrap ((BitVec.ofInt IntKind.u8.bits (IntKind.u8.wrap (x : Int)) &&& BitVec.ofInt IntKind.u8.bits 127).toNat : Int) = ((x % 128 : Nat) : Int) := by
  have hb : IntKind.u8.bits = 8 := rfl
  rw [wrap_u8m, wrap_u8m, hb, BitVec.toNat_and]
  have e1 : (BitVec.ofInt 8 ((x : Int) % 256)).toNat = x % 256 := by rw [BitVec.toNat_ofInt]; omega
  have e2 : (BitVec.ofInt 8 127).toNat = 2 ^ 7 - 1 := by decide
  rw [e1, e2, Nat.and_two_pow_sub_one_eq_mod]
  omega
theorem and127b {x : Nat} (h : x < 256) : IntKind.u8.wrap ((BitVec.ofInt IntKind.u8.bits (x : Int) &&& BitVec.ofInt IntKind.u8.bits 127).toNat : Int) = ((x % 128 : Nat) : Int) := by
  have := and127 x
  rwa [wrap_u8 (n := (x : Int)) (by omega) (by omega)] at this
theorem or7 {n c : Nat} (hc : c < 128) (h : n < 2 ^ 56) : IntKind.i64.wrap ((BitVec.ofInt IntKind.i64.bits (IntKind.i64.wrap ((n : Int) * 2 ^ (min (7 : Int).toNat IntKind.i64.bits))) ||| BitVec.ofInt IntKind.i64.bits (IntKind.i64.wrap (c : Int))).toNat : Int) = ((n * 128 + c : Nat) : Int) := by
  have hb : IntKind.i64.bits = 64 := rfl
  have e0 : (2 : Int) ^ (min (7 : Int).toNat 64) = 128 := by decide
  rw [hb, e0, wrap_i64 (n := (n : Int) * 128) (by omega) (by omega), wrap_i64 (n := (c : Int)) (by omega) (by omega), BitVec.toNat_or]
  have e1 : (BitVec.ofInt 64 ((n : Int) * 128)).toNat = 2 ^ 7 * n := by rw [BitVec.toNat_ofInt]; omega
  have e2 : (BitVec.ofInt 64 (c : Int)).toNat = c := by rw [BitVec.toNat_ofInt]; omega
  rw [e1, e2, ← Nat.two_pow_add_eq_or_of_lt (by omega : c < 2 ^ 7), wrap_i64 (by omega) (by omega)]
  omega
theorem and1 {n : Nat} (h : n < 2 ^ 63) : IntKind.i64.wrap ((BitVec.ofInt IntKind.i64.bits (n : Int) &&& BitVec.ofInt IntKind.i64.bits 1).toNat : Int) = ((n % 2 : Nat) : Int) := by
  have hb : IntKind.i64.bits = 64 := rfl
  rw [hb, BitVec.toNat_and]
  have e1 : (BitVec.ofInt 64 (n : Int)).toNat = n := by rw [BitVec.toNat_ofInt]; omega
  have e2 : (BitVec.ofInt 64 1).toNat = 2 ^ 1 - 1 := by decide
  rw [e1, e2, Nat.and_two_pow_sub_one_eq_mod, wrap_i64 (by omega) (by omega)]
theorem shr1 (n : Nat) : (n : Int).fdiv (2 ^ (min (1 : Int).toNat IntKind.i64.bits)) = ((n / 2 : Nat) : Int) := by
  have e0 : (2 : Int) ^ (min (1 : Int).toNat IntKind.i64.bits) = 2 := by decide
  rw [e0, Int.fdiv_eq_ediv_of_nonneg _ (by omega)]; omega
theorem str_le {r : ByteArray × Int} {s : ByteArray} {e : Int} (h : r = (s, e)) : LeA (.tup [.str s, .int .i64 e]) (.tup [.str r.1, .int .i64 r.2]) := by subst h; exact LeA.refl _
end Go.Mb
namespace Go.Proofs.YtdhfgfkfejpfdaaGreat
open Go.Sy Go.Mb
set_option maxRecDepth 100000
set_option linter.unusedVariables false
set_option maxHeartbeats 1000000

noncomputable def EV : Env := { P := Tryz.prog, eqT := lookE [] }
theorem EV_ok : EqOK EV := eqOK_of (by intro p hp; cases hp)
noncomputable def VN : Cx := { E := EV, inl := [], ok := EV_ok }
noncomputable def VG : Cx := { E := EV, inl := [97], ok := EV_ok }
theorem inRange_ok (n : Int) : FnOK Tryz.prog 91 [.int .i64 n] (.bool (inI n), none) := by
  refine fn_ok VN rfl (by kernel_rfl) Tryz.func91 rfl ?_
  refine Sat.go (Eq.refl _) (NS.ite (fun h => ?_) (fun h => ?_))
  · exact Sat.go (Eq.refl _) (NS.ret rfl rfl (LeA.of (congrArg A.bool (by simp only [inI, h, Bool.true_and]))))
  · exact Sat.go (Eq.refl _) (NS.ret rfl rfl (LeA.of (congrArg A.bool (by simp only [inI, h, Bool.false_and]))))
theorem zigzag_ok {n : Int} (h : inI n = true) : FnOK Tryz.prog 93 [.int .i64 n] (.int .i64 (zig n : Nat), none) := by
  rw [inI_iff] at h
  refine fn_ok VN rfl (by kernel_rfl) Tryz.func93 rfl ?_
  refine Sat.go (Eq.refl _) (NS.ite (fun h2 => ?_) (fun h2 => ?_))
  · have h2 : n < 0 := of_decide_eq_true h2
    exact Sat.go (Eq.refl _) (NS.ret rfl rfl (LeA.of (congrArg (A.int .i64) (by unfold zig; rw [if_pos h2, wrap_i64 (n := -2 * n) (by omega) (by omega), wrap_i64 (by omega) (by omega)]; omega))))
  · have h2 : ¬ n < 0 := of_decide_eq_false h2
    exact Sat.go (Eq.refl _) (NS.ret rfl rfl (LeA.of (congrArg (A.int .i64) (by unfold zig; rw [if_neg h2, wrap_i64 (by omega) (by omega)]; omega))))
def groupsF (z : Nat) : A := .fn 97 [.ip 1 (getA [.int .i64 z])]
theorem groups_ok (z : Nat) : FnOK Tryz.prog 92 [.int .i64 z] (groupsF z, none) := by
  refine fn_ok VN rfl (by kernel_rfl) Tryz.func92 rfl ?_
  exact Sat.go (Eq.refl _) (NS.ret rfl rfl (LeA.refl _))
theorem int_ok (n : Int) : FnOK Tryz.prog 78 [.int .i64 n] (.tup [.str (intM n).1, .int .i64 (intM n).2], none) := by
  refine fn_ok VG rfl (by kernel_rfl) Tryz.func78 rfl ?_
  refine Sat.go (Eq.refl _) (NS.call (inRange_ok n) rfl ?_)
  refine Sat.go (Eq.refl _) (NS.ite (fun h => ?_) (fun h => ?_))
  · exact Sat.go (Eq.refl _) (NS.ret rfl rfl (str_le (by unfold intM; rw [not_t h]; rfl)))
  have h := not_f h
  have hz := zig_lt h
  have hm : intM n = (bs (encZ (zig n)), 0) := by unfold intM encI; rw [h]; rfl
  rw [hm]
  refine Sat.go (Eq.refl _) (NS.call (zigzag_ok h) rfl ?_)
  refine Sat.go (Eq.refl _) (NS.call (groups_ok (zig n)) rfl ?_)
  generalize zig n = z at hz hm
  refine Sat.go (Eq.refl _) ?_
  refine NS.loop (σ := { k : Nat // ∀ j, j < k → 128 ≤ z / 128 ^ j }) (fun k => [(0, .yld 25), (1, .ip 1 (getA [.int .i64 z])), (3, .int .i64 ((7 * k.1 : Nat) : Int))]) (fun k => []) (fun k => 9 - k.1) ⟨0, fun j hj => by omega⟩ ?_ ?_
  · exact weak_hd [] rfl ⟨rfl, rfl, rfl, trivial⟩ trivial (by repeat' (first | exact trivial | refine ⟨.inr rfl, ?_⟩ | refine ⟨.inl rfl, ?_⟩)) (by kernel_rfl)
  rintro ⟨k, hk⟩
  have hk8 : k ≤ 8 := by
    rcases Nat.lt_or_ge 8 k with h8 | h8
    · have := hk 8 h8
      have : z / 128 ^ 8 ≤ 2 ^ 61 / 128 ^ 8 := Nat.div_le_div_right hz
      omega
    · exact h8
  have ek : IntKind.i64.wrap (((7 * k : Nat) : Int) + 7) = ((7 * (k + 1) : Nat) : Int) := by rw [wrap_i64 (by omega) (by omega)]; omega
  refine Sat.go (Eq.refl _) (NS.need (decide_eq_true (Int.natCast_nonneg (7 * k))) ?_)
  rw [shr7 (z := z) (j := k) (by omega)]
  refine Sat.go (Eq.refl _) (NS.ite (fun h2 => ?_) (fun h2 => ?_))
  · have h2 : 128 ≤ z / 128 ^ k := by have h2 : ((z / 128 ^ k : Nat) : Int) ≥ 128 := of_decide_eq_true h2
                                      omega
    refine Sat.go (Eq.refl _) (NS.next ⟨k + 1, fun j hj => ?_⟩ (by simp only; omega) ?_)
    · by_cases e : j = k
      · rw [e]; exact h2
      · exact hk j (by omega)
    · exact weak_hd [] rfl ⟨rfl, rfl, ren_int rfl ek, trivial⟩ trivial (by repeat' (first | exact trivial | refine ⟨.inr rfl, ?_⟩ | refine ⟨.inl rfl, ?_⟩)) (by kernel_rfl)
  have h2 : z / 128 ^ k < 128 := by have h2 : ¬ ((z / 128 ^ k : Nat) : Int) ≥ 128 := of_decide_eq_false h2
                                    omega
  refine Sat.go (Eq.refl _) (NS.leave rfl (Eq.refl _) ?_)
  refine Sat.go (Eq.refl _) ?_
  refine NS.loop (σ := { j : Option Nat // ∀ q, j = some q → q ≤ k }) (fun j => [(0, .yld 25), (1, .ip 1 (getA [.int .i64 z])), (3, .int .i64 (match j.1 with | some q => ((7 * q : Nat) : Int) | none => -7))]) (fun j => [(4, .box [.own 26]), (26, .row 5 1 (match j.1 with | some q => pre (z / 128 ^ (q + 1)) | none => encZ z).length (rowL bC (match j.1 with | some q => pre (z / 128 ^ (q + 1)) | none => encZ z)))]) (fun j => match j.1 with | some q => q + 1 | none => 0) ⟨some k, fun q hq => by cases hq; exact Nat.le_refl _⟩ ?_ ?_
  · have e0 : pre (z / 128 ^ (k + 1)) = [] := by
      rw [Nat.pow_succ, ← Nat.div_div_eq_div_mul, Nat.div_eq_of_lt h2, pre_zero]
    refine (weak_promoteB 4 0 26 5 1 (rowL bC []) rfl rfl rfl).trans ?_
    refine weak_hd [] rfl ⟨rfl, rfl, rfl, trivial⟩ ⟨⟨_, rfl, _, _, rfl, rfl, rfl⟩, ?_, trivial⟩ (by repeat' (first | exact trivial | refine ⟨.inr rfl, ?_⟩ | refine ⟨.inl rfl, ?_⟩)) (by kernel_rfl)
    simp only [e0]
    exact ren_row rfl rfl fun _ _ _ _ => rfl
  rintro ⟨j, hj⟩
  cases j with
  | none =>
    refine Sat.go (Eq.refl _) (NS.no (rfl) ?_)
    refine Sat.go (Eq.refl _) (NS.leave rfl (Eq.refl _) ?_)
    refine Sat.go (Eq.refl _) (NS.need (allN_row fun i hi => rfl) ?_)
    rw [bytesOf_row (encZ z)]
    exact Sat.go (Eq.refl _) (NS.ret rfl rfl (LeA.refl _))
  | some q =>
    have hq := hj q rfl
    have hlen : (pre (z / 128 ^ (q + 1))).length ≤ 9 := by
      refine pre_len 9 _ (Nat.lt_of_le_of_lt (Nat.div_le_self _ _) ?_)
      omega
    refine Sat.go (Eq.refl _) (NS.yes (decide_eq_true (Int.natCast_nonneg (7 * q))) ?_)
    refine Sat.go (Eq.refl _) (NS.need (decide_eq_true (Int.natCast_nonneg (7 * q))) ?_)
    rw [shr7 (z := z) (j := q) (by omega)]
    have eg := and127 (z / 128 ^ q)
    cases q with
    | zero =>
      refine Sat.go (Eq.refl _) (NS.no (rfl) ?_)
      refine Sat.go (Eq.refl _) (NS.need (decide_eq_true (by simp only [maxRow]; omega)) ?_)
      refine Sat.go (Eq.refl _) (NS.next ⟨none, fun q hq => by cases hq⟩ (by simp only; omega) ?_)
      refine weak_hd [(26, 72)] rfl ⟨rfl, rfl, rfl, trivial⟩ ⟨⟨_, rfl, _, _, rfl, rfl, rfl⟩, ?_, trivial⟩ (by repeat' (first | exact trivial | refine ⟨.inr rfl, ?_⟩ | refine ⟨.inl rfl, ?_⟩)) (by kernel_rfl)
      rw [Nat.pow_zero, Nat.div_one] at eg
      refine ren_row rfl (by simp [encZ]) fun i hi j hj => ?_
      exact row_snoc (cells := bC) (l := pre (z / 128)) (x := z % 128) (congrArg (fun y => [A.int .u8 y]) (by rw [Nat.pow_zero, Nat.div_one]; exact eg)) i (by simpa [encZ] using hi) j hj
    | succ p =>
      have hne : z / 128 ^ (p + 1) ≠ 0 := by
        have := hk p (by omega)
        rw [Nat.pow_succ, ← Nat.div_div_eq_div_mul]; omega
      have epre : pre (z / 128 ^ (p + 1)) = pre (z / 128 ^ (p + 1 + 1)) ++ [z / 128 ^ (p + 1) % 128 + 128] := by
        rw [pre_pos hne, Nat.div_div_eq_div_mul, ← Nat.pow_succ]
      have ew : IntKind.i64.wrap (((7 * (p + 1) : Nat) : Int) - 7) = ((7 * p : Nat) : Int) := by rw [wrap_i64 (by omega) (by omega)]; omega
      refine Sat.go (Eq.refl _) (NS.yes (by simp; omega) ?_)
      refine Sat.go (Eq.refl _) (NS.need (decide_eq_true (by simp only [maxRow]; omega)) ?_)
      refine Sat.go (Eq.refl _) (NS.next ⟨some p, fun q hq => by cases hq; omega⟩ (by simp only; omega) ?_)
      refine weak_hd [(26, 72)] rfl ⟨rfl, rfl, ren_int rfl ew, trivial⟩ ⟨⟨_, rfl, _, _, rfl, rfl, rfl⟩, ?_, trivial⟩ (by repeat' (first | exact trivial | refine ⟨.inr rfl, ?_⟩ | refine ⟨.inl rfl, ?_⟩)) (by kernel_rfl)
      refine ren_row rfl ?_ fun i hi j hj => ?_
      · show (pre (z / 128 ^ (p + 1 + 1))).length + 1 = (pre (z / 128 ^ (p + 1))).length
        rw [epre]; simp
      · show _ = rowL bC (pre (z / 128 ^ (p + 1))) i j
        have hi : i < (pre (z / 128 ^ (p + 1))).length := hi
        rw [epre] at hi ⊢
        exact row_snoc (cells := bC) (l := pre (z / 128 ^ (p + 1 + 1))) (x := z / 128 ^ (p + 1) % 128 + 128) (congrArg (fun y => [A.int .u8 y]) (by rw [eg, wrap_u8 (by omega) (by omega)]; omega)) i (by simpa using hi) j hj
theorem bytesOf_size (el : Nat → Nat → A) (n : Nat) : (bytesOf el n).size = n := by
  have : (bytesOf el n).size = (bytesOf el n).data.size := rfl
  rw [this]; simp [bytesOf]
theorem bytes1 (x : Nat) : bytesOf (fun i j => getA [A.int .u8 (x : Int)] (i * 1 + j)) 1 = bs [x] := rfl
theorem tmod128 (m : Nat) : ((m : Nat) : Int).tmod 128 = ((m % 128 : Nat) : Int) := (Int.ofNat_tmod m 128).symm
theorem tdiv128 (m : Nat) : ((m : Nat) : Int).tdiv 128 = ((m / 128 : Nat) : Int) := (Int.ofNat_tdiv m 128).symm
theorem rInt_ok (n : Int) : FnOK Tryz.prog 67 [.int .i64 n] (.tup [.str (intM n).1, .int .i64 (intM n).2], none) := by
  refine fn_ok VN rfl (by kernel_rfl) Tryz.func67 rfl ?_
  refine Sat.go (Eq.refl _) (NS.ite (fun h1 => ?_) (fun h1 => ?_))
  · have h1 : n < -1152921504606846976 := of_decide_eq_true h1
    exact Sat.go (Eq.refl _) (NS.ret rfl rfl (str_le (by unfold intM; rw [if_neg (by rw [inI_iff]; omega)]; rfl)))
  have h1 : ¬ n < -1152921504606846976 := of_decide_eq_false h1
  refine Sat.go (Eq.refl _) (NS.ite (fun h2 => ?_) (fun h2 => ?_))
  · have h2 : n > 1152921504606846976 := of_decide_eq_true h2
    exact Sat.go (Eq.refl _) (NS.ret rfl rfl (str_le (by unfold intM; rw [if_neg (by rw [inI_iff]; omega)]; rfl)))
  have h2 : ¬ n > 1152921504606846976 := of_decide_eq_false h2
  have h : inI n = true := by rw [inI_iff]; omega
  have hz := zig_lt h
  have hm : intM n = (bs (encZ (zig n)), 0) := by unfold intM encI; rw [h]; rfl
  rw [hm]
  rw [inI_iff] at h
  refine Sat.go (Eq.refl _) (NS.ite (fun h4 => ?_) (fun h4 => ?_))
  · have h4 : n < 0 := of_decide_eq_true h4
    refine Sat.go (Eq.refl _) (NS.need (rfl) ?_)
    rw [show IntKind.i64.wrap (IntKind.i64.wrap (-2 * n) - 1) = ((zig n : Nat) : Int) by unfold zig; rw [if_pos h4, wrap_i64 (n := -2 * n) (by omega) (by omega), wrap_i64 (by omega) (by omega)]; omega]
    generalize zig n = z at hz hm
    rw [tmod128]
    refine Sat.go (Eq.refl _) (NS.need (allN_row fun i hi => by rw [Nat.lt_one_iff.1 hi]; rfl) ?_)
    have e1 : bytesOf (fun i j => getA [A.int .u8 (IntKind.u8.wrap ((z % 128 : Nat) : Int))] (i * 1 + j)) 1 = bs [z % 128] := by rw [wrap_u8 (by omega) (by omega)]; rfl
    refine Sat.go (Eq.refl _) (NS.need (rfl) ?_)
    have e2 : IntKind.i64.wrap (((z : Nat) : Int).tdiv 128) = ((z / 128 : Nat) : Int) := by rw [tdiv128, wrap_i64 (by omega) (by omega)]
    rw [e2]
    refine Sat.go (Eq.refl _) ?_
    refine NS.loop (σ := { p : Nat × List Nat // encZ z = pre p.1 ++ p.2 ∧ p.1 ≤ 2 ^ 61 }) (fun p => [(4, .int .i64 p.1.1), (5, .str (bs p.1.2))]) (fun p => []) (fun p => p.1.1) ⟨(z / 128, [z % 128]), rfl, by simp only; omega⟩ ?_ ?_
    · exact weak_hd [] rfl ⟨rfl, ren_str rfl e1, trivial⟩ trivial trivial (by kernel_rfl)
    rintro ⟨⟨m, out⟩, ho, hm2⟩
    simp only at ho hm2
    refine Sat.go (Eq.refl _) (NS.ite (fun h3 => ?_) (fun h3 => ?_))
    · have h3 : 0 < m := by have h3 : (m : Int) > 0 := of_decide_eq_true h3
                            omega
      have hle : (bs out).size ≤ 100 := by
        have h4 := encZ_len (z := z) (by omega)
        rw [bs_len]
        rw [ho, List.length_append] at h4
        omega
      refine Sat.go (Eq.refl _) (NS.need (rfl) ?_)
      rw [tmod128]
      refine Sat.go (Eq.refl _) (NS.need (allN_row fun i hi => by rw [Nat.lt_one_iff.1 hi]; rfl) ?_)
      have e3 : bytesOf (fun i j => getA [A.int .u8 (IntKind.u8.wrap (IntKind.i64.wrap (128 + ((m % 128 : Nat) : Int))))] (i * 1 + j)) 1 = bs [m % 128 + 128] := by
        have : IntKind.u8.wrap (IntKind.i64.wrap (128 + ((m % 128 : Nat) : Int))) = ((m % 128 + 128 : Nat) : Int) := by rw [wrap_i64 (by omega) (by omega), wrap_u8 (by omega) (by omega)]; omega
        rw [this]; rfl
      refine Sat.go (Eq.refl _) (NS.need (decide_eq_true (by rw [bytesOf_size]; show 1 + (bs out).size ≤ _; omega)) ?_)
      refine Sat.go (Eq.refl _) (NS.need (rfl) ?_)
      have e4 : IntKind.i64.wrap (((m : Nat) : Int).tdiv 128) = ((m / 128 : Nat) : Int) := by rw [tdiv128, wrap_i64 (by omega) (by omega)]
      refine Sat.go (Eq.refl _) (NS.next ⟨(m / 128, (m % 128 + 128) :: out), by simp only; rw [ho, pre_pos (by omega)]; simp, by simp only; omega⟩ (by simp only; omega) ?_)
      refine weak_hd [] rfl ⟨ren_int rfl e4, ren_str rfl ?_, trivial⟩ trivial trivial (by kernel_rfl)
      show bytesOf (fun i j => getA [A.int .u8 (IntKind.u8.wrap (IntKind.i64.wrap (128 + ((m % 128 : Nat) : Int))))] (i * 1 + j)) 1 ++ bs out = bs ((m % 128 + 128) :: out)
      rw [e3, ← bs_append]; rfl
    · have h3 : m = 0 := by have h3 : ¬ (m : Int) > 0 := of_decide_eq_false h3
                            omega
      subst h3
      rw [pre_zero, List.nil_append] at ho
      refine Sat.go (Eq.refl _) (NS.leave rfl (Eq.refl _) ?_)
      exact Sat.go (Eq.refl _) (NS.ret rfl rfl (str_le (congrArg (fun l => (bs l, (0 : Int))) ho)))
  · have h4 : ¬ n < 0 := of_decide_eq_false h4
    refine Sat.go (Eq.refl _) (NS.need (rfl) ?_)
    rw [show IntKind.i64.wrap (2 * n) = ((zig n : Nat) : Int) by unfold zig; rw [if_neg h4, wrap_i64 (by omega) (by omega)]; omega]
    generalize zig n = z at hz hm
    rw [tmod128]
    refine Sat.go (Eq.refl _) (NS.need (allN_row fun i hi => by rw [Nat.lt_one_iff.1 hi]; rfl) ?_)
    have e1 : bytesOf (fun i j => getA [A.int .u8 (IntKind.u8.wrap ((z % 128 : Nat) : Int))] (i * 1 + j)) 1 = bs [z % 128] := by rw [wrap_u8 (by omega) (by omega)]; rfl
    refine Sat.go (Eq.refl _) (NS.need (rfl) ?_)
    have e2 : IntKind.i64.wrap (((z : Nat) : Int).tdiv 128) = ((z / 128 : Nat) : Int) := by rw [tdiv128, wrap_i64 (by omega) (by omega)]
    rw [e2]
    refine Sat.go (Eq.refl _) ?_
    refine NS.loop (σ := { p : Nat × List Nat // encZ z = pre p.1 ++ p.2 ∧ p.1 ≤ 2 ^ 61 }) (fun p => [(4, .int .i64 p.1.1), (5, .str (bs p.1.2))]) (fun p => []) (fun p => p.1.1) ⟨(z / 128, [z % 128]), rfl, by simp only; omega⟩ ?_ ?_
    · exact weak_hd [] rfl ⟨rfl, ren_str rfl e1, trivial⟩ trivial trivial (by kernel_rfl)
    rintro ⟨⟨m, out⟩, ho, hm2⟩
    simp only at ho hm2
    refine Sat.go (Eq.refl _) (NS.ite (fun h3 => ?_) (fun h3 => ?_))
    · have h3 : 0 < m := by have h3 : (m : Int) > 0 := of_decide_eq_true h3
                            omega
      have hle : (bs out).size ≤ 100 := by
        have h4 := encZ_len (z := z) (by omega)
        rw [bs_len]
        rw [ho, List.length_append] at h4
        omega
      refine Sat.go (Eq.refl _) (NS.need (rfl) ?_)
      rw [tmod128]
      refine Sat.go (Eq.refl _) (NS.need (allN_row fun i hi => by rw [Nat.lt_one_iff.1 hi]; rfl) ?_)
      have e3 : bytesOf (fun i j => getA [A.int .u8 (IntKind.u8.wrap (IntKind.i64.wrap (128 + ((m % 128 : Nat) : Int))))] (i * 1 + j)) 1 = bs [m % 128 + 128] := by
        have : IntKind.u8.wrap (IntKind.i64.wrap (128 + ((m % 128 : Nat) : Int))) = ((m % 128 + 128 : Nat) : Int) := by rw [wrap_i64 (by omega) (by omega), wrap_u8 (by omega) (by omega)]; omega
        rw [this]; rfl
      refine Sat.go (Eq.refl _) (NS.need (decide_eq_true (by rw [bytesOf_size]; show 1 + (bs out).size ≤ _; omega)) ?_)
      refine Sat.go (Eq.refl _) (NS.need (rfl) ?_)
      have e4 : IntKind.i64.wrap (((m : Nat) : Int).tdiv 128) = ((m / 128 : Nat) : Int) := by rw [tdiv128, wrap_i64 (by omega) (by omega)]
      refine Sat.go (Eq.refl _) (NS.next ⟨(m / 128, (m % 128 + 128) :: out), by simp only; rw [ho, pre_pos (by omega)]; simp, by simp only; omega⟩ (by simp only; omega) ?_)
      refine weak_hd [] rfl ⟨ren_int rfl e4, ren_str rfl ?_, trivial⟩ trivial trivial (by kernel_rfl)
      show bytesOf (fun i j => getA [A.int .u8 (IntKind.u8.wrap (IntKind.i64.wrap (128 + ((m % 128 : Nat) : Int))))] (i * 1 + j)) 1 ++ bs out = bs ((m % 128 + 128) :: out)
      rw [e3, ← bs_append]; rfl
    · have h3 : m = 0 := by have h3 : ¬ (m : Int) > 0 := of_decide_eq_false h3
                            omega
      subst h3
      rw [pre_zero, List.nil_append] at ho
      refine Sat.go (Eq.refl _) (NS.leave rfl (Eq.refl _) ?_)
      exact Sat.go (Eq.refl _) (NS.ret rfl rfl (str_le (congrArg (fun l => (bs l, (0 : Int))) ho)))
end Go.Proofs.YtdhfgfkfejpfdaaGreat
