/- Checksums in plain words. -/
import Derived.Test.YtdhfgfkfejpfdaaGreatVA
set_option linter.unusedSimpArgs false
set_option linter.unusedSectionVars false
set_option linter.unusedVariables false
namespace Go.Mb
open Go.Sy
set_option linter.unusedVariables false

def poly : Nat := 2197175160
def st1 (r : Nat) : Nat := if r % 2 = 1 then r / 2 ^^^ poly else r / 2
def stN : Nat → Nat → Nat
  | 0, r => r
  | k + 1, r => st1 (stN k r)
theorem xor_lt {a b : Nat} {n : Nat} (ha : a < 2 ^ n) (hb : b < 2 ^ n) : a ^^^ b < 2 ^ n := Nat.xor_lt_two_pow ha hb
theorem st1_lt {r : Nat} (h : r < 2 ^ 32) : st1 r < 2 ^ 32 := by
  unfold st1
  split
  · exact xor_lt (by omega) (by decide)
  · omega
theorem stN_lt {r : Nat} (h : r < 2 ^ 32) : ∀ k, stN k r < 2 ^ 32
  | 0 => h
  | k + 1 => st1_lt (stN_lt h k)
theorem xor_half (a b : Nat) : (a ^^^ b) / 2 = a / 2 ^^^ b / 2 := by
  have := Nat.xor_div_two_pow (a := a) (b := b) (n := 1)
  simpa using this
theorem xor_odd (a b : Nat) : (a ^^^ b) % 2 = (a % 2 + b % 2) % 2 := by
  have := Nat.xor_mod_two_pow (a := a) (b := b) (n := 1)
  rw [Nat.pow_one] at this
  rw [this]
  rcases Nat.mod_two_eq_zero_or_one a with ha | ha <;> rcases Nat.mod_two_eq_zero_or_one b with hb | hb <;> rw [ha, hb] <;> rfl
theorem st1_xor (a b : Nat) : st1 (a ^^^ b) = st1 a ^^^ st1 b := by
  unfold st1
  rw [xor_half, xor_odd]
  rcases Nat.mod_two_eq_zero_or_one a with ha | ha <;> rcases Nat.mod_two_eq_zero_or_one b with hb | hb <;> rw [ha, hb] <;> simp only [Nat.zero_add, Nat.add_zero, Nat.zero_mod, Nat.reduceAdd, Nat.reduceMod, Nat.one_mod, if_true, if_false, Nat.zero_ne_one, Nat.reduceEqDiff]
  · ac_rfl
  · ac_rfl
  · rw [show a / 2 ^^^ poly ^^^ (b / 2 ^^^ poly) = (a / 2 ^^^ b / 2) ^^^ (poly ^^^ poly) by ac_rfl, Nat.xor_self, Nat.xor_zero]
theorem stN_xor (a b : Nat) : ∀ k, stN k (a ^^^ b) = stN k a ^^^ stN k b
  | 0 => rfl
  | k + 1 => by simp only [stN]; rw [stN_xor a b k, st1_xor]
theorem st1_even (h : Nat) : st1 (h * 2) = h := by unfold st1; rw [if_neg (by omega)]; omega
theorem stN_shift : ∀ (k h : Nat), stN k (h * 2 ^ k) = h
  | 0, h => by simp [stN]
  | k + 1, h => by
    have e : h * 2 ^ (k + 1) = (h * 2) * 2 ^ k := by rw [Nat.pow_succ, Nat.mul_assoc, Nat.mul_comm 2]
    rw [stN, e, stN_shift k (h * 2), st1_even]
/-- A byte. -/
def upB (r b : Nat) : Nat := stN 8 (r ^^^ b)
theorem split8 (r b : Nat) (hb : b < 256) : r ^^^ b = (r / 256 * 2 ^ 8) ^^^ (r % 256 ^^^ b) := by
  have e : r = (r / 256 * 2 ^ 8) ^^^ (r % 256) := by
    have h1 : r % 256 < 2 ^ 8 := by omega
    have h2 := Nat.two_pow_add_eq_or_of_lt h1 (r / 256)
    have h3 : 2 ^ 8 * (r / 256) + r % 256 = r := by omega
    apply Nat.eq_of_testBit_eq
    intro i
    rw [Nat.testBit_xor]
    have h4 : r.testBit i = (2 ^ 8 * (r / 256) ||| r % 256).testBit i := by rw [← h2, h3]
    rw [h4, Nat.testBit_or, Nat.mul_comm (r / 256)]
    by_cases hi : i < 8
    · rw [Nat.testBit_two_pow_mul, decide_eq_false (by omega : ¬ i ≥ 8)]; simp
    · have : (r % 256).testBit i = false := Nat.testBit_lt_two_pow (Nat.lt_of_lt_of_le h1 (Nat.pow_le_pow_right (by omega) (by omega)))
      rw [this]; simp
  rw [← Nat.xor_assoc, ← e]
theorem upB_tab (r b : Nat) (hb : b < 256) : upB r b = r / 256 ^^^ stN 8 (r % 256 ^^^ b) := by
  unfold upB; rw [split8 r b hb, stN_xor, stN_shift]
theorem upB_lt {r b : Nat} (h : r < 2 ^ 32) (hb : b < 256) : upB r b < 2 ^ 32 := stN_lt (xor_lt h (by omega)) 8
def up (r : Nat) (l : List Nat) : Nat := l.foldl upB r
theorem up_lt {l : List Nat} (hl : ∀ x ∈ l, x < 256) : ∀ {r : Nat}, r < 2 ^ 32 → up r l < 2 ^ 32 := by
  induction l with
  | nil => intro r h; exact h
  | cons a l ih => intro r h; exact ih (fun x hx => hl x (List.mem_cons_of_mem _ hx)) (upB_lt h (hl a List.mem_cons_self))
theorem up_snoc (r : Nat) (l : List Nat) (k : Nat) (h : k < l.length) : up r (l.take (k + 1)) = upB (up r (l.take k)) (l.getD k 0) := by
  have : l.take (k + 1) = l.take k ++ [l.getD k 0] := take_snoc h
  rw [this]; simp [up]
def all32 : Nat := 4294967295
def sumL (l : List Nat) : Nat := up all32 l ^^^ all32
theorem sumL_lt {l : List Nat} (hl : ∀ x ∈ l, x < 256) : sumL l < 2 ^ 32 := xor_lt (up_lt hl (by decide)) (by decide)
/-- The four bytes of a checksum. -/
def tailL (l : List Nat) : List Nat := [sumL l % 256, sumL l / 256 % 256, sumL l / 65536 % 256, sumL l / 16777216 % 256]
theorem tailL_lt {l : List Nat} : ∀ x ∈ tailL l, x < 256 := by
  intro x hx
  simp only [tailL, List.mem_cons, List.not_mem_nil, or_false] at hx
  omega
/-- The table. -/
def tabI (k : Nat) : Nat → Nat → List Int
  | 0, _ => []
  | n + 1, j => ((if j < k then stN 8 j else 0 : Nat) : Int) :: tabI k n (j + 1)
theorem tabI_get (k : Nat) : ∀ (n j i : Nat), i < n → (tabI k n j).getD i 0 = ((if j + i < k then stN 8 (j + i) else 0 : Nat) : Int)
  | 0, j, i, h => by omega
  | n + 1, j, 0, h => by simp [tabI]
  | n + 1, j, i + 1, h => by
    have := tabI_get k n (j + 1) i (by omega)
    rw [show j + (i + 1) = j + 1 + i by omega, ← this]
    simp [tabI]
theorem tabI_len (k : Nat) : ∀ n j, (tabI k n j).length = n
  | 0, _ => rfl
  | n + 1, j => by simp [tabI, tabI_len k n]
theorem tabI_set {k n : Nat} (h : k < n) : (tabI k n 0).set k ((stN 8 k : Nat) : Int) = tabI (k + 1) n 0 := by
  apply List.ext_getElem
  · simp [tabI_len]
  · intro i h1 h2
    have hi : i < n := by simpa [tabI_len] using h1
    have e1 := tabI_get k n 0 i hi
    have e2 := tabI_get (k + 1) n 0 i hi
    rw [List.getD_eq_getElem?_getD, List.getElem?_eq_getElem (by rw [tabI_len]; exact hi)] at e1 e2
    simp only [Option.getD_some, Nat.zero_add] at e1 e2
    rw [List.getElem_set, e2]
    split
    · rename_i hik
      subst hik
      rw [if_pos (by omega)]
    · rename_i hik
      rw [e1]
      by_cases hlt : i < k
      · rw [if_pos hlt, if_pos (by omega)]
      · rw [if_neg hlt, if_neg (by omega)]
def tabC (k : Nat) : List A := (tabI k 256 0).map (A.int .u32)
theorem RenL_ints {σ : Nat → Nat} {k : IntKind} : ∀ (l : List Int), RenL σ (l.map (A.int k)) (l.map (A.int k))
  | [] => rfl
  | n :: l => ⟨_, _, rfl, rfl, RenL_ints l⟩
/-- The bytes and the bits. -/
theorem xor32 {a b : Nat} (ha : a < 2 ^ 32) (hb : b < 2 ^ 32) : IntKind.u32.wrap ((BitVec.ofInt IntKind.u32.bits (a : Int) ^^^ BitVec.ofInt IntKind.u32.bits (b : Int)).toNat : Int) = ((a ^^^ b : Nat) : Int) := by
  have hbt : IntKind.u32.bits = 32 := rfl
  rw [hbt, BitVec.toNat_xor]
  have e1 : (BitVec.ofInt 32 (a : Int)).toNat = a := by rw [BitVec.toNat_ofInt]; omega
  have e2 : (BitVec.ofInt 32 (b : Int)).toNat = b := by rw [BitVec.toNat_ofInt]; omega
  have := xor_lt ha hb
  rw [e1, e2, wrap_u32 (by omega) (by omega)]
theorem xor8 {a b : Nat} (ha : a < 256) (hb : b < 256) : IntKind.u8.wrap ((BitVec.ofInt IntKind.u8.bits (a : Int) ^^^ BitVec.ofInt IntKind.u8.bits (b : Int)).toNat : Int) = ((a ^^^ b : Nat) : Int) := by
  have hbt : IntKind.u8.bits = 8 := rfl
  rw [hbt, BitVec.toNat_xor]
  have e1 : (BitVec.ofInt 8 (a : Int)).toNat = a := by rw [BitVec.toNat_ofInt]; omega
  have e2 : (BitVec.ofInt 8 (b : Int)).toNat = b := by rw [BitVec.toNat_ofInt]; omega
  have := xor_lt (n := 8) ha hb
  rw [e1, e2, wrap_u8 (by omega) (by omega)]
theorem xor64 {a b : Nat} (ha : a < 2 ^ 62) (hb : b < 2 ^ 62) : IntKind.i64.wrap ((BitVec.ofInt IntKind.i64.bits (a : Int) ^^^ BitVec.ofInt IntKind.i64.bits (b : Int)).toNat : Int) = ((a ^^^ b : Nat) : Int) := by
  have hbt : IntKind.i64.bits = 64 := rfl
  rw [hbt, BitVec.toNat_xor]
  have e1 : (BitVec.ofInt 64 (a : Int)).toNat = a := by rw [BitVec.toNat_ofInt]; omega
  have e2 : (BitVec.ofInt 64 (b : Int)).toNat = b := by rw [BitVec.toNat_ofInt]; omega
  have := xor_lt ha hb
  rw [e1, e2, wrap_i64 (by omega) (by omega)]
/-- Different numbers stay different. -/
theorem st1_inj {a b : Nat} (ha : a < 2 ^ 32) (hb : b < 2 ^ 32) (h : st1 a = st1 b) : a = b := by
  have key : ∀ x, x < 2 ^ 32 → (st1 x).testBit 31 = decide (x % 2 = 1) := by
    intro x hx
    unfold st1
    have h0 : (x / 2).testBit 31 = false := Nat.testBit_lt_two_pow (by omega)
    split
    · rename_i hodd
      rw [Nat.testBit_xor, h0, decide_eq_true hodd]; rfl
    · rename_i hodd
      rw [h0, decide_eq_false hodd]
  have h1 := key a ha
  have h2 := key b hb
  rw [h, h2] at h1
  have h3 : (a % 2 = 1) ↔ (b % 2 = 1) := by simpa [eq_comm] using h1
  unfold st1 at h
  by_cases hb1 : b % 2 = 1
  · rw [if_pos hb1, if_pos (h3.2 hb1)] at h
    have : a / 2 = b / 2 := by
      have e := congrArg (· ^^^ poly) h
      simp only [Nat.xor_assoc, Nat.xor_self, Nat.xor_zero] at e
      exact e
    have := h3.2 hb1
    omega
  · have ha1 : ¬ a % 2 = 1 := fun e => hb1 (h3.1 e)
    rw [if_neg hb1, if_neg ha1] at h
    omega
theorem stN_inj {a b : Nat} (ha : a < 2 ^ 32) (hb : b < 2 ^ 32) : ∀ {k : Nat}, stN k a = stN k b → a = b
  | 0, h => h
  | k + 1, h => stN_inj ha hb (k := k) (st1_inj (stN_lt ha k) (stN_lt hb k) h)
theorem xor_cancel {a b c : Nat} (h : a ^^^ b = a ^^^ c) : b = c := by
  have e := congrArg (a ^^^ ·) h
  simp only [← Nat.xor_assoc, Nat.xor_self, Nat.zero_xor] at e
  exact e
theorem upB_inj_b {r a b : Nat} (hr : r < 2 ^ 32) (ha : a < 256) (hb : b < 256) (h : upB r a = upB r b) : a = b :=
  xor_cancel (stN_inj (xor_lt hr (by omega)) (xor_lt hr (by omega)) h)
theorem upB_inj_r {r s b : Nat} (hr : r < 2 ^ 32) (hs : s < 2 ^ 32) (hb : b < 256) (h : upB r b = upB s b) : r = s := by
  have := stN_inj (xor_lt hr (by omega)) (xor_lt hs (by omega)) h
  rw [Nat.xor_comm r, Nat.xor_comm s] at this
  exact xor_cancel this
theorem up_inj {l : List Nat} (hl : ∀ x ∈ l, x < 256) : ∀ {r s : Nat}, r < 2 ^ 32 → s < 2 ^ 32 → up r l = up s l → r = s := by
  induction l with
  | nil => intro r s _ _ h; exact h
  | cons a l ih =>
    intro r s hr hs h
    have ha := hl a List.mem_cons_self
    exact upB_inj_r hr hs ha (ih (fun x hx => hl x (List.mem_cons_of_mem _ hx)) (upB_lt hr ha) (upB_lt hs ha) h)
/-- One changed byte changes the checksum. -/
theorem sumL_ne {p q : List Nat} {a b : Nat} (hp : ∀ x ∈ p, x < 256) (hq : ∀ x ∈ q, x < 256) (ha : a < 256) (hb : b < 256) (hne : a ≠ b) : sumL (p ++ a :: q) ≠ sumL (p ++ b :: q) := by
  intro h
  unfold sumL at h
  have h1 : up all32 (p ++ a :: q) = up all32 (p ++ b :: q) := by
    rw [Nat.xor_comm _ all32, Nat.xor_comm _ all32] at h
    exact xor_cancel h
  simp only [up, List.foldl_append, List.foldl_cons] at h1
  have hr : up all32 p < 2 ^ 32 := up_lt hp (by decide)
  have h2 := up_inj hq (upB_lt hr ha) (upB_lt hr hb) h1
  exact hne (upB_inj_b hr ha hb h2)
theorem tailL_inj {l m : List Nat} (hl : ∀ x ∈ l, x < 256) (hm : ∀ x ∈ m, x < 256) (h : tailL l = tailL m) : sumL l = sumL m := by
  have h1 := sumL_lt hl
  have h2 := sumL_lt hm
  simp only [tailL, List.cons.injEq, and_true] at h
  omega
end Go.Mb
