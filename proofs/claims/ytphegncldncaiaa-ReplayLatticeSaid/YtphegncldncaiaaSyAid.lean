import Derived.Test.YtphegncldncaiaaSyMs
set_option linter.unusedSimpArgs false
set_option linter.unusedSectionVars false
set_option linter.unusedVariables false
namespace Go.Sy

theorem bool_eq {a b : Bool} (h : a = true ↔ b = true) : A.bool a = A.bool b := by rw [Bool.eq_iff_iff.2 h]
theorem int_eq {k : IntKind} {a b : Int} (h : a = b) : A.int k a = A.int k b := by rw [h]
theorem tup2_eq {a b c d : A} (h : a = c) (h' : b = d) : A.tup [a, b] = A.tup [c, d] := by rw [h, h']
theorem tup3_eq {a b c d e f : A} (h : a = d) (h' : b = e) (h'' : c = f) : A.tup [a, b, c] = A.tup [d, e, f] := by rw [h, h', h'']

theorem wrap_i64 {n : Int} (h : -9223372036854775808 ≤ n) (h' : n ≤ 9223372036854775807) : IntKind.i64.wrap n = n := by
  have hb : IntKind.i64.bits = 64 := rfl
  have hs : IntKind.i64.signed = true := rfl
  unfold IntKind.wrap
  simp only [hb, hs, Bool.true_and]
  have e1 : (2 : Int) ^ 64 = 18446744073709551616 := by decide
  have e2 : (2 : Int) ^ (64 - 1) = 9223372036854775808 := by decide
  rw [e1, e2]
  simp only [ge_iff_le, decide_eq_true_eq]
  split <;> omega
theorem wrap_u8 {n : Int} (h : 0 ≤ n) (h' : n ≤ 255) : IntKind.u8.wrap n = n := by
  have hb : IntKind.u8.bits = 8 := rfl
  have hs : IntKind.u8.signed = false := rfl
  unfold IntKind.wrap
  simp only [hb, hs, Bool.false_and]
  have e1 : (2 : Int) ^ 8 = 256 := by decide
  rw [e1]
  simp only [Bool.false_eq_true, if_false]
  omega

/-- A sum of natural numbers, from the first on. -/
def sumTo (f : Nat → Nat) : Nat → Nat
  | 0 => 0
  | n + 1 => sumTo f n + f n
theorem sumTo_le {f : Nat → Nat} {b : Nat} : ∀ {n : Nat}, (∀ i, i < n → f i ≤ b) → sumTo f n ≤ n * b
  | 0, _ => by simp [sumTo]
  | n + 1, h => by
    have h1 := sumTo_le (n := n) fun i hi => h i (by omega)
    have h2 := h n (by omega)
    simp only [sumTo, Nat.succ_mul]
    omega
end Go.Sy
