/- The reference's hash. -/
import Derived.Test.YtdhfgfkfejpfdaaGreatKTA
import Derived.Test.YtdhfgfkfejpfdaaGreatVC
set_option linter.unusedSimpArgs false
set_option linter.unusedSectionVars false
set_option linter.unusedVariables false
namespace Go.Mb
open Go.Sy
set_option linter.unusedVariables false
/-- The number of the last k of 8 bytes. -/
def wdN (l : List Nat) : Nat → Nat
  | 0 => 0
  | k + 1 => wdN l k * 256 + l.getD (7 - k) 0
theorem getD_bd {l : List Nat} (hl : ∀ x ∈ l, x < 256) (i : Nat) : l.getD i 0 < 256 := by
  by_cases h : i < l.length
  · rw [show l.getD i 0 = l[i] by simp [List.getD, h]]; exact hl _ (List.getElem_mem h)
  · rw [show l.getD i 0 = 0 by simp [List.getD, h]]; decide
theorem wdN_lt {l : List Nat} (hl : ∀ x ∈ l, x < 256) : ∀ k, wdN l k < 256 ^ k
  | 0 => by simp [wdN]
  | k + 1 => by
    have h1 := wdN_lt hl k
    have h2 := getD_bd hl (7 - k)
    rw [wdN, Nat.pow_succ]
    have : (wdN l k + 1) * 256 ≤ 256 ^ k * 256 := Nat.mul_le_mul_right _ h1
    omega
theorem wdN_word (l : List Nat) : wdN l 8 = wordL l := by
  unfold wordL
  simp only [wdN, wordN, Nat.reduceSub, Nat.reduceMul, Nat.reducePow]
  omega
theorem gLl {l m : List Nat} {i : Nat} (h : i < l.length) : (l ++ m).getD i 0 = l.getD i 0 := getD_append_left (α := Nat) h
theorem gLr {l m : List Nat} {i : Nat} (h : l.length ≤ i) : (l ++ m).getD i 0 = m.getD (i - l.length) 0 := getD_append_right (α := Nat) h
/-- The last word. -/
theorem wordN_split (a b : List Nat) (n : Nat) : ∀ k, wordN (a ++ List.replicate n 0 ++ b) k = wordN (a ++ List.replicate n 0) (min k (a.length + n)) + (wordN b (k - (a.length + n))) * 2 ^ (8 * (a.length + n))
  | 0 => by simp [wordN]
  | k + 1 => by
    have ih := wordN_split a b n k
    have hl : (a ++ List.replicate n 0).length = a.length + n := by simp
    rw [wordN, ih]
    by_cases h : k < a.length + n
    · rw [show min (k + 1) (a.length + n) = k + 1 by omega, show min k (a.length + n) = k by omega, show k - (a.length + n) = 0 by omega, show k + 1 - (a.length + n) = 0 by omega, wordN]
      have q1 : (a ++ List.replicate n 0 ++ b).getD k 0 = (a ++ List.replicate n 0).getD k 0 := gLl (l := a ++ List.replicate n 0) (i := k) (by rw [hl]; exact h)
      rw [q1]
      simp only [wordN]; omega
    · rw [show min (k + 1) (a.length + n) = a.length + n by omega, show min k (a.length + n) = a.length + n by omega, show k + 1 - (a.length + n) = (k - (a.length + n)) + 1 by omega, wordN]
      have q1 : (a ++ List.replicate n 0 ++ b).getD k 0 = b.getD (k - (a.length + n)) 0 := by rw [gLr (l := a ++ List.replicate n 0) (i := k) (by rw [hl]; omega), hl]
      rw [q1, Nat.add_mul, Nat.mul_assoc, ← Nat.pow_add, show 8 * (k - (a.length + n)) + 8 * (a.length + n) = 8 * k by omega]
      omega
theorem wordN_pad (a : List Nat) (n : Nat) : ∀ k, wordN (a ++ List.replicate n 0) k = wordN a k
  | 0 => rfl
  | k + 1 => by
    rw [wordN, wordN, wordN_pad a n k]
    congr 2
    by_cases h : k < a.length
    · exact gLl h
    · rw [gLr (by omega)]
      simp [List.getD_eq_getElem?_getD, List.getElem?_replicate]
      rw [List.getElem?_eq_none (by omega)]
      split <;> rfl
theorem wordN_stop {a : List Nat} : ∀ {k : Nat}, a.length ≤ k → wordN a k = wordN a a.length := by
  intro k hk
  induction k with
  | zero => rw [show a.length = 0 by omega]
  | succ k ih =>
    by_cases h : a.length ≤ k
    · rw [wordN, ih h, show a.getD k 0 = 0 by simp [List.getD, h]]; omega
    · rw [show a.length = k + 1 by omega]
theorem wordL_last {l : List Nat} (hl : ∀ x ∈ l, x < 256) : wordL (lastB l) = wordL (l.drop (8 * (l.length / 8))) ||| (l.length % 256 * 2 ^ 56) := by
  have hd : (l.drop (8 * (l.length / 8))).length = l.length % 8 := by rw [List.length_drop]; omega
  have h7 : (l.drop (8 * (l.length / 8))).length + (7 - l.length % 8) = 7 := by omega
  have hda : ∀ x ∈ l.drop (8 * (l.length / 8)), x < 256 := drop_lt hl _
  unfold lastB wordL
  rw [wordN_split, h7, show min 8 7 = 7 by decide, wordN_pad, show (8 : Nat) - 7 = 1 from rfl]
  have e1 : wordN (l.drop (8 * (l.length / 8))) 8 = wordN (l.drop (8 * (l.length / 8))) 7 := by
    rw [wordN_stop (k := 8) (by omega), wordN_stop (k := 7) (by omega)]
  have e2 : wordN (l.drop (8 * (l.length / 8))) 7 < 2 ^ 56 := wordN_lt hda 7
  have e3 : wordN [l.length % 256] 1 = l.length % 256 := by simp [wordN]
  rw [e1, e3, Nat.or_comm, Nat.mul_comm (l.length % 256), ← Nat.two_pow_add_eq_or_of_lt e2, Nat.add_comm]
theorem gDd (l : List Nat) (a i : Nat) : (l.drop a).getD i 0 = l.getD (a + i) 0 := by simp [List.getD, List.getElem?_drop]
theorem wdM {l : List Nat} (hl : ∀ x ∈ l, x < 256) {k : Nat} (hk : k < 8) : wdN l k * 2 ^ 8 < 2 ^ 64 := by
  have h1 := wdN_lt hl k
  have h2 : 256 ^ k ≤ 256 ^ 7 := Nat.pow_le_pow_right (by decide) (by omega)
  have h3 : (256 : Nat) ^ 7 * 2 ^ 8 = 2 ^ 64 := by decide
  rw [← h3]
  exact Nat.mul_lt_mul_of_pos_right (by omega) (by decide)
theorem wdShl {l : List Nat} (hl : ∀ x ∈ l, x < 256) {k : Nat} (hk : k < 8) : IntKind.u64.wrap (((wdN l k : Nat) : Int) * 2 ^ (min (8 : Int).toNat IntKind.u64.bits)) = ((wdN l k * 2 ^ 8 : Nat) : Int) := by
  rw [show min (8 : Int).toNat IntKind.u64.bits = 8 from rfl, shlU, Nat.mod_eq_of_lt (wdM hl hk)]
theorem wdOr {l : List Nat} (hl : ∀ x ∈ l, x < 256) {k : Nat} (hk : k < 8) : IntKind.u64.wrap ((BitVec.ofInt IntKind.u64.bits (IntKind.u64.wrap (((wdN l k : Nat) : Int) * 2 ^ (min (8 : Int).toNat IntKind.u64.bits))) ||| BitVec.ofInt IntKind.u64.bits (IntKind.u64.wrap ((l.getD (7 - k) 0 : Nat) : Int))).toNat : Int) = ((wdN l (k + 1) : Nat) : Int) := by
  have hb := getD_bd hl (7 - k)
  rw [wdShl hl hk, u64v (show l.getD (7 - k) 0 < 2 ^ 64 by omega), orU (wdM hl hk) (by omega)]
  congr 1
  rw [wdN, Nat.mul_comm, ← Nat.two_pow_add_eq_or_of_lt (show l.getD (7 - k) 0 < 2 ^ 8 by omega), Nat.mul_comm]
end Go.Mb
namespace Go.Proofs.YtdhfgfkfejpfdaaGreat
open Go.Sy Go.Mb
set_option maxRecDepth 100000
set_option linter.unusedVariables false
set_option maxHeartbeats 4000000

theorem rRot13_ok (x : Int) : FnOK Tryz.prog 96 [.int .u64 x, .int .u64 13] (.int .u64 (rI 13 x), none) := by
  refine fn_ok CN rfl (by kernel_rfl) Tryz.func96 rfl ?_
  refine Sat.go (Eq.refl _) (NS.need (by kernel_rfl) ?_)
  refine Sat.go (Eq.refl _) (NS.need (by kernel_rfl) ?_)
  refine Sat.go (Eq.refl _) (NS.ret rfl rfl (LeA.of (congrArg (A.int .u64) ?_)))
  kernel_rfl
theorem rRot32_ok (x : Int) : FnOK Tryz.prog 96 [.int .u64 x, .int .u64 32] (.int .u64 (rI 32 x), none) := by
  refine fn_ok CN rfl (by kernel_rfl) Tryz.func96 rfl ?_
  refine Sat.go (Eq.refl _) (NS.need (by kernel_rfl) ?_)
  refine Sat.go (Eq.refl _) (NS.need (by kernel_rfl) ?_)
  refine Sat.go (Eq.refl _) (NS.ret rfl rfl (LeA.of (congrArg (A.int .u64) ?_)))
  kernel_rfl
theorem rRot16_ok (x : Int) : FnOK Tryz.prog 96 [.int .u64 x, .int .u64 16] (.int .u64 (rI 16 x), none) := by
  refine fn_ok CN rfl (by kernel_rfl) Tryz.func96 rfl ?_
  refine Sat.go (Eq.refl _) (NS.need (by kernel_rfl) ?_)
  refine Sat.go (Eq.refl _) (NS.need (by kernel_rfl) ?_)
  refine Sat.go (Eq.refl _) (NS.ret rfl rfl (LeA.of (congrArg (A.int .u64) ?_)))
  kernel_rfl
theorem rRot21_ok (x : Int) : FnOK Tryz.prog 96 [.int .u64 x, .int .u64 21] (.int .u64 (rI 21 x), none) := by
  refine fn_ok CN rfl (by kernel_rfl) Tryz.func96 rfl ?_
  refine Sat.go (Eq.refl _) (NS.need (by kernel_rfl) ?_)
  refine Sat.go (Eq.refl _) (NS.need (by kernel_rfl) ?_)
  refine Sat.go (Eq.refl _) (NS.ret rfl rfl (LeA.of (congrArg (A.int .u64) ?_)))
  kernel_rfl
theorem rRot17_ok (x : Int) : FnOK Tryz.prog 96 [.int .u64 x, .int .u64 17] (.int .u64 (rI 17 x), none) := by
  refine fn_ok CN rfl (by kernel_rfl) Tryz.func96 rfl ?_
  refine Sat.go (Eq.refl _) (NS.need (by kernel_rfl) ?_)
  refine Sat.go (Eq.refl _) (NS.need (by kernel_rfl) ?_)
  refine Sat.go (Eq.refl _) (NS.ret rfl rfl (LeA.of (congrArg (A.int .u64) ?_)))
  kernel_rfl
theorem rRoundI_ok (a b c d : Int) : FnOK Tryz.prog 88 [.agg [.int .u64 a, .int .u64 b, .int .u64 c, .int .u64 d]] (.agg [.int .u64 (RA a b c d), .int .u64 (RB a b c d), .int .u64 (RC a b c d), .int .u64 (RD a b c d)], none) := by
  refine fn_ok CN rfl (by kernel_rfl) Tryz.func88 rfl ?_
  repeat' (refine Sat.go (Eq.refl _) ?_; first | (refine NS.no (rfl) ?_) | (refine NS.yes (rfl) ?_) | (refine NS.chk (by kernel_rfl) ?_) | (refine NS.call (rRot13_ok _) rfl ?_) | (refine NS.call (rRot32_ok _) rfl ?_) | (refine NS.call (rRot16_ok _) rfl ?_) | (refine NS.call (rRot21_ok _) rfl ?_) | (refine NS.call (rRot17_ok _) rfl ?_))
  exact Sat.go (Eq.refl _) (NS.ret rfl rfl (LeA.refl _))
theorem rRound_ok (s : Hs) (h : s.ok) : FnOK Tryz.prog 88 [.agg s.cells] (.agg (rnd s).cells, none) := by
  have c := rRoundI_ok s.a s.b s.c s.d
  obtain ⟨e1, e2, e3, e4⟩ := RR_eq h
  rw [e1, e2, e3, e4] at c
  exact c
theorem rAbsorb_ok (s : Hs) (h : s.ok) (m : Nat) (hm : m < 2 ^ 64) : FnOK Tryz.prog 87 [.agg s.cells, .int .u64 m] (.agg (absb s m).cells, none) := by
  have h1 : (⟨s.a, s.b, s.c, s.d ^^^ m⟩ : Hs).ok := ⟨h.1, h.2.1, h.2.2.1, xor_lt h.2.2.2 hm⟩
  have h2 := rnd_ok h1
  have h3 := rnd_ok h2
  have e1 := xI_eq h.2.2.2 hm
  have e2 := xI_eq h3.1 hm
  refine fn_ok CN rfl (by kernel_rfl) Tryz.func87 rfl ?_
  refine Sat.go (Eq.refl _) (NS.call ((rRound_ok ⟨s.a, s.b, s.c, s.d ^^^ m⟩ h1).le (LeL.cons (LeA.of (by show A.agg [.int .u64 s.a, .int .u64 s.b, .int .u64 s.c, .int .u64 (xI s.d m)] = _; rw [e1]; rfl)) LeL.nil)) rfl ?_)
  refine Sat.go (Eq.refl _) (NS.call (rRound_ok _ h2) rfl ?_)
  exact Sat.go (Eq.refl _) (NS.ret rfl rfl (LeA.of (by show A.agg [.int .u64 (xI (rnd (rnd ⟨s.a, s.b, s.c, s.d ^^^ m⟩)).a m), .int .u64 (rnd (rnd ⟨s.a, s.b, s.c, s.d ^^^ m⟩)).b, .int .u64 (rnd (rnd ⟨s.a, s.b, s.c, s.d ^^^ m⟩)).c, .int .u64 (rnd (rnd ⟨s.a, s.b, s.c, s.d ^^^ m⟩)).d] = _; rw [e2]; rfl)))
theorem rWord_ok (s : ByteArray) (i : Nat) (hs : s.size ≤ 1000000) (hi : i ≤ 1000000) : FnOK Tryz.prog 86 [.str s, .int .i64 i] (.int .u64 (wordL ((ls s).drop i) : Nat), none) := by
  have hb := drop_lt (ls_lt s) i
  refine fn_ok CN rfl (by kernel_rfl) Tryz.func86 rfl ?_
  refine Sat.go (Eq.refl _) ?_
  refine NS.loop (σ := { k : Nat // k ≤ 8 }) (fun k => [(0, .str s), (1, .int .i64 i), (5, .int .u64 (wdN ((ls s).drop i) k.1 : Nat)), (6, .int .i64 (7 - (k.1 : Int)))]) (fun k => []) (fun k => 8 - k.1) ⟨0, by omega⟩ ?_ ?_
  · exact weak_hd [] rfl ⟨rfl, rfl, rfl, rfl, trivial⟩ trivial trivial (by kernel_rfl)
  rintro ⟨k, hk⟩
  have hk : k ≤ 8 := hk
  have hlt := wdN_lt hb k
  refine Sat.go (Eq.refl _) (NS.ite (fun a => ?_) (fun a => ?_))
  · have a : k < 8 := by have a : decide ((7 - (k : Int)) ≥ 0) = true := a; have := of_decide_eq_true a; omega
    refine Sat.go (Eq.refl _) (NS.need (by kernel_rfl) ?_)
    have hw : IntKind.i64.wrap ((i : Int) + (7 - (k : Int))) = ((i + (7 - k) : Nat) : Int) := by rw [wrap_i64 (by omega) (by omega)]; omega
    have h7 : IntKind.i64.wrap ((7 - (k : Int)) - 1) = 7 - ((k + 1 : Nat) : Int) := by rw [wrap_i64 (by omega) (by omega)]; omega
    refine Sat.go (Eq.refl _) (NS.ite (fun c => ?_) (fun c => ?_))
    · have c : i + (7 - k) < s.size := by have c : decide (IntKind.i64.wrap ((i : Int) + (7 - (k : Int))) < (s.size : Int)) = true := c; rw [hw] at c; have := of_decide_eq_true c; omega
      have hg : ((s.data.toList.getD (IntKind.i64.wrap ((i : Int) + (7 - (k : Int)))).toNat 0).toNat : Int) = ((((ls s).drop i).getD (7 - k) 0 : Nat) : Int) := by rw [hw, gDd]; exact congrArg (fun x : Nat => (x : Int)) (ls_get s (i + (7 - k)))
      refine Sat.go (Eq.refl _) (NS.need (by show decide ((0 : Int) ≤ IntKind.i64.wrap ((i : Int) + (7 - (k : Int))) ∧ IntKind.i64.wrap ((i : Int) + (7 - (k : Int))) < (s.size : Int)) = true; rw [hw]; exact decide_eq_true (by omega)) ?_)
      have e := wdOr hb a
      rw [← hg] at e
      refine Sat.go (Eq.refl _) (NS.next ⟨k + 1, by omega⟩ (by show 8 - (k + 1) < 8 - k; omega) ?_)
      exact weak_hd [] rfl ⟨rfl, rfl, ren_int rfl e, ren_int rfl h7, trivial⟩ trivial trivial (by kernel_rfl)
    · have c : ¬ i + (7 - k) < s.size := by have c : decide (IntKind.i64.wrap ((i : Int) + (7 - (k : Int))) < (s.size : Int)) = false := c; rw [hw] at c; have := of_decide_eq_false c; omega
      have e : IntKind.u64.wrap (((wdN ((ls s).drop i) k : Nat) : Int) * 2 ^ (min (8 : Int).toNat IntKind.u64.bits)) = ((wdN ((ls s).drop i) (k + 1) : Nat) : Int) := by
        have hz : (ls s).getD (i + (7 - k)) 0 = 0 := by rw [List.getD_eq_getElem?_getD, List.getElem?_eq_none (by rw [ls_len]; omega)]; rfl
        rw [wdShl hb a, wdN, gDd, hz]
        omega
      refine Sat.go (Eq.refl _) (NS.next ⟨k + 1, by omega⟩ (by show 8 - (k + 1) < 8 - k; omega) ?_)
      exact weak_hd [] rfl ⟨rfl, rfl, ren_int rfl e, ren_int rfl h7, trivial⟩ trivial trivial (by kernel_rfl)
  have a : k = 8 := by have a : decide ((7 - (k : Int)) ≥ 0) = false := a; have := of_decide_eq_false a; omega
  subst a
  refine Sat.go (Eq.refl _) (NS.leave rfl (Eq.refl _) ?_)
  exact Sat.go (Eq.refl _) (NS.ret rfl rfl (LeA.of (congrArg (fun x : Nat => A.int .u64 (x : Int)) (wdN_word _))))
end Go.Proofs.YtdhfgfkfejpfdaaGreat
