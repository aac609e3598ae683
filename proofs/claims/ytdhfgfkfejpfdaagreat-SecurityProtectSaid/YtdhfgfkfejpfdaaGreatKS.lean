/- Keyed hashes in plain words; rotations and words. -/
import Derived.Test.YtdhfgfkfejpfdaaGreatKC
import Derived.Test.YtdhfgfkfejpfdaaGreatWA
set_option linter.unusedSimpArgs false
set_option linter.unusedSectionVars false
set_option linter.unusedVariables false
namespace Go.Mb
open Go.Sy
set_option linter.unusedVariables false
def rotN (x k : Nat) : Nat := (x * 2 ^ k % 18446744073709551616) ||| (x / 2 ^ (64 - k))
structure Hs where
  a : Nat
  b : Nat
  c : Nat
  d : Nat
def Hs.ok (s : Hs) : Prop := s.a < 2 ^ 64 ∧ s.b < 2 ^ 64 ∧ s.c < 2 ^ 64 ∧ s.d < 2 ^ 64
def Hs.cells (s : Hs) : List A := [.int .u64 s.a, .int .u64 s.b, .int .u64 s.c, .int .u64 s.d]
def add64 (a b : Nat) : Nat := (a + b) % 18446744073709551616
def rnd (s : Hs) : Hs :=
  let a1 := add64 s.a s.b
  let b1 := rotN s.b 13 ^^^ a1
  let a2 := rotN a1 32
  let c1 := add64 s.c s.d
  let d1 := rotN s.d 16 ^^^ c1
  let a3 := add64 a2 d1
  let d2 := rotN d1 21 ^^^ a3
  let c2 := add64 c1 b1
  let b2 := rotN b1 17 ^^^ c2
  let c3 := rotN c2 32
  ⟨a3, b2, c3, d2⟩
def absb (s : Hs) (m : Nat) : Hs := ⟨(rnd (rnd ⟨s.a, s.b, s.c, s.d ^^^ m⟩)).a ^^^ m, (rnd (rnd ⟨s.a, s.b, s.c, s.d ^^^ m⟩)).b, (rnd (rnd ⟨s.a, s.b, s.c, s.d ^^^ m⟩)).c, (rnd (rnd ⟨s.a, s.b, s.c, s.d ^^^ m⟩)).d⟩
/-- The number of the first k bytes, the least one first. -/
def wordN (l : List Nat) : Nat → Nat
  | 0 => 0
  | k + 1 => wordN l k + l.getD k 0 * 2 ^ (8 * k)
def wordL (l : List Nat) : Nat := wordN l 8
/-- The bytes of a number, from the k-th one on. -/
def bytesN (m : Nat) : Nat → List Nat
  | 0 => []
  | k + 1 => bytesN m k ++ [m / 2 ^ (8 * k) % 256]
theorem rotN_lt {x k : Nat} (hx : x < 2 ^ 64) (hk : k ≤ 64) : rotN x k < 2 ^ 64 := by
  unfold rotN
  refine Nat.or_lt_two_pow (Nat.mod_lt _ (by decide)) ?_
  exact Nat.lt_of_le_of_lt (Nat.div_le_self _ _) hx
theorem add64_lt (a b : Nat) : add64 a b < 2 ^ 64 := Nat.mod_lt _ (by decide)
theorem rnd_ok {s : Hs} (h : s.ok) : (rnd s).ok := by
  obtain ⟨ha, hb, hc, hd⟩ := h
  have b1 : rotN s.b 13 ^^^ add64 s.a s.b < 2 ^ 64 := xor_lt (rotN_lt hb (by decide)) (add64_lt _ _)
  have d1 : rotN s.d 16 ^^^ add64 s.c s.d < 2 ^ 64 := xor_lt (rotN_lt hd (by decide)) (add64_lt _ _)
  exact ⟨add64_lt _ _, xor_lt (rotN_lt b1 (by decide)) (add64_lt _ _), rotN_lt (add64_lt _ _) (by decide), xor_lt (rotN_lt d1 (by decide)) (add64_lt _ _)⟩
theorem absb_ok {s : Hs} {m : Nat} (h : s.ok) (hm : m < 2 ^ 64) : (absb s m).ok := by
  have := rnd_ok (rnd_ok (s := ⟨s.a, s.b, s.c, s.d ^^^ m⟩) ⟨h.1, h.2.1, h.2.2.1, xor_lt h.2.2.2 hm⟩)
  exact ⟨xor_lt this.1 hm, this.2.1, this.2.2.1, this.2.2.2⟩
theorem wordN_lt {l : List Nat} (hl : ∀ x ∈ l, x < 256) : ∀ k, wordN l k < 2 ^ (8 * k)
  | 0 => by simp [wordN]
  | k + 1 => by
    have h1 := wordN_lt hl k
    have h2 : l.getD k 0 < 256 := by
      by_cases h : k < l.length
      · rw [show l.getD k 0 = l[k] by simp [List.getD, h]]; exact hl _ (List.getElem_mem h)
      · rw [show l.getD k 0 = 0 by simp [List.getD, h]]; decide
    rw [wordN, show 8 * (k + 1) = 8 * k + 8 by omega, Nat.pow_add]
    have h3 : (l.getD k 0 + 1) * 2 ^ (8 * k) ≤ 256 * 2 ^ (8 * k) := Nat.mul_le_mul_right _ (by omega)
    rw [Nat.add_mul] at h3
    have : 2 ^ (8 * k) * 2 ^ 8 = 256 * 2 ^ (8 * k) := by rw [Nat.mul_comm]
    omega
theorem u64v {n : Nat} (h : n < 2 ^ 64) : IntKind.u64.wrap (n : Int) = (n : Int) := wrap_u64 (by omega) (by omega)
theorem xorU {a b : Nat} (ha : a < 2 ^ 64) (hb : b < 2 ^ 64) : IntKind.u64.wrap ((BitVec.ofInt IntKind.u64.bits (a : Int) ^^^ BitVec.ofInt IntKind.u64.bits (b : Int)).toNat : Int) = ((a ^^^ b : Nat) : Int) := by
  have hbt : IntKind.u64.bits = 64 := rfl
  rw [hbt, BitVec.toNat_xor]
  have e1 : (BitVec.ofInt 64 (a : Int)).toNat = a := by rw [BitVec.toNat_ofInt]; omega
  have e2 : (BitVec.ofInt 64 (b : Int)).toNat = b := by rw [BitVec.toNat_ofInt]; omega
  rw [e1, e2, u64v (xor_lt ha hb)]
theorem orU {a b : Nat} (ha : a < 2 ^ 64) (hb : b < 2 ^ 64) : IntKind.u64.wrap ((BitVec.ofInt IntKind.u64.bits (a : Int) ||| BitVec.ofInt IntKind.u64.bits (b : Int)).toNat : Int) = ((a ||| b : Nat) : Int) := by
  have hbt : IntKind.u64.bits = 64 := rfl
  rw [hbt, BitVec.toNat_or]
  have e1 : (BitVec.ofInt 64 (a : Int)).toNat = a := by rw [BitVec.toNat_ofInt]; omega
  have e2 : (BitVec.ofInt 64 (b : Int)).toNat = b := by rw [BitVec.toNat_ofInt]; omega
  rw [e1, e2, u64v (Nat.or_lt_two_pow ha hb)]
theorem addU (a b : Nat) : IntKind.u64.wrap ((a : Int) + (b : Int)) = ((add64 a b : Nat) : Int) := by
  rw [wrap_u64m]; unfold add64; omega
theorem shlU (x k : Nat) : IntKind.u64.wrap ((x : Int) * 2 ^ k) = ((x * 2 ^ k % 18446744073709551616 : Nat) : Int) := by
  rw [wrap_u64m]
  have : (x : Int) * 2 ^ k = ((x * 2 ^ k : Nat) : Int) := by simp
  rw [this]; omega
theorem shrU (x k : Nat) : ((x : Int).fdiv (2 ^ k)) = ((x / 2 ^ k : Nat) : Int) := by
  rw [Int.fdiv_eq_ediv_of_nonneg _ (Int.pow_nonneg (by decide))]
  have : (2 : Int) ^ k = ((2 ^ k : Nat) : Int) := by simp
  rw [this]; exact (Int.natCast_ediv x (2 ^ k)).symm
/-- The same over the program's numbers. -/
def xI (a b : Int) : Int := IntKind.u64.wrap ((BitVec.ofInt IntKind.u64.bits a ^^^ BitVec.ofInt IntKind.u64.bits b).toNat : Int)
def aI (a b : Int) : Int := IntKind.u64.wrap (a + b)
def rI (k : Nat) (x : Int) : Int := IntKind.u64.wrap ((BitVec.ofInt IntKind.u64.bits (IntKind.u64.wrap (x * 2 ^ k)) ||| BitVec.ofInt IntKind.u64.bits (x.fdiv (2 ^ (64 - k)))).toNat : Int)
def RA (a b c d : Int) : Int := aI (rI 32 (aI a b)) (xI (rI 16 d) (aI c d))
def RD (a b c d : Int) : Int := xI (rI 21 (xI (rI 16 d) (aI c d))) (aI (rI 32 (aI a b)) (xI (rI 16 d) (aI c d)))
def RB (a b c d : Int) : Int := xI (rI 17 (xI (rI 13 b) (aI a b))) (aI (aI c d) (xI (rI 13 b) (aI a b)))
def RC (a b c d : Int) : Int := rI 32 (aI (aI c d) (xI (rI 13 b) (aI a b)))
theorem xI_eq {a b : Nat} (ha : a < 2 ^ 64) (hb : b < 2 ^ 64) : xI a b = ((a ^^^ b : Nat) : Int) := xorU ha hb
theorem aI_eq (a b : Nat) : aI a b = ((add64 a b : Nat) : Int) := addU a b
theorem rI_eq {x k : Nat} (hx : x < 2 ^ 64) : rI k x = ((rotN x k : Nat) : Int) := by
  unfold rI
  rw [shlU, shrU]
  exact orU (Nat.mod_lt _ (by decide)) (Nat.lt_of_le_of_lt (Nat.div_le_self _ _) hx)
theorem RR_eq {s : Hs} (h : s.ok) : RA s.a s.b s.c s.d = ((rnd s).a : Int) ∧ RB s.a s.b s.c s.d = ((rnd s).b : Int) ∧ RC s.a s.b s.c s.d = ((rnd s).c : Int) ∧ RD s.a s.b s.c s.d = ((rnd s).d : Int) := by
  obtain ⟨a, b, c, d⟩ := s
  obtain ⟨ha, hb, hc, hd⟩ := h
  have ha : a < 2 ^ 64 := ha
  have hb : b < 2 ^ 64 := hb
  have hc : c < 2 ^ 64 := hc
  have hd : d < 2 ^ 64 := hd
  have u := add64_lt a b
  have v := add64_lt c d
  have r1 := rotN_lt (k := 13) hb (by decide)
  have b1 := xor_lt r1 u
  have r2 := rotN_lt (k := 32) u (by decide)
  have r3 := rotN_lt (k := 16) hd (by decide)
  have d1 := xor_lt r3 v
  have r4 := rotN_lt (k := 21) d1 (by decide)
  have r5 := rotN_lt (k := 17) b1 (by decide)
  have a3 := add64_lt (rotN (add64 a b) 32) (rotN d 16 ^^^ add64 c d)
  have c2 := add64_lt (add64 c d) (rotN b 13 ^^^ add64 a b)
  refine ⟨?_, ?_, ?_, ?_⟩
  · unfold RA
    rw [aI_eq a b, aI_eq c d, rI_eq u, rI_eq hd, xI_eq r3 v, aI_eq]; rfl
  · unfold RB
    rw [aI_eq a b, aI_eq c d, rI_eq hb, xI_eq r1 u, rI_eq b1, aI_eq, xI_eq r5 c2]; rfl
  · unfold RC
    rw [aI_eq a b, aI_eq c d, rI_eq hb, xI_eq r1 u, aI_eq, rI_eq c2]; rfl
  · unfold RD
    rw [aI_eq a b, aI_eq c d, rI_eq u, rI_eq hd, xI_eq r3 v, aI_eq, rI_eq d1, xI_eq r4 a3]; rfl
theorem RA_eq {s : Hs} (h : s.ok) : RA s.a s.b s.c s.d = ((rnd s).a : Int) := (RR_eq h).1
theorem RB_eq {s : Hs} (h : s.ok) : RB s.a s.b s.c s.d = ((rnd s).b : Int) := (RR_eq h).2.1
theorem RC_eq {s : Hs} (h : s.ok) : RC s.a s.b s.c s.d = ((rnd s).c : Int) := (RR_eq h).2.2.1
theorem RD_eq {s : Hs} (h : s.ok) : RD s.a s.b s.c s.d = ((rnd s).d : Int) := (RR_eq h).2.2.2
/-- What a word makes of the state, over the program's numbers. -/
theorem abs_eq {s : Hs} {m : Nat} (h : s.ok) (hm : m < 2 ^ 64) :
    xI (RA (RA s.a s.b s.c (xI s.d m)) (RB s.a s.b s.c (xI s.d m)) (RC s.a s.b s.c (xI s.d m)) (RD s.a s.b s.c (xI s.d m))) m = ((absb s m).a : Int) ∧
    RB (RA s.a s.b s.c (xI s.d m)) (RB s.a s.b s.c (xI s.d m)) (RC s.a s.b s.c (xI s.d m)) (RD s.a s.b s.c (xI s.d m)) = ((absb s m).b : Int) ∧
    RC (RA s.a s.b s.c (xI s.d m)) (RB s.a s.b s.c (xI s.d m)) (RC s.a s.b s.c (xI s.d m)) (RD s.a s.b s.c (xI s.d m)) = ((absb s m).c : Int) ∧
    RD (RA s.a s.b s.c (xI s.d m)) (RB s.a s.b s.c (xI s.d m)) (RC s.a s.b s.c (xI s.d m)) (RD s.a s.b s.c (xI s.d m)) = ((absb s m).d : Int) := by
  have ht : (⟨s.a, s.b, s.c, s.d ^^^ m⟩ : Hs).ok := ⟨h.1, h.2.1, h.2.2.1, xor_lt h.2.2.2 hm⟩
  have e := RR_eq ht
  simp only at e
  rw [xI_eq h.2.2.2 hm, e.1, e.2.1, e.2.2.1, e.2.2.2]
  have hr := rnd_ok ht
  have e2 := RR_eq hr
  rw [e2.1, e2.2.1, e2.2.2.1, e2.2.2.2, xI_eq (rnd_ok hr).1 hm]
  exact ⟨rfl, rfl, rfl, rfl⟩
end Go.Mb
namespace Go.Proofs.YtdhfgfkfejpfdaaGreat
open Go.Sy Go.Mb
set_option maxRecDepth 100000
set_option linter.unusedVariables false
set_option maxHeartbeats 4000000

theorem rot13_ok (x : Int) : FnOK Tryz.prog 90 [.int .u64 x, .int .i64 13] (.int .u64 (rI 13 x), none) := by
  refine fn_ok CN rfl (by kernel_rfl) Tryz.func90 rfl ?_
  refine Sat.go (Eq.refl _) (NS.need (by kernel_rfl) ?_)
  refine Sat.go (Eq.refl _) (NS.need (by kernel_rfl) ?_)
  refine Sat.go (Eq.refl _) (NS.ret rfl rfl (LeA.of (congrArg (A.int .u64) ?_)))
  kernel_rfl
theorem rot32_ok (x : Int) : FnOK Tryz.prog 90 [.int .u64 x, .int .i64 32] (.int .u64 (rI 32 x), none) := by
  refine fn_ok CN rfl (by kernel_rfl) Tryz.func90 rfl ?_
  refine Sat.go (Eq.refl _) (NS.need (by kernel_rfl) ?_)
  refine Sat.go (Eq.refl _) (NS.need (by kernel_rfl) ?_)
  refine Sat.go (Eq.refl _) (NS.ret rfl rfl (LeA.of (congrArg (A.int .u64) ?_)))
  kernel_rfl
theorem rot16_ok (x : Int) : FnOK Tryz.prog 90 [.int .u64 x, .int .i64 16] (.int .u64 (rI 16 x), none) := by
  refine fn_ok CN rfl (by kernel_rfl) Tryz.func90 rfl ?_
  refine Sat.go (Eq.refl _) (NS.need (by kernel_rfl) ?_)
  refine Sat.go (Eq.refl _) (NS.need (by kernel_rfl) ?_)
  refine Sat.go (Eq.refl _) (NS.ret rfl rfl (LeA.of (congrArg (A.int .u64) ?_)))
  kernel_rfl
theorem rot21_ok (x : Int) : FnOK Tryz.prog 90 [.int .u64 x, .int .i64 21] (.int .u64 (rI 21 x), none) := by
  refine fn_ok CN rfl (by kernel_rfl) Tryz.func90 rfl ?_
  refine Sat.go (Eq.refl _) (NS.need (by kernel_rfl) ?_)
  refine Sat.go (Eq.refl _) (NS.need (by kernel_rfl) ?_)
  refine Sat.go (Eq.refl _) (NS.ret rfl rfl (LeA.of (congrArg (A.int .u64) ?_)))
  kernel_rfl
theorem rot17_ok (x : Int) : FnOK Tryz.prog 90 [.int .u64 x, .int .i64 17] (.int .u64 (rI 17 x), none) := by
  refine fn_ok CN rfl (by kernel_rfl) Tryz.func90 rfl ?_
  refine Sat.go (Eq.refl _) (NS.need (by kernel_rfl) ?_)
  refine Sat.go (Eq.refl _) (NS.need (by kernel_rfl) ?_)
  refine Sat.go (Eq.refl _) (NS.ret rfl rfl (LeA.of (congrArg (A.int .u64) ?_)))
  kernel_rfl
theorem wordStep {l : List Nat} {k : Nat} (hl : ∀ x ∈ l, x < 256) (hk : k < 8) : IntKind.u64.wrap ((BitVec.ofInt IntKind.u64.bits ((wordN l k : Nat) : Int) ||| BitVec.ofInt IntKind.u64.bits (IntKind.u64.wrap (IntKind.u64.wrap ((l.getD k 0 : Nat) : Int) * 2 ^ (min (IntKind.i64.wrap (8 * (k : Int))).toNat IntKind.u64.bits)))).toNat : Int) = ((wordN l (k + 1) : Nat) : Int) := by
  have h0 : l.getD k 0 < 256 := by
    by_cases h : k < l.length
    · rw [show l.getD k 0 = l[k] by simp [List.getD, h]]; exact hl _ (List.getElem_mem h)
    · rw [show l.getD k 0 = 0 by simp [List.getD, h]]; decide
  have h1 := wordN_lt hl k
  have e0 : min (IntKind.i64.wrap (8 * (k : Int))).toNat IntKind.u64.bits = 8 * k := by
    have : IntKind.u64.bits = 64 := rfl
    rw [this, wrap_i64 (by omega) (by omega)]; omega
  have h3 : l.getD k 0 * 2 ^ (8 * k) < 2 ^ 64 := by
    have : (2 : Nat) ^ 64 = 2 ^ (8 * k) * 2 ^ (64 - 8 * k) := by rw [← Nat.pow_add]; congr 1; omega
    rw [this, Nat.mul_comm]
    refine Nat.mul_lt_mul_of_pos_left (Nat.lt_of_lt_of_le h0 ?_) (Nat.two_pow_pos _)
    exact Nat.le_trans (by decide : 256 ≤ 2 ^ 8) (Nat.pow_le_pow_right (by decide) (by omega))
  have h4 : wordN l k < 2 ^ 64 := Nat.lt_of_lt_of_le h1 (Nat.pow_le_pow_right (by decide) (by omega))
  rw [e0, u64v (show l.getD k 0 < 2 ^ 64 by omega), shlU, Nat.mod_eq_of_lt h3, orU h4 h3]
  congr 1
  rw [wordN, Nat.or_comm, Nat.mul_comm, ← Nat.two_pow_add_eq_or_of_lt h1, Nat.add_comm]
theorem word_ok (l : List Nat) (hl : ∀ x ∈ l, x < 256) (h8 : 8 ≤ l.length) (hn : l.length ≤ 1000000) : FnOK Tryz.prog 72 [.sl 1 l.length (rowL bC l)] (.int .u64 (wordL l : Nat), none) := by
  refine fn_ok CN rfl (by kernel_rfl) Tryz.func72 rfl ?_
  refine Sat.go (Eq.refl _) ?_
  refine NS.loop (σ := { k : Nat // k ≤ 8 }) (fun k => [(0, .sl 1 l.length (rowL bC l)), (3, .int .u64 (wordN l k.1 : Nat)), (5, .int .i64 k.1)]) (fun k => []) (fun k => 8 - k.1) ⟨0, by omega⟩ ?_ ?_
  · exact weak_hd [] rfl ⟨rfl, rfl, rfl, trivial⟩ trivial trivial (by kernel_rfl)
  rintro ⟨k, hk⟩
  refine Sat.go (Eq.refl _) (NS.ite (fun a => ?_) (fun a => ?_))
  · have a : k < 8 := by have a : decide ((k : Int) < 8) = true := a; have := of_decide_eq_true a; omega
    refine Sat.go (Eq.refl _) (NS.need (by show decide (0 ≤ (k : Int) ∧ (k : Int) < (l.length : Int)) = true; exact decide_eq_true (by omega)) ?_)
    refine Sat.go (Eq.refl _) (NS.need (by show decide (0 ≤ IntKind.i64.wrap (8 * (k : Int))) = true; rw [wrap_i64 (by omega) (by omega)]; exact decide_eq_true (by omega)) ?_)
    refine Sat.go (Eq.refl _) (NS.next ⟨k + 1, by omega⟩ (by show 8 - (k + 1) < 8 - k; omega) ?_)
    refine weak_hd [] rfl ⟨rfl, ?_, ren_int rfl (i64_k (k := k) (n := 8) a (by omega)), trivial⟩ trivial trivial (by kernel_rfl)
    exact ren_int rfl (wordStep hl a)
  have a : k = 8 := by have a : decide ((k : Int) < 8) = false := a; have := of_decide_eq_false a; have hk : k ≤ 8 := hk; omega
  subst a
  refine Sat.go (Eq.refl _) (NS.leave rfl (Eq.refl _) ?_)
  exact Sat.go (Eq.refl _) (NS.ret rfl rfl (LeA.refl _))
end Go.Proofs.YtdhfgfkfejpfdaaGreat
