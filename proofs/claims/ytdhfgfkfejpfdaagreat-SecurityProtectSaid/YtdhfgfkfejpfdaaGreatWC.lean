
/- The contracts of frames. -/
import Derived.Test.YtdhfgfkfejpfdaaGreatWB
set_option linter.unusedSimpArgs false
set_option linter.unusedSectionVars false
set_option linter.unusedVariables false
namespace Go.Mb
open Go.Sy
def frameL (l : List Nat) : List Nat := encI l.length ++ l
def sealL (l : List Nat) : List Nat := frameL l ++ tailL (frameL l)
def sealM (s : ByteArray) : ByteArray × Int := if decide ((s.size : Int) > 65536) then (.empty, 4) else (bs (sealL (ls s)), 0)
def opL (l : List Nat) : List Nat × Nat × Int :=
  if (rdI l).2.2 != 0 then ([], 0, (rdI l).2.2) else if decide ((rdI l).1 < 0) || decide ((rdI l).1 > 65536) then ([], 0, 2) else
  if decide (l.length < (rdI l).2.1 + (rdI l).1.toNat + 4) then ([], 0, 12) else
  if tailL (l.take ((rdI l).2.1 + (rdI l).1.toNat)) != (l.take ((rdI l).2.1 + (rdI l).1.toNat + 4)).drop ((rdI l).2.1 + (rdI l).1.toNat) then ([], 0, 13) else
  ((l.take ((rdI l).2.1 + (rdI l).1.toNat)).drop (rdI l).2.1, (rdI l).2.1 + (rdI l).1.toNat + 4, 0)
theorem ls_textM {s : ByteArray} (h : ¬ (s.size : Int) > 65536) : (textM s).1 = bs (frameL (ls s)) ∧ (textM s).2 = 0 := by
  unfold textM
  rw [if_neg (by simpa using h)]
  refine ⟨?_, rfl⟩
  unfold frameL
  rw [bs_append, bs_ls, ls_len]
theorem frameL_lt {l : List Nat} (h : ∀ x ∈ l, x < 256) : ∀ x ∈ frameL l, x < 256 := by
  intro x hx
  rcases List.mem_append.1 hx with hx | hx
  · exact encZ_mem hx
  · exact h x hx
theorem bs_tail (s : ByteArray) : ls (bs (tailL (ls s))) = tailL (ls s) := ls_bs tailL_lt
end Go.Mb
namespace Go.Proofs.YtdhfgfkfejpfdaaGreat
open Go.Sy Go.Mb
set_option maxRecDepth 100000
set_option linter.unusedVariables false
set_option maxHeartbeats 4000000

theorem sum_ok (s : ByteArray) (hs : s.size ≤ 1000000) : FnOK Tryz.prog 98 [.str s] (.int .i64 (sumL (ls s) : Nat), none) := by
  refine fn_ok VN rfl (by kernel_rfl) Tryz.func98 rfl ?_
  have c := update_ok all32 s (by decide) hs
  have h1 : up all32 (ls s) < 2 ^ 32 := up_lt (ls_lt s) (by decide)
  have h2 := sumL_lt (ls_lt s)
  refine Sat.go (Eq.refl _) (NS.call (c) rfl ?_)
  refine Sat.go (Eq.refl _) (NS.ret rfl rfl (LeA.of (congrArg (A.int .i64) (?_))))
  show IntKind.i64.wrap (IntKind.u32.wrap ((BitVec.ofInt IntKind.u32.bits ((up all32 (ls s) : Nat) : Int) ^^^ BitVec.ofInt IntKind.u32.bits ((all32 : Nat) : Int)).toNat : Int)) = _
  rw [xor32 h1 (by decide), wrap_i64 (by have : up all32 (ls s) ^^^ all32 < 2 ^ 32 := h2; omega) (by have : up all32 (ls s) ^^^ all32 < 2 ^ 32 := h2; omega)]
  rfl
theorem shrK (n k : Nat) (b : Nat) (hb : (2 : Int) ^ (min (b : Int).toNat IntKind.i64.bits) = (k : Int)) : (n : Int).fdiv (2 ^ (min (b : Int).toNat IntKind.i64.bits)) = ((n / k : Nat) : Int) := by
  rw [hb, Int.fdiv_eq_ediv_of_nonneg _ (Int.natCast_nonneg _)]; exact (Int.natCast_ediv n k).symm
theorem tailB (n : Nat) : bytesOf (fun i j => getA [A.int .u8 (IntKind.u8.wrap (n : Int)), A.int .u8 (IntKind.u8.wrap ((n : Int).fdiv (2 ^ (min (8 : Int).toNat IntKind.i64.bits)))), A.int .u8 (IntKind.u8.wrap ((n : Int).fdiv (2 ^ (min (16 : Int).toNat IntKind.i64.bits)))), A.int .u8 (IntKind.u8.wrap ((n : Int).fdiv (2 ^ (min (24 : Int).toNat IntKind.i64.bits))))] (i * 1 + j)) 4 = bs [n % 256, n / 256 % 256, n / 65536 % 256, n / 16777216 % 256] := by
  have e8 := shrK n 256 8 (by decide)
  have e16 := shrK n 65536 16 (by decide)
  have e24 := shrK n 16777216 24 (by decide)
  have f : ∀ m : Nat, IntKind.u8.wrap (m : Int) = ((m % 256 : Nat) : Int) := fun m => by rw [wrap_u8m]; omega
  rw [show ((8 : Nat) : Int) = 8 from rfl] at e8
  rw [show ((16 : Nat) : Int) = 16 from rfl] at e16
  rw [show ((24 : Nat) : Int) = 24 from rfl] at e24
  rw [e8, e16, e24, f, f, f, f]
  rfl
theorem all4 {f : Nat → Bool} (h0 : f 0 = true) (h1 : f 1 = true) (h2 : f 2 = true) (h3 : f 3 = true) : allN f 4 = true := by simp [allN, h0, h1, h2, h3]
theorem tail_ok (s : ByteArray) (hs : s.size ≤ 1000000) : FnOK Tryz.prog 94 [.str s] (.str (bs (tailL (ls s))), none) := by
  refine fn_ok VN rfl (by kernel_rfl) Tryz.func94 rfl ?_
  refine Sat.go (Eq.refl _) (NS.call (sum_ok s hs) rfl ?_)
  refine Sat.go (Eq.refl _) (NS.need (rfl) ?_)
  refine Sat.go (Eq.refl _) (NS.need (rfl) ?_)
  refine Sat.go (Eq.refl _) (NS.need (rfl) ?_)
  refine Sat.go (Eq.refl _) (NS.need (all4 rfl rfl rfl rfl) ?_)
  exact Sat.go (Eq.refl _) (NS.ret rfl rfl (LeA.of (congrArg A.str (tailB (sumL (ls s))))))
theorem rBytes_ok (n : Nat) : FnOK Tryz.prog 84 [.int .i64 n] (.str (bs [n % 256, n / 256 % 256, n / 65536 % 256, n / 16777216 % 256]), none) := by
  refine fn_ok VN rfl (by kernel_rfl) Tryz.func84 rfl ?_
  refine Sat.go (Eq.refl _) (NS.need (rfl) ?_)
  refine Sat.go (Eq.refl _) (NS.need (rfl) ?_)
  refine Sat.go (Eq.refl _) (NS.need (rfl) ?_)
  refine Sat.go (Eq.refl _) (NS.need (all4 rfl rfl rfl rfl) ?_)
  exact Sat.go (Eq.refl _) (NS.ret rfl rfl (LeA.of (congrArg A.str (tailB n))))
theorem rStep_ok (r : Nat) (hr : r < 2 ^ 32) : FnOK Tryz.prog 99 [.int .i64 r] (.int .i64 (st1 r : Nat), none) := by
  have e1 : IntKind.i64.wrap ((r / 2 : Nat) : Int) = ((r / 2 : Nat) : Int) := wrap_i64 (by omega) (by omega)
  refine fn_ok VN rfl (by kernel_rfl) Tryz.func99 rfl ?_
  refine Sat.go (Eq.refl _) (NS.need (rfl) ?_)
  rw [tm2]
  refine Sat.go (Eq.refl _) (NS.ite (fun h2 => ?_) (fun h2 => ?_))
  · have h2 : ((r % 2 : Nat) : Int) = 1 := eq_of_beq h2
    refine Sat.go (Eq.refl _) (NS.need (rfl) ?_)
    rw [td2]
    refine Sat.go (Eq.refl _) (NS.ret rfl rfl (LeA.of (congrArg (A.int .i64) (?_))))
    show IntKind.i64.wrap ((BitVec.ofInt IntKind.i64.bits (IntKind.i64.wrap ((r / 2 : Nat) : Int)) ^^^ BitVec.ofInt IntKind.i64.bits ((poly : Nat) : Int)).toNat : Int) = ((st1 r : Nat) : Int)
    rw [e1, xor64 (by omega) (by decide)]
    unfold st1; rw [if_pos (by omega)]
  · have h2 : ((r % 2 : Nat) : Int) ≠ 1 := ne_of_beq_false h2
    refine Sat.go (Eq.refl _) (NS.need (rfl) ?_)
    rw [td2]
    refine Sat.go (Eq.refl _) (NS.ret rfl rfl (LeA.of (congrArg (A.int .i64) (?_))))
    show IntKind.i64.wrap ((r / 2 : Nat) : Int) = ((st1 r : Nat) : Int)
    rw [e1]
    unfold st1; rw [if_neg (by omega)]
theorem rUpdate_ok (s : ByteArray) (hs : s.size ≤ 1000000) : FnOK Tryz.prog 95 [.int .i64 0, .str s] (.tup [.int .i64 (sumL (ls s) : Nat), .int .i64 0], none) := by
  have hll := ls_len s
  refine fn_ok VN rfl (by kernel_rfl) Tryz.func95 rfl ?_
  refine Sat.go (Eq.refl _) (NS.no (rfl) ?_)
  refine Sat.go (Eq.refl _) (NS.no (rfl) ?_)
  refine Sat.go (Eq.refl _) ?_
  refine NS.loop (σ := { k : Nat // k ≤ s.size }) (fun k => [(1, .str s), (6, .int .i64 (up all32 ((ls s).take k.1) : Nat)), (7, .int .i64 k.1)]) (fun k => []) (fun k => s.size - k.1) ⟨0, Nat.zero_le _⟩ ?_ ?_
  · exact weak_hd [] rfl ⟨rfl, ren_int rfl (xor64 (a := 0) (b := all32) (by decide) (by decide)), rfl, trivial⟩ trivial trivial (by kernel_rfl)
  rintro ⟨k, hk⟩
  have hlt : up all32 ((ls s).take k) < 2 ^ 32 := up_lt (fun x hx => ls_lt s x (List.mem_of_mem_take hx)) (by decide)
  refine Sat.go (Eq.refl _) (NS.ite (fun h => ?_) (fun h => ?_))
  · have h : k < s.size := by have h : (k : Int) < (s.size : Int) := of_decide_eq_true h
                              omega
    have ek : IntKind.i64.wrap ((k : Int) + 1) = ((k + 1 : Nat) : Int) := i64_k (k := k) (n := s.size) (by omega) (by omega)
    have hsn := up_snoc all32 (ls s) k (by omega)
    have hb := ls_bd s k
    have eb : (((s.data.toList.getD (Int.toNat ((k : Nat) : Int)) 0).toNat : Nat) : Int) = (((ls s).getD k 0 : Nat) : Int) := by rw [← ls_get]; rfl
    generalize hR : up all32 ((ls s).take k) = R at *
    refine Sat.go (Eq.refl _) (NS.need (decide_eq_true ⟨Int.natCast_nonneg k, by show (k : Int) < _; omega⟩) ?_)
    rw [eb]
    generalize hB : (ls s).getD k 0 = b at *
    have hx : R ^^^ b < 2 ^ 32 := xor_lt hlt (by omega)
    refine Sat.go (Eq.refl _) ?_
    refine NS.loop (σ := { q : Nat // q ≤ 8 }) (fun q => [(1, .str s), (6, .int .i64 (stN q.1 (R ^^^ b) : Nat)), (7, .int .i64 k), (8, .int .i64 q.1)]) (fun q => []) (fun q => 8 - q.1) ⟨0, Nat.zero_le _⟩ ?_ ?_
    · refine weak_hd [] rfl ⟨rfl, ren_int rfl ?_, rfl, rfl, trivial⟩ trivial trivial (by kernel_rfl)
      show IntKind.i64.wrap ((BitVec.ofInt IntKind.i64.bits (R : Int) ^^^ BitVec.ofInt IntKind.i64.bits (IntKind.i64.wrap (b : Int))).toNat : Int) = ((R ^^^ b : Nat) : Int)
      rw [wrap_i64 (n := (b : Int)) (by omega) (by omega), xor64 (by omega) (by omega)]
    rintro ⟨q, hq⟩
    have hl8 := stN_lt hx q
    refine Sat.go (Eq.refl _) (NS.ite (fun g => ?_) (fun g => ?_))
    · have g : q < 8 := by have g : (q : Int) < 8 := of_decide_eq_true g
                           omega
      refine Sat.go (Eq.refl _) (NS.call (rStep_ok (stN q (R ^^^ b)) hl8) rfl ?_)
      refine Sat.go (Eq.refl _) (NS.next ⟨q + 1, by omega⟩ (by simp only; omega) ?_)
      exact weak_hd [] rfl ⟨rfl, rfl, rfl, ren_int rfl (i64_k (k := q) (n := 100) (by omega) (by omega)), trivial⟩ trivial trivial (by kernel_rfl)
    · obtain rfl : q = 8 := by have g : ¬ (q : Int) < 8 := of_decide_eq_false g
                               omega
      refine Sat.go (Eq.refl _) (NS.leave rfl (Eq.refl _) ?_)
      refine Sat.go (Eq.refl _) (NS.next ⟨k + 1, by omega⟩ (by simp only; omega) ?_)
      exact weak_hd [] rfl ⟨rfl, ren_int rfl (by rw [hsn]; rfl), ren_int rfl ek, trivial⟩ trivial trivial (by kernel_rfl)
  · obtain rfl : k = s.size := by have h : ¬ (k : Int) < (s.size : Int) := of_decide_eq_false h
                                  omega
    rw [take_all (by omega)] at hlt
    refine Sat.go (Eq.refl _) (NS.leave rfl (Eq.refl _) ?_)
    refine Sat.go (Eq.refl _) (NS.ret rfl rfl (LeA.tup2 (LeA.of (congrArg (A.int .i64) ?_)) (LeA.refl _)))
    show IntKind.i64.wrap ((BitVec.ofInt IntKind.i64.bits ((up all32 ((ls s).take s.size) : Nat) : Int) ^^^ BitVec.ofInt IntKind.i64.bits ((all32 : Nat) : Int)).toNat : Int) = _
    rw [take_all (by omega), xor64 (by omega) (by decide)]
    rfl
theorem rSum_ok (s : ByteArray) (hs : s.size ≤ 1000000) : FnOK Tryz.prog 85 [.str s] (.int .i64 (sumL (ls s) : Nat), none) := by
  refine fn_ok VN rfl (by kernel_rfl) Tryz.func85 rfl ?_
  refine Sat.go (Eq.refl _) (NS.call (rUpdate_ok s hs) rfl ?_)
  exact Sat.go (Eq.refl _) (NS.ret rfl rfl (LeA.refl _))
theorem bs_size_frame {s : ByteArray} (h : ¬ (s.size : Int) > 65536) : (bs (frameL (ls s))).size ≤ 70000 := by
  have h1 := encI_len (inI_nat (n := (ls s).length) (by rw [ls_len]; omega))
  rw [bs_len, frameL, List.length_append, ls_len]
  rw [ls_len] at h1
  omega
theorem ls_frame (s : ByteArray) : ls (bs (frameL (ls s))) = frameL (ls s) := ls_bs (frameL_lt (ls_lt s))
theorem seal_ok (s : ByteArray) : FnOK Tryz.prog 79 [.str s] (.tup [.str (sealM s).1, .int .i64 (sealM s).2], none) := by
  refine fn_ok VN rfl (by kernel_rfl) Tryz.func79 rfl ?_
  have c := text_ok s
  cases h : decide ((s.size : Int) > 65536) with
  | true =>
    rw [show textM s = (.empty, 4) by unfold textM; rw [if_pos h]] at c
    refine Sat.go (Eq.refl _) (NS.call (c) rfl ?_)
    refine Sat.go (Eq.refl _) (NS.yes (rfl) ?_)
    exact Sat.go (Eq.refl _) (NS.ret rfl rfl (str_le (by unfold sealM; rw [if_pos h]; rfl)))
  | false =>
    have h' : ¬ (s.size : Int) > 65536 := of_decide_eq_false h
    obtain ⟨e1, e2⟩ := ls_textM h'
    rw [e1, e2] at c
    have hsz := bs_size_frame h'
    have c2 := tail_ok (bs (frameL (ls s))) (by omega)
    rw [ls_frame] at c2
    refine Sat.go (Eq.refl _) (NS.call (c) rfl ?_)
    refine Sat.go (Eq.refl _) (NS.no (rfl) ?_)
    refine Sat.go (Eq.refl _) (NS.call (c2) rfl ?_)
    refine Sat.go (Eq.refl _) (NS.need (decide_eq_true (by rw [bs_len (tailL _)]; show _ + 4 ≤ _; omega)) ?_)
    exact Sat.go (Eq.refl _) (NS.ret rfl rfl (str_le (by unfold sealM sealL; rw [if_neg (by rw [h]; simp), bs_append])))
theorem rSeal_ok (s : ByteArray) : FnOK Tryz.prog 69 [.str s] (.tup [.str (sealM s).1, .int .i64 (sealM s).2], none) := by
  refine fn_ok VN rfl (by kernel_rfl) Tryz.func69 rfl ?_
  refine Sat.go (Eq.refl _) (NS.ite (fun h => ?_) (fun h => ?_))
  · exact Sat.go (Eq.refl _) (NS.ret rfl rfl (str_le (by unfold sealM; rw [if_pos h]; rfl)))
  have h' : ¬ (s.size : Int) > 65536 := of_decide_eq_false h
  have hi := inI_nat (n := s.size) (by omega)
  have hl := encI_len hi
  have c := rInt_ok s.size
  rw [intM_ok hi] at c
  have ef : bs (encI s.size) ++ s = bs (frameL (ls s)) := by unfold frameL; rw [bs_append, bs_ls, ls_len]
  have hsz := bs_size_frame h'
  have c2 := rSum_ok (bs (frameL (ls s))) (by omega)
  rw [ls_frame] at c2
  have c3 := rBytes_ok (sumL (frameL (ls s)))
  refine Sat.go (Eq.refl _) (NS.call (c) rfl ?_)
  refine Sat.go (Eq.refl _) (NS.need (decide_eq_true (by rw [bs_len]; omega)) ?_)
  refine Sat.go (Eq.refl _) (NS.need (decide_eq_true (by rw [bs_len]; omega)) ?_)
  rw [ef]
  refine Sat.go (Eq.refl _) (NS.call (c2) rfl ?_)
  refine Sat.go (Eq.refl _) (NS.call (c3) rfl ?_)
  refine Sat.go (Eq.refl _) (NS.need (decide_eq_true (by rw [bs_len [_, _, _, _]]; show _ + 4 ≤ _; omega)) ?_)
  exact Sat.go (Eq.refl _) (NS.ret rfl rfl (str_le (by unfold sealM sealL tailL; rw [if_neg (by rw [h]; simp), bs_append])))
theorem op_le {r : List Nat × Nat × Int} {l : List Nat} {e : Int} {k : Nat} {s : ByteArray} (h : r = (l, k, e)) (hs : s = bs l) : LeA (.tup [.str s, .int .i64 (k : Int), .int .i64 e]) (.tup [.str (bs r.1), .int .i64 (r.2.1 : Nat), .int .i64 r.2.2]) := by subst h; subst hs; exact LeA.refl _
theorem ex_size (s : ByteArray) (i j : Nat) : (s.extract i j).size ≤ s.size := by
  have h1 := ls_len (s.extract i j)
  rw [ls_extract] at h1
  have h2 := ls_len s
  simp only [List.length_drop, List.length_take] at h1
  omega
end Go.Proofs.YtdhfgfkfejpfdaaGreat
