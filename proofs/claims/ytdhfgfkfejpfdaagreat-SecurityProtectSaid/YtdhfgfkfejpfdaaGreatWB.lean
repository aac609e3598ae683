
/- The contracts of checksums. -/
import Derived.Test.YtdhfgfkfejpfdaaGreatWA
import Derived.Test.YtdhfgfkfejpfdaaGreatVE
set_option linter.unusedSimpArgs false
set_option linter.unusedSectionVars false
set_option linter.unusedVariables false
namespace Go.Proofs.YtdhfgfkfejpfdaaGreat
open Go.Sy Go.Mb
set_option maxRecDepth 100000
set_option linter.unusedVariables false
set_option maxHeartbeats 4000000

theorem tm2 (m : Nat) : ((m : Nat) : Int).tmod 2 = ((m % 2 : Nat) : Int) := (Int.ofNat_tmod m 2).symm
theorem td2 (m : Nat) : ((m : Nat) : Int).tdiv 2 = ((m / 2 : Nat) : Int) := (Int.ofNat_tdiv m 2).symm
theorem step_ok (r : Nat) (hr : r < 2 ^ 32) : FnOK Tryz.prog 103 [.int .u32 r] (.int .u32 (stN 8 r : Nat), none) := by
  refine fn_ok VN rfl (by kernel_rfl) Tryz.func103 rfl ?_
  refine Sat.go (Eq.refl _) ?_
  refine NS.loop (σ := { k : Nat // k ≤ 8 }) (fun k => [(0, .int .u32 (stN k.1 r : Nat)), (3, .int .i64 k.1)]) (fun k => []) (fun k => 8 - k.1) ⟨0, Nat.zero_le _⟩ ?_ ?_
  · exact weak_hd [] rfl ⟨rfl, rfl, trivial⟩ trivial trivial (by kernel_rfl)
  rintro ⟨k, hk⟩
  have hlt := stN_lt hr k
  refine Sat.go (Eq.refl _) (NS.ite (fun h => ?_) (fun h => ?_))
  · have h : k < 8 := by have h : (k : Int) < 8 := of_decide_eq_true h
                         omega
    have ek : IntKind.i64.wrap ((k : Int) + 1) = ((k + 1 : Nat) : Int) := i64_k (k := k) (n := 100) (by omega) (by omega)
    have e1 : IntKind.u32.wrap ((stN k r / 2 : Nat) : Int) = ((stN k r / 2 : Nat) : Int) := wrap_u32 (by omega) (by omega)
    refine Sat.go (Eq.refl _) (NS.need (rfl) ?_)
    rw [tm2]
    refine Sat.go (Eq.refl _) (NS.ite (fun h2 => ?_) (fun h2 => ?_))
    · have h2 : ((stN k r % 2 : Nat) : Int) = 1 := eq_of_beq h2
      refine Sat.go (Eq.refl _) (NS.need (rfl) ?_)
      rw [td2]
      refine Sat.go (Eq.refl _) (NS.next ⟨k + 1, by omega⟩ (by simp only; omega) ?_)
      refine weak_hd [] rfl ⟨ren_int rfl ?_, ren_int rfl ek, trivial⟩ trivial trivial (by kernel_rfl)
      show IntKind.u32.wrap ((BitVec.ofInt IntKind.u32.bits (IntKind.u32.wrap ((stN k r / 2 : Nat) : Int)) ^^^ BitVec.ofInt IntKind.u32.bits ((poly : Nat) : Int)).toNat : Int) = ((st1 (stN k r) : Nat) : Int)
      rw [e1, xor32 (by omega) (by decide)]
      unfold st1; rw [if_pos (by omega)]
    · have h2 : ((stN k r % 2 : Nat) : Int) ≠ 1 := ne_of_beq_false h2
      refine Sat.go (Eq.refl _) (NS.need (rfl) ?_)
      rw [td2]
      refine Sat.go (Eq.refl _) (NS.next ⟨k + 1, by omega⟩ (by simp only; omega) ?_)
      refine weak_hd [] rfl ⟨ren_int rfl ?_, ren_int rfl ek, trivial⟩ trivial trivial (by kernel_rfl)
      show IntKind.u32.wrap ((stN k r / 2 : Nat) : Int) = ((st1 (stN k r) : Nat) : Int)
      rw [e1]
      unfold st1; rw [if_neg (by omega)]
  · obtain rfl : k = 8 := by have h : ¬ (k : Int) < 8 := of_decide_eq_false h
                             omega
    refine Sat.go (Eq.refl _) (NS.leave rfl (Eq.refl _) ?_)
    exact Sat.go (Eq.refl _) (NS.ret rfl rfl (LeA.refl _))
theorem table_ok : FnOK Tryz.prog 101 [] (.agg (tabC 256), none) := by
  refine fn_ok VN rfl (by kernel_rfl) Tryz.func101 rfl ?_
  refine Sat.go (Eq.refl _) ?_
  refine NS.loop (σ := { k : Nat // k ≤ 256 }) (fun k => [(0, .ptr 0 0), (1, .ptr 1 0), (3, .int .i64 k.1)]) (fun k => [(0, .box (tabC 0)), (1, .box (tabC k.1))]) (fun k => 256 - k.1) ⟨0, Nat.zero_le _⟩ ?_ ?_
  · exact weak_hd [] rfl ⟨rfl, rfl, rfl, trivial⟩ ⟨⟨_, rfl, RenL_ints _⟩, ⟨_, rfl, RenL_ints _⟩, trivial⟩ trivial (by kernel_rfl)
  rintro ⟨k, hk⟩
  refine Sat.go (Eq.refl _) (NS.ite (fun h => ?_) (fun h => ?_))
  · have h : k < 256 := by have h : (k : Int) < 256 := of_decide_eq_true h
                           omega
    have ek : IntKind.i64.wrap ((k : Int) + 1) = ((k + 1 : Nat) : Int) := i64_k (k := k) (n := 1000) (by omega) (by omega)
    have e1 : IntKind.u32.wrap ((k : Nat) : Int) = ((k : Nat) : Int) := wrap_u32 (by omega) (by omega)
    have c := step_ok k (by omega)
    refine Sat.go (Eq.refl _) (NS.call (c.le (LeL.cons (LeA.of (congrArg (A.int .u32) e1)) LeL.nil)) rfl ?_)
    refine Sat.go (Eq.refl _) (NS.need (decide_eq_true ⟨Int.natCast_nonneg k, by show (k : Int) < 256; omega⟩) ?_)
    refine Sat.go (Eq.refl _) (NS.need (decide_eq_true (show k < 256 from h)) ?_)
    refine Sat.go (Eq.refl _) (NS.next ⟨k + 1, by omega⟩ (by simp only; omega) ?_)
    refine weak_hd [] rfl ⟨rfl, rfl, ren_int rfl ek, trivial⟩ ⟨⟨_, rfl, RenL_ints _⟩, ⟨_, rfl, ?_⟩, trivial⟩ trivial (by kernel_rfl)
    show RenL _ (tabC (k + 1)) (setIs .u32 k ((stN 8 k : Nat) : Int) 0 (tabI k 256 0))
    rw [setIs_eq, if_pos (Nat.zero_le _), Nat.sub_zero, tabI_set h]
    exact RenL_ints _
  · obtain rfl : k = 256 := by have h : ¬ (k : Int) < 256 := of_decide_eq_false h
                               omega
    refine Sat.go (Eq.refl _) (NS.leave rfl (Eq.refl _) ?_)
    exact Sat.go (Eq.refl _) (NS.ret rfl rfl (LeA.refl _))
def bytesF (s : ByteArray) : A := .fn 104 [.ip 1 (getA [.str s])]
theorem bytesG_ok (s : ByteArray) : FnOK Tryz.prog 102 [.str s] (bytesF s, none) := by
  refine fn_ok VN rfl (by kernel_rfl) Tryz.func102 rfl ?_
  exact Sat.go (Eq.refl _) (NS.ret rfl rfl (LeA.refl _))
noncomputable def WG : Cx := { E := EV, inl := [104], ok := EV_ok }
theorem shr8 (r : Nat) : (r : Int).fdiv (2 ^ (min (8 : Int).toNat IntKind.u32.bits)) = ((r / 256 : Nat) : Int) := by
  have e0 : (2 : Int) ^ (min (8 : Int).toNat IntKind.u32.bits) = 256 := by decide
  rw [e0, Int.fdiv_eq_ediv_of_nonneg _ (by omega)]; omega
theorem update_ok (r : Nat) (s : ByteArray) (hr : r < 2 ^ 32) (hs : s.size ≤ 1000000) : FnOK Tryz.prog 100 [.int .u32 r, .str s] (.int .u32 (up r (ls s) : Nat), none) := by
  have hll := ls_len s
  refine fn_ok WG rfl (by kernel_rfl) Tryz.func100 rfl ?_
  refine Sat.go (Eq.refl _) (NS.call (table_ok) rfl ?_)
  refine Sat.go (Eq.refl _) (NS.call (bytesG_ok s) rfl ?_)
  refine Sat.go (Eq.refl _) ?_
  refine NS.loop (σ := { k : Nat // k ≤ s.size }) (fun k => [(0, .yld 21), (1, .ip 1 (getA [.str s])), (5, .int .i64 s.size), (6, .int .i64 k.1)]) (fun k => [(2, .box [.int .u32 (up r ((ls s).take k.1) : Nat)])]) (fun k => s.size - k.1) ⟨0, Nat.zero_le _⟩ ?_ ?_
  · exact weak_hd [] rfl ⟨rfl, rfl, rfl, rfl, trivial⟩ ⟨⟨_, rfl, _, _, rfl, rfl, rfl⟩, trivial⟩ (by repeat' (first | exact trivial | refine ⟨.inr rfl, ?_⟩ | refine ⟨.inl rfl, ?_⟩)) (by kernel_rfl)
  rintro ⟨k, hk⟩
  have hlt : up r ((ls s).take k) < 2 ^ 32 := up_lt (fun x hx => ls_lt s x (List.mem_of_mem_take hx)) hr
  refine Sat.go (Eq.refl _) (NS.ite (fun h => ?_) (fun h => ?_))
  · have h : k < s.size := by have h : (k : Int) < (s.size : Int) := of_decide_eq_true h
                              omega
    have ek : IntKind.i64.wrap ((k : Int) + 1) = ((k + 1 : Nat) : Int) := i64_k (k := k) (n := s.size) (by omega) (by omega)
    have hsn := up_snoc r (ls s) k (by omega)
    have hb := ls_bd s k
    rw [upB_tab _ _ hb] at hsn
    have eb : (((s.data.toList.getD (Int.toNat ((k : Nat) : Int)) 0).toNat : Nat) : Int) = (((ls s).getD k 0 : Nat) : Int) := by rw [← ls_get]; rfl
    refine Sat.go (Eq.refl _) (NS.need (decide_eq_true ⟨Int.natCast_nonneg k, by show (k : Int) < _; omega⟩) ?_)
    refine Sat.go (Eq.refl _) (NS.chk (by kernel_rfl) ?_)
    refine Sat.go (Eq.refl _) (NS.need (rfl) ?_)
    generalize hR : up r ((ls s).take k) = R at *
    generalize hB : (ls s).getD k 0 = b at *
    have hx : R % 256 ^^^ b < 256 := xor_lt (n := 8) (by omega) hb
    have eI : IntKind.u8.wrap ((BitVec.ofInt IntKind.u8.bits (IntKind.u8.wrap (R : Int)) ^^^ BitVec.ofInt IntKind.u8.bits (((s.data.toList.getD (Int.toNat ((k : Nat) : Int)) 0).toNat : Nat) : Int)).toNat : Int) = ((R % 256 ^^^ b : Nat) : Int) := by
      rw [eb, wrap_u8m (R : Int), show (R : Int) % 256 = ((R % 256 : Nat) : Int) by omega, xor8 (by omega) hb]
    refine Sat.go (Eq.refl _) (NS.need (decide_eq_true (by rw [eI]; exact ⟨Int.natCast_nonneg _, by show _ < (256 : Int); omega⟩)) ?_)
    rw [eI]
    refine Sat.go (Eq.refl _) (NS.need (decide_eq_true (show (R % 256 ^^^ b) < 256 from hx)) ?_)
    have eT : (tabI 256 256 0).getD (R % 256 ^^^ b) 0 = ((stN 8 (R % 256 ^^^ b) : Nat) : Int) := by rw [tabI_get 256 256 0 _ hx, Nat.zero_add, if_pos hx]
    have hT := stN_lt (show R % 256 ^^^ b < 2 ^ 32 by omega) 8
    refine Sat.go (Eq.refl _) (NS.next ⟨k + 1, by omega⟩ (by simp only; omega) ?_)
    refine weak_hd [] rfl ⟨rfl, rfl, rfl, ren_int rfl ek, trivial⟩ ⟨⟨_, rfl, _, _, rfl, ren_int rfl ?_, rfl⟩, trivial⟩ (by repeat' (first | exact trivial | refine ⟨.inr rfl, ?_⟩ | refine ⟨.inl rfl, ?_⟩)) (by kernel_rfl)
    show IntKind.u32.wrap ((BitVec.ofInt IntKind.u32.bits ((R : Int).fdiv (2 ^ (min (8 : Int).toNat IntKind.u32.bits))) ^^^ BitVec.ofInt IntKind.u32.bits ((tabI 256 256 0).getD (R % 256 ^^^ b) 0)).toNat : Int) = ((up r ((ls s).take (k + 1)) : Nat) : Int)
    rw [shr8, eT, xor32 (by omega) hT, hsn]
  · obtain rfl : k = s.size := by have h : ¬ (k : Int) < (s.size : Int) := of_decide_eq_false h
                                  omega
    refine Sat.go (Eq.refl _) (NS.leave rfl (Eq.refl _) ?_)
    exact Sat.go (Eq.refl _) (NS.ret rfl rfl (LeA.of (by show A.int .u32 (up r ((ls s).take s.size) : Nat) = _; rw [take_all (by omega)])))
end Go.Proofs.YtdhfgfkfejpfdaaGreat
