/- The contracts of reading texts. -/
import Derived.Test.YtbpdbibnfmdpoaaVF
set_option linter.unusedSimpArgs false
set_option linter.unusedSectionVars false
set_option linter.unusedVariables false
namespace Go.Mb
open Go.Sy
/-- A text at the front: its bytes, the place behind it, the error. -/
def rdT (l : List Nat) : List Nat × Nat × Int :=
  if (lenI l).2.2 != 0 then ([], 0, (lenI l).2.2) else
  if decide (((l.length - (lenI l).2.1 : Nat) : Int) < (lenI l).1) then ([], 0, 12) else
  ((l.drop (lenI l).2.1).take (lenI l).1.toNat, (lenI l).2.1 + (lenI l).1.toNat, 0)
theorem rdT_err {l : List Nat} {a : Int} {b : Nat} {e : Int} (h : lenI l = (a, b, e)) (he : (e != 0) = true) : rdT l = ([], 0, e) := by
  unfold rdT; rw [h, if_pos he]
theorem rdT_short {l : List Nat} {a : Int} {b : Nat} (h : lenI l = (a, b, 0)) (he : ((l.length - b : Nat) : Int) < a) : rdT l = ([], 0, 12) := by
  unfold rdT; rw [h, if_neg (by simp), if_pos (decide_eq_true he)]
theorem rdT_ok {l : List Nat} {a : Int} {b : Nat} (h : lenI l = (a, b, 0)) (he : ¬ ((l.length - b : Nat) : Int) < a) : rdT l = ((l.drop b).take a.toNat, b + a.toNat, 0) := by
  unfold rdT; rw [h, if_neg (by simp), if_neg (by rw [decide_eq_true_eq]; exact he)]
theorem rdT_errI {l : List Nat} {a : Int} {b : Nat} {e : Int} (h : rdI (l.drop 0) = (a, b, e)) (he : (e != 0) = true) : rdT l = ([], 0, e) := by
  have h : rdI l = (a, b, e) := h
  have hl : lenI l = (0, 0, e) := by unfold lenI; simp only; rw [h, if_pos he]
  exact rdT_err hl he
theorem rdT_rng {l : List Nat} {n : Int} {k : Nat} (h : rdI (l.drop 0) = (n, k, 0)) (hn : n < 0 ∨ n > 65536) : rdT l = ([], 0, 11) := by
  have h : rdI l = (n, k, 0) := h
  have hl : lenI l = (0, 0, 11) := by unfold lenI; simp only; rw [h, if_neg (by simp), if_pos (by simp; omega)]
  exact rdT_err hl rfl
end Go.Mb
namespace Go.Proofs.Ytbpdbibnfmdpoaa
open Go.Sy Go.Mb
set_option maxRecDepth 100000
set_option linter.unusedVariables false
set_option maxHeartbeats 4000000

theorem rdT_le {r : List Nat × Nat × Int} {l : List Nat} {e : Int} {k : Nat} {x : ByteArray} (h : r = (l, k, e)) (hx : x = bs l) : LeA (.tup [.str x, .int .i64 (k : Int), .int .i64 e]) (.tup [.str (bs r.1), .int .i64 (r.2.1 : Nat), .int .i64 r.2.2]) := by subst h hx; exact LeA.refl _
theorem rdT_le' {r : List Nat × Nat × Int} {l : List Nat} {e z : Int} {k : Nat} {x : ByteArray} (h : r = (l, k, e)) (hx : x = bs l) (hz : z = (k : Int)) : LeA (.tup [.str x, .int .i64 z, .int .i64 e]) (.tup [.str (bs r.1), .int .i64 (r.2.1 : Nat), .int .i64 r.2.2]) := by subst h hx hz; exact LeA.refl _
theorem mid_bs (s : ByteArray) (k n : Nat) : s.extract (Int.toNat ((k : Nat) : Int)) (Int.toNat ((k + n : Nat) : Int)) = bs (((ls s).drop k).take n) := by
  have h : ls (s.extract k (k + n)) = ((ls s).drop k).take n := by rw [ls_extract, List.drop_take]; congr 1; omega
  rw [← h, bs_ls]; rfl
theorem rReadText_ok (s : ByteArray) (hs : s.size ≤ 1000000) : FnOK Try.prog 46 [.str s] (.tup [.str (bs (rdT (ls s)).1), .int .i64 ((rdT (ls s)).2.1 : Nat), .int .i64 (rdT (ls s)).2.2], none) := by
  have hll := ls_len s
  refine fn_ok VN rfl (by kernel_rfl) Try.func46 rfl ?_
  rcases lenI_cases (ls s) with ⟨n, k, hk⟩ | ⟨e, he, hk⟩
  · have hr := lenI_ok hk
    have hkl := (rdI_ok (ls_lt s) hr.1).2.2.1
    have c := rLength_ok s
    rw [hk] at c
    have e1 : IntKind.i64.wrap ((s.size : Int) - (k : Int)) = (((ls s).length - k : Nat) : Int) := by rw [wrap_i64 (by omega) (by omega)]; omega
    have e2 : IntKind.i64.wrap ((k : Int) + n) = ((k + n.toNat : Nat) : Int) := by rw [wrap_i64 (by omega) (by omega)]; omega
    refine Sat.go (Eq.refl _) (NS.call (c) rfl ?_)
    refine Sat.go (Eq.refl _) (NS.no (rfl) ?_)
    refine Sat.go (Eq.refl _) (NS.ite (fun h => ?_) (fun h => ?_))
    · have h : IntKind.i64.wrap ((s.size : Int) - (k : Int)) < n := of_decide_eq_true h
      rw [e1] at h
      exact Sat.go (Eq.refl _) (NS.ret rfl rfl (rdT_le (k := 0) (rdT_short hk h) rfl))
    · have h : ¬ IntKind.i64.wrap ((s.size : Int) - (k : Int)) < n := of_decide_eq_false h
      rw [e1] at h
      refine Sat.go (Eq.refl _) (NS.need (by simp only [e2]; exact decide_eq_true (by omega)) ?_)
      refine Sat.go (Eq.refl _) (NS.ret rfl rfl (?_))
      rw [e2]
      exact rdT_le (rdT_ok hk h) (mid_bs s k n.toNat)
  · have c := rLength_ok s
    rw [hk] at c
    refine Sat.go (Eq.refl _) (NS.call (c) rfl ?_)
    refine Sat.go (Eq.refl _) (NS.yes (he) ?_)
    exact Sat.go (Eq.refl _) (NS.ret rfl rfl (rdT_le (k := 0) (rdT_err hk he) rfl))
theorem readText_ok (s : ByteArray) (hs : s.size ≤ 1000000) : FnOK Try.prog 71 [.str s] (.tup [.str (bs (rdT (ls s)).1), .int .i64 ((rdT (ls s)).2.1 : Nat), .int .i64 (rdT (ls s)).2.2], none) := by
  have hll := ls_len s
  refine fn_ok VI rfl (by kernel_rfl) Try.func71 rfl ?_
  refine Sat.go (Eq.refl _) (NS.no (rfl) ?_)
  -- the loop of groups, at place 0
  have hbnd : ∀ i, ((ls s).drop 0).getD i 0 < 256 := fun i => by rw [getD_drop]; exact ls_bd s _
  have hlt : ∀ x ∈ (ls s).drop 0, x < 256 := fun x hx => ls_lt s x (List.mem_of_mem_drop hx)
  have hdl : ((ls s).drop 0).length = s.size - 0 := by rw [List.length_drop, ls_len]
  refine Sat.go (Eq.refl _) ?_
  refine NS.loop (σ := { p : Nat × Nat × Bool // if p.2.2 then rdZ 9 ((ls s).drop 0) 0 0 = (0, p.2.1, p.1) ∧ p.2.1 < 2 ^ 63 ∧ 0 < p.1 ∧ p.1 ≤ 9 ∧ p.1 ≤ s.size - 0 else RdU ((ls s).drop 0) p.1 p.2.1 }) (fun p => [(0, .ptr 10 0), (3, .int .i64 p.1.2.1), (4, .int .i64 p.1.1), (5, .bool p.1.2.2)]) (fun p => []) (fun p => if p.1.2.2 then 0 else 10 - p.1.1) ⟨(0, 0, false), RdU.start _⟩ ?_ ?_
  · exact weak_hd [] rfl ⟨rfl, rfl, rfl, .inr rfl, trivial⟩ trivial (by repeat' (first | exact trivial | refine ⟨.inr rfl, ?_⟩ | refine ⟨.inl rfl, ?_⟩)) (by kernel_rfl)
  rintro ⟨⟨i, m, last⟩, u⟩
  simp only at u
  cases last with
  | false =>
    simp only [Bool.false_eq_true, if_false] at u
    have hi := u.le
    refine Sat.go (Eq.refl _) (NS.yes (rfl) ?_)
    refine Sat.go (Eq.refl _) (NS.ite (fun h9 => ?_) (fun h9 => ?_))
    · obtain rfl : i = 9 := by have h9 : (i : Int) = 9 := by simpa using h9
                               omega
      have hrd := u.long
      refine Sat.go (Eq.refl _) (NS.yes (rfl) ?_)
      refine Sat.go (Eq.refl _) (NS.leave rfl (Eq.refl _) ?_)
      have hrt : rdT (ls s) = ([], 0, 11) := rdT_errI hrd rfl
      refine Sat.go (Eq.refl _) (NS.no (rfl) ?_)
      refine Sat.go (Eq.refl _) (NS.no (rfl) ?_)
      refine Sat.go (Eq.refl _) (NS.call (rest_ok s 0 11 (by omega) (by omega)) rfl ?_)
      refine Sat.go (Eq.refl _) (NS.no (decide_eq_false (by show ¬ ((_ : Nat) : Int) < 0; omega)) ?_)
      refine Sat.go (Eq.refl _) (NS.yes (rfl) ?_)
      refine Sat.go (Eq.refl _) (NS.chk (by kernel_rfl) ?_)
      exact Sat.go (Eq.refl _) (NS.ret rfl rfl (rdT_le (k := 0) hrt rfl))
    have h9 : i < 9 := by have h9 : (i : Int) ≠ 9 := by simpa using h9
                          omega
    have hm56 := u.small h9
    refine Sat.go (Eq.refl _) (NS.call (rest_ok s 0 0 (Nat.zero_le _) (by omega)) rfl ?_)
    refine Sat.go (Eq.refl _) (NS.ite (fun h1 => ?_) (fun h1 => ?_))
    · have h1 : ((((ls s).drop 0).length : Nat) : Int) = (i : Int) := eq_of_beq h1
      have h1 : ((ls s).drop 0).length = i := by omega
      have hrd := u.short h9 (by omega)
      refine Sat.go (Eq.refl _) (NS.yes (rfl) ?_)
      refine Sat.go (Eq.refl _) (NS.leave rfl (Eq.refl _) ?_)
      have hrt : rdT (ls s) = ([], 0, 12) := rdT_errI hrd rfl
      refine Sat.go (Eq.refl _) (NS.no (rfl) ?_)
      refine Sat.go (Eq.refl _) (NS.no (rfl) ?_)
      refine Sat.go (Eq.refl _) (NS.call (rest_ok s 0 12 (by omega) (by omega)) rfl ?_)
      refine Sat.go (Eq.refl _) (NS.no (decide_eq_false (by show ¬ ((_ : Nat) : Int) < 0; omega)) ?_)
      refine Sat.go (Eq.refl _) (NS.yes (rfl) ?_)
      refine Sat.go (Eq.refl _) (NS.chk (by kernel_rfl) ?_)
      exact Sat.go (Eq.refl _) (NS.ret rfl rfl (rdT_le (k := 0) hrt rfl))
    have h1 : ((((ls s).drop 0).length : Nat) : Int) ≠ (i : Int) := ne_of_beq_false h1
    have h1 : i < ((ls s).drop 0).length := by have := u.ln; omega
    have ea : IntKind.i64.wrap ((0 : Int) + (i : Int)) = ((0 + i : Nat) : Int) := by rw [wrap_i64 (by omega) (by omega)]; omega
    have hb0 := hbnd i
    have eb : (((s.data.toList.getD (Int.toNat ((0 + i : Nat) : Int)) 0).toNat : Nat) : Int) = ((((ls s).drop 0).getD i 0 : Nat) : Int) := by rw [getD_drop, ← ls_get]; rfl
    refine Sat.go (Eq.refl _) (NS.chk (by kernel_rfl) ?_)
    refine Sat.go (Eq.refl _) (NS.need (by rw [ea]; exact decide_eq_true ⟨Int.natCast_nonneg _, by omega⟩) ?_)
    rw [ea, eb]
    generalize hbb : ((ls s).drop 0).getD i 0 = b at *
    refine Sat.go (Eq.refl _) (NS.need (rfl) ?_)
    have e1 := and127b hb0
    have e2 : IntKind.i64.wrap ((BitVec.ofInt IntKind.i64.bits (IntKind.i64.wrap ((m : Int) * 2 ^ (min (7 : Int).toNat IntKind.i64.bits))) ||| BitVec.ofInt IntKind.i64.bits (IntKind.i64.wrap (IntKind.u8.wrap ((BitVec.ofInt IntKind.u8.bits (b : Int) &&& BitVec.ofInt IntKind.u8.bits 127).toNat : Int)))).toNat : Int) = ((m * 128 + b % 128 : Nat) : Int) := by rw [e1]; exact or7 (by omega) hm56
    have e3 : IntKind.i64.wrap ((i : Int) + 1) = ((i + 1 : Nat) : Int) := i64_k (k := i) (n := 100) (by omega) (by omega)
    by_cases hc : b < 128
    · have hz := u.last h9 h1 (by rw [hbb]; exact hc)
      rw [hbb] at hz
      refine Sat.go (Eq.refl _) (NS.next ⟨(i + 1, m * 128 + b % 128, true), by simp only [if_true]; rw [Nat.mod_eq_of_lt hc]; exact ⟨hz, by omega, by omega, by omega, by omega⟩⟩ (by simp only [Bool.false_eq_true, if_true, if_false]; omega) ?_)
      exact weak_hd [] rfl ⟨rfl, ren_int rfl e2, ren_int rfl e3, ren_bool rfl (decide_eq_true (by show (b : Int) < 128; omega)), trivial⟩ trivial (by repeat' (first | exact trivial | refine ⟨.inr rfl, ?_⟩ | refine ⟨.inl rfl, ?_⟩)) (by kernel_rfl)
    · have hu := u.step hlt h9 h1 (by rw [hbb]; exact hc)
      rw [hbb] at hu
      refine Sat.go (Eq.refl _) (NS.next ⟨(i + 1, m * 128 + b % 128, false), by simp only [Bool.false_eq_true, if_false]; exact hu⟩ (by simp only [Bool.false_eq_true, if_false]; omega) ?_)
      exact weak_hd [] rfl ⟨rfl, ren_int rfl e2, ren_int rfl e3, ren_bool rfl (decide_eq_false (by show ¬ (b : Int) < 128; omega)), trivial⟩ trivial (by repeat' (first | exact trivial | refine ⟨.inr rfl, ?_⟩ | refine ⟨.inl rfl, ?_⟩)) (by kernel_rfl)
  | true =>
    simp only [if_true] at u
    obtain ⟨hz, hM, hi0, hi9, hil⟩ := u
    have hb0 := hbnd 0
    have eb : (((s.data.toList.getD (Int.toNat (0 : Int)) 0).toNat : Nat) : Int) = ((((ls s).drop 0).getD 0 0 : Nat) : Int) := by rw [getD_drop, ← ls_get]; rfl
    refine Sat.go (Eq.refl _) (NS.no (rfl) ?_)
    refine Sat.go (Eq.refl _) (NS.leave rfl (Eq.refl _) ?_)
    refine Sat.go (Eq.refl _) (NS.chk (by kernel_rfl) ?_)
    refine Sat.go (Eq.refl _) (NS.need (decide_eq_true ⟨by show (0 : Int) ≤ (0 : Int); omega, by show (0 : Int) < (s.size : Int); omega⟩) ?_)
    rw [eb]
    refine Sat.go (Eq.refl _) (NS.ite (fun h5 => ?_) (fun h5 => ?_))
    · have h5 : ((((ls s).drop 0).getD 0 0 : Nat) : Int) = 128 := eq_of_beq h5
      have hrd := rdI_bad hz (.inl (by omega))
      refine Sat.go (Eq.refl _) (NS.yes (rfl) ?_)
      have hrt : rdT (ls s) = ([], 0, 11) := rdT_errI hrd rfl
      refine Sat.go (Eq.refl _) (NS.no (rfl) ?_)
      refine Sat.go (Eq.refl _) (NS.no (rfl) ?_)
      refine Sat.go (Eq.refl _) (NS.call (rest_ok s 0 11 (by omega) (by omega)) rfl ?_)
      refine Sat.go (Eq.refl _) (NS.no (decide_eq_false (by show ¬ ((_ : Nat) : Int) < 0; omega)) ?_)
      refine Sat.go (Eq.refl _) (NS.yes (rfl) ?_)
      refine Sat.go (Eq.refl _) (NS.chk (by kernel_rfl) ?_)
      exact Sat.go (Eq.refl _) (NS.ret rfl rfl (rdT_le (k := 0) hrt rfl))
    have h5 : ((((ls s).drop 0).getD 0 0 : Nat) : Int) ≠ 128 := ne_of_beq_false h5
    refine Sat.go (Eq.refl _) (NS.need (rfl) ?_)
    rw [shr1]
    have e1 := and1 hM
    refine Sat.go (Eq.refl _) (NS.ite (fun h6 => ?_) (fun h6 => ?_))
    · rw [e1] at h6
      have h6 : ((m % 2 : Nat) : Int) = 1 := eq_of_beq h6
      have eu : IntKind.i64.wrap (IntKind.i64.wrap (0 - ((m / 2 : Nat) : Int)) - 1) = unz m := by
        unfold unz; rw [if_pos (by omega), wrap_i64 (n := 0 - ((m / 2 : Nat) : Int)) (by omega) (by omega), wrap_i64 (by omega) (by omega)]; omega
      refine Sat.go (Eq.refl _) (NS.no (decide_eq_false (by show ¬ (m : Int) < 0; omega)) ?_)
      rw [eu]
      refine Sat.go (Eq.refl _) (NS.call (inRange_ok (unz m)) rfl ?_)
      refine Sat.go (Eq.refl _) (NS.ite (fun h7 => ?_) (fun h7 => ?_))
      · have hrd := rdI_bad hz (.inr (not_t h7))
        refine Sat.go (Eq.refl _) (NS.yes (rfl) ?_)
        have hrt : rdT (ls s) = ([], 0, 11) := rdT_errI hrd rfl
        refine Sat.go (Eq.refl _) (NS.no (rfl) ?_)
        refine Sat.go (Eq.refl _) (NS.no (rfl) ?_)
        refine Sat.go (Eq.refl _) (NS.call (rest_ok s 0 11 (by omega) (by omega)) rfl ?_)
        refine Sat.go (Eq.refl _) (NS.no (decide_eq_false (by show ¬ ((_ : Nat) : Int) < 0; omega)) ?_)
        refine Sat.go (Eq.refl _) (NS.yes (rfl) ?_)
        refine Sat.go (Eq.refl _) (NS.chk (by kernel_rfl) ?_)
        exact Sat.go (Eq.refl _) (NS.ret rfl rfl (rdT_le (k := 0) hrt rfl))
      have h7 := not_f h7
      have hrd := rdI_good hz (by omega) h7
      have ek : IntKind.i64.wrap ((0 : Int) + (i : Int)) = ((0 + i : Nat) : Int) := by rw [wrap_i64 (by omega) (by omega)]; omega
      refine Sat.go (Eq.refl _) (NS.ite (fun g1 => ?_) (fun g1 => ?_))
      · have g1 : unz m < 0 := of_decide_eq_true g1
        refine Sat.go (Eq.refl _) (NS.yes (rfl) ?_)
        have hrt : rdT (ls s) = ([], 0, 11) := rdT_rng hrd (by omega)
        refine Sat.go (Eq.refl _) ?_
        rw [ek]
        refine NS.call (rest_ok s (0 + i) 11 (by omega) (by omega)) rfl ?_
        refine Sat.go (Eq.refl _) (NS.no (decide_eq_false (by show ¬ ((_ : Nat) : Int) < 0; omega)) ?_)
        refine Sat.go (Eq.refl _) (NS.yes (rfl) ?_)
        refine Sat.go (Eq.refl _) (NS.chk (by kernel_rfl) ?_)
        exact Sat.go (Eq.refl _) (NS.ret rfl rfl (rdT_le (k := 0) hrt rfl))
      have g1 : ¬ unz m < 0 := of_decide_eq_false g1
      refine Sat.go (Eq.refl _) (NS.ite (fun g2 => ?_) (fun g2 => ?_))
      · have g2 : unz m > 65536 := of_decide_eq_true g2
        refine Sat.go (Eq.refl _) (NS.yes (rfl) ?_)
        have hrt : rdT (ls s) = ([], 0, 11) := rdT_rng hrd (by omega)
        refine Sat.go (Eq.refl _) ?_
        rw [ek]
        refine NS.call (rest_ok s (0 + i) 11 (by omega) (by omega)) rfl ?_
        refine Sat.go (Eq.refl _) (NS.no (decide_eq_false (by show ¬ ((_ : Nat) : Int) < 0; omega)) ?_)
        refine Sat.go (Eq.refl _) (NS.yes (rfl) ?_)
        refine Sat.go (Eq.refl _) (NS.chk (by kernel_rfl) ?_)
        exact Sat.go (Eq.refl _) (NS.ret rfl rfl (rdT_le (k := 0) hrt rfl))
      have g2 : ¬ unz m > 65536 := of_decide_eq_false g2
      have hrd : rdI (ls s) = (unz m, i, 0) := hrd
      have hle : lenI (ls s) = (unz m, i, 0) := by unfold lenI; simp only; rw [hrd, if_neg (by simp), if_neg (by simp; omega)]
      generalize unz m = n at *
      refine Sat.go (Eq.refl _) ?_
      rw [ek]
      refine NS.call (rest_ok s (0 + i) 0 (by omega) (by omega)) rfl ?_
      have e0 : ((ls s).drop (0 + i)).length = (ls s).length - i := by rw [List.length_drop, Nat.zero_add]
      refine Sat.go (Eq.refl _) (NS.ite (fun h4 => ?_) (fun h4 => ?_))
      · have h4 : ((((ls s).drop (0 + i)).length : Nat) : Int) < n := of_decide_eq_true h4
        rw [e0] at h4
        refine Sat.go (Eq.refl _) (NS.yes (rfl) ?_)
        refine Sat.go (Eq.refl _) (NS.yes (rfl) ?_)
        refine Sat.go (Eq.refl _) (NS.chk (by kernel_rfl) ?_)
        exact Sat.go (Eq.refl _) (NS.ret rfl rfl (rdT_le (k := 0) (rdT_short hle h4) rfl))
      have h4 : ¬ ((((ls s).drop (0 + i)).length : Nat) : Int) < n := of_decide_eq_false h4
      rw [e0] at h4
      have e2 : IntKind.i64.wrap (((0 + i : Nat) : Int) + n) = ((0 + i + n.toNat : Nat) : Int) := by rw [wrap_i64 (by omega) (by omega)]; omega
      refine Sat.go (Eq.refl _) (NS.no (rfl) ?_)
      refine Sat.go (Eq.refl _) (NS.chk (by kernel_rfl) ?_)
      refine Sat.go (Eq.refl _) (NS.need (by simp only [e2]; exact decide_eq_true (by omega)) ?_)
      refine Sat.go (Eq.refl _) (NS.ret rfl rfl (?_))
      rw [e2]
      refine rdT_le' (rdT_ok hle h4) ?_ (by rw [Nat.zero_add])
      rw [mid_bs, Nat.zero_add]
    · rw [e1] at h6
      have h6 : ((m % 2 : Nat) : Int) ≠ 1 := ne_of_beq_false h6
      have eu : ((m / 2 : Nat) : Int) = unz m := by unfold unz; rw [if_neg (by omega)]
      refine Sat.go (Eq.refl _) (NS.no (decide_eq_false (by show ¬ (m : Int) < 0; omega)) ?_)
      rw [eu]
      refine Sat.go (Eq.refl _) (NS.call (inRange_ok (unz m)) rfl ?_)
      refine Sat.go (Eq.refl _) (NS.ite (fun h7 => ?_) (fun h7 => ?_))
      · have hrd := rdI_bad hz (.inr (not_t h7))
        refine Sat.go (Eq.refl _) (NS.yes (rfl) ?_)
        have hrt : rdT (ls s) = ([], 0, 11) := rdT_errI hrd rfl
        refine Sat.go (Eq.refl _) (NS.no (rfl) ?_)
        refine Sat.go (Eq.refl _) (NS.no (rfl) ?_)
        refine Sat.go (Eq.refl _) (NS.call (rest_ok s 0 11 (by omega) (by omega)) rfl ?_)
        refine Sat.go (Eq.refl _) (NS.no (decide_eq_false (by show ¬ ((_ : Nat) : Int) < 0; omega)) ?_)
        refine Sat.go (Eq.refl _) (NS.yes (rfl) ?_)
        refine Sat.go (Eq.refl _) (NS.chk (by kernel_rfl) ?_)
        exact Sat.go (Eq.refl _) (NS.ret rfl rfl (rdT_le (k := 0) hrt rfl))
      have h7 := not_f h7
      have hrd := rdI_good hz (by omega) h7
      have ek : IntKind.i64.wrap ((0 : Int) + (i : Int)) = ((0 + i : Nat) : Int) := by rw [wrap_i64 (by omega) (by omega)]; omega
      refine Sat.go (Eq.refl _) (NS.ite (fun g1 => ?_) (fun g1 => ?_))
      · have g1 : unz m < 0 := of_decide_eq_true g1
        refine Sat.go (Eq.refl _) (NS.yes (rfl) ?_)
        have hrt : rdT (ls s) = ([], 0, 11) := rdT_rng hrd (by omega)
        refine Sat.go (Eq.refl _) ?_
        rw [ek]
        refine NS.call (rest_ok s (0 + i) 11 (by omega) (by omega)) rfl ?_
        refine Sat.go (Eq.refl _) (NS.no (decide_eq_false (by show ¬ ((_ : Nat) : Int) < 0; omega)) ?_)
        refine Sat.go (Eq.refl _) (NS.yes (rfl) ?_)
        refine Sat.go (Eq.refl _) (NS.chk (by kernel_rfl) ?_)
        exact Sat.go (Eq.refl _) (NS.ret rfl rfl (rdT_le (k := 0) hrt rfl))
      have g1 : ¬ unz m < 0 := of_decide_eq_false g1
      refine Sat.go (Eq.refl _) (NS.ite (fun g2 => ?_) (fun g2 => ?_))
      · have g2 : unz m > 65536 := of_decide_eq_true g2
        refine Sat.go (Eq.refl _) (NS.yes (rfl) ?_)
        have hrt : rdT (ls s) = ([], 0, 11) := rdT_rng hrd (by omega)
        refine Sat.go (Eq.refl _) ?_
        rw [ek]
        refine NS.call (rest_ok s (0 + i) 11 (by omega) (by omega)) rfl ?_
        refine Sat.go (Eq.refl _) (NS.no (decide_eq_false (by show ¬ ((_ : Nat) : Int) < 0; omega)) ?_)
        refine Sat.go (Eq.refl _) (NS.yes (rfl) ?_)
        refine Sat.go (Eq.refl _) (NS.chk (by kernel_rfl) ?_)
        exact Sat.go (Eq.refl _) (NS.ret rfl rfl (rdT_le (k := 0) hrt rfl))
      have g2 : ¬ unz m > 65536 := of_decide_eq_false g2
      have hrd : rdI (ls s) = (unz m, i, 0) := hrd
      have hle : lenI (ls s) = (unz m, i, 0) := by unfold lenI; simp only; rw [hrd, if_neg (by simp), if_neg (by simp; omega)]
      generalize unz m = n at *
      refine Sat.go (Eq.refl _) ?_
      rw [ek]
      refine NS.call (rest_ok s (0 + i) 0 (by omega) (by omega)) rfl ?_
      have e0 : ((ls s).drop (0 + i)).length = (ls s).length - i := by rw [List.length_drop, Nat.zero_add]
      refine Sat.go (Eq.refl _) (NS.ite (fun h4 => ?_) (fun h4 => ?_))
      · have h4 : ((((ls s).drop (0 + i)).length : Nat) : Int) < n := of_decide_eq_true h4
        rw [e0] at h4
        refine Sat.go (Eq.refl _) (NS.yes (rfl) ?_)
        refine Sat.go (Eq.refl _) (NS.yes (rfl) ?_)
        refine Sat.go (Eq.refl _) (NS.chk (by kernel_rfl) ?_)
        exact Sat.go (Eq.refl _) (NS.ret rfl rfl (rdT_le (k := 0) (rdT_short hle h4) rfl))
      have h4 : ¬ ((((ls s).drop (0 + i)).length : Nat) : Int) < n := of_decide_eq_false h4
      rw [e0] at h4
      have e2 : IntKind.i64.wrap (((0 + i : Nat) : Int) + n) = ((0 + i + n.toNat : Nat) : Int) := by rw [wrap_i64 (by omega) (by omega)]; omega
      refine Sat.go (Eq.refl _) (NS.no (rfl) ?_)
      refine Sat.go (Eq.refl _) (NS.chk (by kernel_rfl) ?_)
      refine Sat.go (Eq.refl _) (NS.need (by simp only [e2]; exact decide_eq_true (by omega)) ?_)
      refine Sat.go (Eq.refl _) (NS.ret rfl rfl (?_))
      rw [e2]
      refine rdT_le' (rdT_ok hle h4) ?_ (by rw [Nat.zero_add])
      rw [mid_bs, Nat.zero_add]
end Go.Proofs.Ytbpdbibnfmdpoaa
