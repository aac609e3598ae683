/- The contract of reading a list. -/
import Derived.Test.YtbpdbibnfmdpoaaVE
set_option linter.unusedSimpArgs false
set_option linter.unusedSectionVars false
set_option linter.unusedVariables false
namespace Go.Proofs.Ytbpdbibnfmdpoaa
open Go.Sy Go.Mb
set_option maxRecDepth 100000
set_option linter.unusedVariables false
set_option maxHeartbeats 4000000

theorem rdL_rng {l : List Nat} {n : Int} {k : Nat} (h : rdI (l.drop 0) = (n, k, 0)) (hn : n < 0 ∨ n > 65536) : rdL l = ([], 0, 11) := by
  have h : rdI l = (n, k, 0) := h
  have hl : lenI l = (0, 0, 11) := by unfold lenI; simp only; rw [h, if_neg (by simp), if_pos (by simp; omega)]
  unfold rdL; rw [hl]; rfl
theorem rdL_err {l : List Nat} {a : Int} {b : Nat} {e : Int} (h : rdI (l.drop 0) = (a, b, e)) (he : (e != 0) = true) : rdL l = ([], 0, e) := by
  have h : rdI l = (a, b, e) := h
  have hl : lenI l = (0, 0, e) := by unfold lenI; simp only; rw [h, if_pos he]
  unfold rdL; rw [hl, if_pos he]
theorem readList_ok (s : ByteArray) (hs : s.size ≤ 1000000) : FnOK Try.prog 72 [.str s] (.tup [slN (rdL (ls s)).1, .int .i64 ((rdL (ls s)).2.1 : Nat), .int .i64 (rdL (ls s)).2.2], none) := by
  have hll := ls_len s
  refine fn_ok VI rfl (by kernel_rfl) Try.func72 rfl ?_
  refine Sat.go (Eq.refl _) (NS.no (rfl) ?_)
  -- the loop of groups, at place 0
  have hbnd : ∀ i, ((ls s).drop 0).getD i 0 < 256 := fun i => by rw [getD_drop]; exact ls_bd s _
  have hlt : ∀ x ∈ (ls s).drop 0, x < 256 := fun x hx => ls_lt s x (List.mem_of_mem_drop hx)
  have hdl : ((ls s).drop 0).length = s.size - 0 := by rw [List.length_drop, ls_len]
  refine Sat.go (Eq.refl _) ?_
  refine NS.loop (σ := { p : Nat × Nat × Bool // if p.2.2 then rdZ 9 ((ls s).drop 0) 0 0 = (0, p.2.1, p.1) ∧ p.2.1 < 2 ^ 63 ∧ 0 < p.1 ∧ p.1 ≤ 9 ∧ p.1 ≤ s.size - 0 else RdU ((ls s).drop 0) p.1 p.2.1 }) (fun p => [(0, .ptr 12 0), (3, .int .i64 p.1.2.1), (4, .int .i64 p.1.1), (5, .bool p.1.2.2)]) (fun p => []) (fun p => if p.1.2.2 then 0 else 10 - p.1.1) ⟨(0, 0, false), RdU.start _⟩ ?_ ?_
  · exact weak_hd [] rfl ⟨rfl, rfl, rfl, .inr rfl, trivial⟩ trivial (by repeat' (first | exact trivial | refine ⟨.inr rfl, ?_⟩ | refine ⟨.inl rfl, ?_⟩)) (by kernel_rfl)
  rintro ⟨⟨i, m, last⟩, u⟩
  simp only at u
  cases last with
  | false =>
    simp only [Bool.false_eq_true, if_false] at u
    have hi := u.le
    refine Sat.go (Eq.refl _) (NS.yes (rfl) ?_)
    refine Sat.go (Eq.refl _) (NS.ite (fun h9 => ?_) (fun h9 => ?_))
    · obtain rfl : i = 9 := by have h9 : (i : Int) = 9 := by simpa using h9
                               omega
      have hrd := u.long
      refine Sat.go (Eq.refl _) (NS.yes (rfl) ?_)
      refine Sat.go (Eq.refl _) (NS.leave rfl (Eq.refl _) ?_)
      have hrl : rdL (ls s) = _ := rdL_err hrd rfl
      refine Sat.go (Eq.refl _) (NS.no (rfl) ?_)
      refine Sat.go (Eq.refl _) (NS.no (rfl) ?_)
      refine Sat.go (Eq.refl _) ?_
      refine NS.loop (σ := Unit) (fun _ => [(5, .ptr 12 0), (6, .int .i64 0), (8, .int .i64 0)]) (fun _ => [(12, .box [.str s, .int .i64 0, .int .i64 11])]) (fun _ => 0) () ?_ ?_
      · exact weak_hd [] rfl ⟨rfl, rfl, rfl, trivial⟩ ⟨⟨_, rfl, _, _, rfl, rfl, _, _, rfl, rfl, _, _, rfl, rfl, rfl⟩, trivial⟩ trivial (by kernel_rfl)
      intro _
      refine Sat.go (Eq.refl _) (NS.no (rfl) ?_)
      refine Sat.go (Eq.refl _) (NS.leave rfl (Eq.refl _) ?_)
      refine Sat.go (Eq.refl _) (NS.yes (rfl) ?_)
      refine Sat.go (Eq.refl _) (NS.chk (by kernel_rfl) ?_)
      exact Sat.go (Eq.refl _) (NS.ret rfl rfl (rdL_le hrl (LeA.nil' rfl)))
    have h9 : i < 9 := by have h9 : (i : Int) ≠ 9 := by simpa using h9
                          omega
    have hm56 := u.small h9
    refine Sat.go (Eq.refl _) (NS.call (rest_ok s 0 0 (Nat.zero_le _) (by omega)) rfl ?_)
    refine Sat.go (Eq.refl _) (NS.ite (fun h1 => ?_) (fun h1 => ?_))
    · have h1 : ((((ls s).drop 0).length : Nat) : Int) = (i : Int) := eq_of_beq h1
      have h1 : ((ls s).drop 0).length = i := by omega
      have hrd := u.short h9 (by omega)
      refine Sat.go (Eq.refl _) (NS.yes (rfl) ?_)
      refine Sat.go (Eq.refl _) (NS.leave rfl (Eq.refl _) ?_)
      have hrl : rdL (ls s) = _ := rdL_err hrd rfl
      refine Sat.go (Eq.refl _) (NS.no (rfl) ?_)
      refine Sat.go (Eq.refl _) (NS.no (rfl) ?_)
      refine Sat.go (Eq.refl _) ?_
      refine NS.loop (σ := Unit) (fun _ => [(5, .ptr 12 0), (6, .int .i64 0), (8, .int .i64 0)]) (fun _ => [(12, .box [.str s, .int .i64 0, .int .i64 12])]) (fun _ => 0) () ?_ ?_
      · exact weak_hd [] rfl ⟨rfl, rfl, rfl, trivial⟩ ⟨⟨_, rfl, _, _, rfl, rfl, _, _, rfl, rfl, _, _, rfl, rfl, rfl⟩, trivial⟩ trivial (by kernel_rfl)
      intro _
      refine Sat.go (Eq.refl _) (NS.no (rfl) ?_)
      refine Sat.go (Eq.refl _) (NS.leave rfl (Eq.refl _) ?_)
      refine Sat.go (Eq.refl _) (NS.yes (rfl) ?_)
      refine Sat.go (Eq.refl _) (NS.chk (by kernel_rfl) ?_)
      exact Sat.go (Eq.refl _) (NS.ret rfl rfl (rdL_le hrl (LeA.nil' rfl)))
    have h1 : ((((ls s).drop 0).length : Nat) : Int) ≠ (i : Int) := ne_of_beq_false h1
    have h1 : i < ((ls s).drop 0).length := by have := u.ln; omega
    have ea : IntKind.i64.wrap ((0 : Int) + (i : Int)) = ((0 + i : Nat) : Int) := by rw [wrap_i64 (by omega) (by omega)]; omega
    have hb0 := hbnd i
    have eb : (((s.data.toList.getD (Int.toNat ((0 + i : Nat) : Int)) 0).toNat : Nat) : Int) = ((((ls s).drop 0).getD i 0 : Nat) : Int) := by rw [getD_drop, ← ls_get]; rfl
    refine Sat.go (Eq.refl _) (NS.chk (by kernel_rfl) ?_)
    refine Sat.go (Eq.refl _) (NS.need (by rw [ea]; exact decide_eq_true ⟨Int.natCast_nonneg _, by omega⟩) ?_)
    rw [ea, eb]
    generalize hbb : ((ls s).drop 0).getD i 0 = b at *
    refine Sat.go (Eq.refl _) (NS.need (rfl) ?_)
    have e1 := and127b hb0
    have e2 : IntKind.i64.wrap ((BitVec.ofInt IntKind.i64.bits (IntKind.i64.wrap ((m : Int) * 2 ^ (min (7 : Int).toNat IntKind.i64.bits))) ||| BitVec.ofInt IntKind.i64.bits (IntKind.i64.wrap (IntKind.u8.wrap ((BitVec.ofInt IntKind.u8.bits (b : Int) &&& BitVec.ofInt IntKind.u8.bits 127).toNat : Int)))).toNat : Int) = ((m * 128 + b % 128 : Nat) : Int) := by rw [e1]; exact or7 (by omega) hm56
    have e3 : IntKind.i64.wrap ((i : Int) + 1) = ((i + 1 : Nat) : Int) := i64_k (k := i) (n := 100) (by omega) (by omega)
    by_cases hc : b < 128
    · have hz := u.last h9 h1 (by rw [hbb]; exact hc)
      rw [hbb] at hz
      refine Sat.go (Eq.refl _) (NS.next ⟨(i + 1, m * 128 + b % 128, true), by simp only [if_true]; rw [Nat.mod_eq_of_lt hc]; exact ⟨hz, by omega, by omega, by omega, by omega⟩⟩ (by simp only [Bool.false_eq_true, if_true, if_false]; omega) ?_)
      exact weak_hd [] rfl ⟨rfl, ren_int rfl e2, ren_int rfl e3, ren_bool rfl (decide_eq_true (by show (b : Int) < 128; omega)), trivial⟩ trivial (by repeat' (first | exact trivial | refine ⟨.inr rfl, ?_⟩ | refine ⟨.inl rfl, ?_⟩)) (by kernel_rfl)
    · have hu := u.step hlt h9 h1 (by rw [hbb]; exact hc)
      rw [hbb] at hu
      refine Sat.go (Eq.refl _) (NS.next ⟨(i + 1, m * 128 + b % 128, false), by simp only [Bool.false_eq_true, if_false]; exact hu⟩ (by simp only [Bool.false_eq_true, if_false]; omega) ?_)
      exact weak_hd [] rfl ⟨rfl, ren_int rfl e2, ren_int rfl e3, ren_bool rfl (decide_eq_false (by show ¬ (b : Int) < 128; omega)), trivial⟩ trivial (by repeat' (first | exact trivial | refine ⟨.inr rfl, ?_⟩ | refine ⟨.inl rfl, ?_⟩)) (by kernel_rfl)
  | true =>
    simp only [if_true] at u
    obtain ⟨hz, hM, hi0, hi9, hil⟩ := u
    have hb0 := hbnd 0
    have eb : (((s.data.toList.getD (Int.toNat (0 : Int)) 0).toNat : Nat) : Int) = ((((ls s).drop 0).getD 0 0 : Nat) : Int) := by rw [getD_drop, ← ls_get]; rfl
    refine Sat.go (Eq.refl _) (NS.no (rfl) ?_)
    refine Sat.go (Eq.refl _) (NS.leave rfl (Eq.refl _) ?_)
    refine Sat.go (Eq.refl _) (NS.chk (by kernel_rfl) ?_)
    refine Sat.go (Eq.refl _) (NS.need (decide_eq_true ⟨by show (0 : Int) ≤ (0 : Int); omega, by show (0 : Int) < (s.size : Int); omega⟩) ?_)
    rw [eb]
    refine Sat.go (Eq.refl _) (NS.ite (fun h5 => ?_) (fun h5 => ?_))
    · have h5 : ((((ls s).drop 0).getD 0 0 : Nat) : Int) = 128 := eq_of_beq h5
      have hrd := rdI_bad hz (.inl (by omega))
      refine Sat.go (Eq.refl _) (NS.yes (rfl) ?_)
      have hrl : rdL (ls s) = _ := rdL_err hrd rfl
      refine Sat.go (Eq.refl _) (NS.no (rfl) ?_)
      refine Sat.go (Eq.refl _) (NS.no (rfl) ?_)
      refine Sat.go (Eq.refl _) ?_
      refine NS.loop (σ := Unit) (fun _ => [(5, .ptr 12 0), (6, .int .i64 0), (8, .int .i64 0)]) (fun _ => [(12, .box [.str s, .int .i64 0, .int .i64 11])]) (fun _ => 0) () ?_ ?_
      · exact weak_hd [] rfl ⟨rfl, rfl, rfl, trivial⟩ ⟨⟨_, rfl, _, _, rfl, rfl, _, _, rfl, rfl, _, _, rfl, rfl, rfl⟩, trivial⟩ trivial (by kernel_rfl)
      intro _
      refine Sat.go (Eq.refl _) (NS.no (rfl) ?_)
      refine Sat.go (Eq.refl _) (NS.leave rfl (Eq.refl _) ?_)
      refine Sat.go (Eq.refl _) (NS.yes (rfl) ?_)
      refine Sat.go (Eq.refl _) (NS.chk (by kernel_rfl) ?_)
      exact Sat.go (Eq.refl _) (NS.ret rfl rfl (rdL_le hrl (LeA.nil' rfl)))
    have h5 : ((((ls s).drop 0).getD 0 0 : Nat) : Int) ≠ 128 := ne_of_beq_false h5
    refine Sat.go (Eq.refl _) (NS.need (rfl) ?_)
    rw [shr1]
    have e1 := and1 hM
    refine Sat.go (Eq.refl _) (NS.ite (fun h6 => ?_) (fun h6 => ?_))
    · rw [e1] at h6
      have h6 : ((m % 2 : Nat) : Int) = 1 := eq_of_beq h6
      have eu : IntKind.i64.wrap (IntKind.i64.wrap (0 - ((m / 2 : Nat) : Int)) - 1) = unz m := by
        unfold unz; rw [if_pos (by omega), wrap_i64 (n := 0 - ((m / 2 : Nat) : Int)) (by omega) (by omega), wrap_i64 (by omega) (by omega)]; omega
      refine Sat.go (Eq.refl _) (NS.no (decide_eq_false (by show ¬ (m : Int) < 0; omega)) ?_)
      rw [eu]
      refine Sat.go (Eq.refl _) (NS.call (inRange_ok (unz m)) rfl ?_)
      refine Sat.go (Eq.refl _) (NS.ite (fun h7 => ?_) (fun h7 => ?_))
      · have hrd := rdI_bad hz (.inr (not_t h7))
        refine Sat.go (Eq.refl _) (NS.yes (rfl) ?_)
        have hrl : rdL (ls s) = _ := rdL_err hrd rfl
        refine Sat.go (Eq.refl _) (NS.no (rfl) ?_)
        refine Sat.go (Eq.refl _) (NS.no (rfl) ?_)
        refine Sat.go (Eq.refl _) ?_
        refine NS.loop (σ := Unit) (fun _ => [(5, .ptr 12 0), (6, .int .i64 0), (8, .int .i64 0)]) (fun _ => [(12, .box [.str s, .int .i64 0, .int .i64 11])]) (fun _ => 0) () ?_ ?_
        · exact weak_hd [] rfl ⟨rfl, rfl, rfl, trivial⟩ ⟨⟨_, rfl, _, _, rfl, rfl, _, _, rfl, rfl, _, _, rfl, rfl, rfl⟩, trivial⟩ trivial (by kernel_rfl)
        intro _
        refine Sat.go (Eq.refl _) (NS.no (rfl) ?_)
        refine Sat.go (Eq.refl _) (NS.leave rfl (Eq.refl _) ?_)
        refine Sat.go (Eq.refl _) (NS.yes (rfl) ?_)
        refine Sat.go (Eq.refl _) (NS.chk (by kernel_rfl) ?_)
        exact Sat.go (Eq.refl _) (NS.ret rfl rfl (rdL_le hrl (LeA.nil' rfl)))
      have h7 := not_f h7
      have hrd := rdI_good hz (by omega) h7
      have ek : IntKind.i64.wrap ((0 : Int) + (i : Int)) = ((0 + i : Nat) : Int) := by rw [wrap_i64 (by omega) (by omega)]; omega
      refine Sat.go (Eq.refl _) (NS.ite (fun g1 => ?_) (fun g1 => ?_))
      · have g1 : unz m < 0 := of_decide_eq_true g1
        refine Sat.go (Eq.refl _) (NS.yes (rfl) ?_)
        have hrl : rdL (ls s) = ([], 0, 11) := rdL_rng hrd (by omega)
        refine Sat.go (Eq.refl _) ?_
        refine NS.loop (σ := Unit) (fun _ => [(5, .ptr 12 0), (6, .int .i64 0), (8, .int .i64 0)]) (fun _ => [(12, .box [.str s, .int .i64 (IntKind.i64.wrap (0 + (i : Int))), .int .i64 11])]) (fun _ => 0) () ?_ ?_
        · exact weak_hd [] rfl ⟨rfl, rfl, rfl, trivial⟩ ⟨⟨_, rfl, _, _, rfl, rfl, _, _, rfl, rfl, _, _, rfl, rfl, rfl⟩, trivial⟩ trivial (by kernel_rfl)
        intro _
        refine Sat.go (Eq.refl _) (NS.no (rfl) ?_)
        refine Sat.go (Eq.refl _) (NS.leave rfl (Eq.refl _) ?_)
        refine Sat.go (Eq.refl _) (NS.yes (rfl) ?_)
        refine Sat.go (Eq.refl _) (NS.chk (by kernel_rfl) ?_)
        exact Sat.go (Eq.refl _) (NS.ret rfl rfl (rdL_le hrl (LeA.nil' rfl)))
      have g1 : ¬ unz m < 0 := of_decide_eq_false g1
      refine Sat.go (Eq.refl _) (NS.ite (fun g2 => ?_) (fun g2 => ?_))
      · have g2 : unz m > 65536 := of_decide_eq_true g2
        refine Sat.go (Eq.refl _) (NS.yes (rfl) ?_)
        have hrl : rdL (ls s) = ([], 0, 11) := rdL_rng hrd (by omega)
        refine Sat.go (Eq.refl _) ?_
        refine NS.loop (σ := Unit) (fun _ => [(5, .ptr 12 0), (6, .int .i64 0), (8, .int .i64 0)]) (fun _ => [(12, .box [.str s, .int .i64 (IntKind.i64.wrap (0 + (i : Int))), .int .i64 11])]) (fun _ => 0) () ?_ ?_
        · exact weak_hd [] rfl ⟨rfl, rfl, rfl, trivial⟩ ⟨⟨_, rfl, _, _, rfl, rfl, _, _, rfl, rfl, _, _, rfl, rfl, rfl⟩, trivial⟩ trivial (by kernel_rfl)
        intro _
        refine Sat.go (Eq.refl _) (NS.no (rfl) ?_)
        refine Sat.go (Eq.refl _) (NS.leave rfl (Eq.refl _) ?_)
        refine Sat.go (Eq.refl _) (NS.yes (rfl) ?_)
        refine Sat.go (Eq.refl _) (NS.chk (by kernel_rfl) ?_)
        exact Sat.go (Eq.refl _) (NS.ret rfl rfl (rdL_le hrl (LeA.nil' rfl)))
      have g2 : ¬ unz m > 65536 := of_decide_eq_false g2
      have hrd : rdI (ls s) = (unz m, i, 0) := hrd
      have hle : lenI (ls s) = (unz m, i, 0) := by unfold lenI; simp only; rw [hrd, if_neg (by simp), if_neg (by simp; omega)]
      generalize unz m = n at *
      refine Sat.go (Eq.refl _) ?_
      refine NS.loop (σ := { p : Nat × Nat × List Int × Option Int // match p.2.2.2 with | none => RdQ (ls s) n.toNat p.1 p.2.1 p.2.2.1 | some e => rdL (ls s) = ([], 0, e) ∧ (e != 0) = true }) (fun p => [(5, .ptr 12 0), (6, .int .i64 n), (7, .own 7), (8, .int .i64 p.1.1)]) (fun p => [(12, .box [.str s, .int .i64 (p.1.2.1 : Nat), .int .i64 (match p.1.2.2.2 with | none => 0 | some e => e)]), (7, .row 3 1 p.1.2.2.1.length (rowL nC p.1.2.2.1))]) (fun p => n.toNat + 1 - p.1.1) ⟨(0, i, [], none), RdQ.start (ls_lt s) hle⟩ ?_ ?_
      · refine (weak_promote 7 7 3 1 (rowL nC []) rfl rfl).trans ?_
        exact weak_hd [] rfl ⟨rfl, rfl, rfl, rfl, trivial⟩ ⟨⟨_, rfl, _, _, rfl, rfl, _, _, rfl, ren_int rfl (ek.trans (by rw [Nat.zero_add])), _, _, rfl, rfl, rfl⟩, ren_row rfl rfl fun _ _ _ _ => rfl, trivial⟩ trivial (by kernel_rfl)
      rintro ⟨⟨q, k, acc, er⟩, u⟩
      simp only at u
      cases er with
      | some e =>
        simp only at u
        have ue : (e == 0) = false := by have := u.2; simpa using this
        refine Sat.go (Eq.refl _) (NS.ite (fun h4 => ?_) (fun h4 => ?_))
        · refine Sat.go (Eq.refl _) (NS.no (ue) ?_)
          refine Sat.go (Eq.refl _) (NS.leave rfl (Eq.refl _) ?_)
          refine Sat.go (Eq.refl _) (NS.yes (u.2) ?_)
          refine Sat.go (Eq.refl _) (NS.chk (by kernel_rfl) ?_)
          exact Sat.go (Eq.refl _) (NS.ret rfl rfl (rdL_le u.1 (LeA.nil' rfl)))
        · refine Sat.go (Eq.refl _) (NS.leave rfl (Eq.refl _) ?_)
          refine Sat.go (Eq.refl _) (NS.yes (u.2) ?_)
          refine Sat.go (Eq.refl _) (NS.chk (by kernel_rfl) ?_)
          exact Sat.go (Eq.refl _) (NS.ret rfl rfl (rdL_le u.1 (LeA.nil' rfl)))
      | none =>
        simp only at u
        have hq := u.le
        have hk := u.kl
        have hal := u.ln
        have ue := fun (hq : q < n.toNat) {a : Int} {b : Nat} {e : Int} => u.err hq (a := a) (b := b) (e := e)
        have un := fun (hq : q < n.toNat) {a : Int} {b : Nat} => u.next (ls_lt s) hq (a := a) (b := b)
        refine Sat.go (Eq.refl _) (NS.ite (fun h4 => ?_) (fun h4 => ?_))
        · have h4 : (q : Int) < n := of_decide_eq_true h4
          refine Sat.go (Eq.refl _) (NS.yes (rfl) ?_)
          refine Sat.go (Eq.refl _) (NS.no (rfl) ?_)
          -- the loop of groups, at place k
          have hbnd : ∀ i, ((ls s).drop k).getD i 0 < 256 := fun i => by rw [getD_drop]; exact ls_bd s _
          have hlt : ∀ x ∈ (ls s).drop k, x < 256 := fun x hx => ls_lt s x (List.mem_of_mem_drop hx)
          have hdl : ((ls s).drop k).length = s.size - k := by rw [List.length_drop, ls_len]
          refine Sat.go (Eq.refl _) ?_
          refine NS.loop (σ := { p : Nat × Nat × Bool // if p.2.2 then rdZ 9 ((ls s).drop k) 0 0 = (0, p.2.1, p.1) ∧ p.2.1 < 2 ^ 63 ∧ 0 < p.1 ∧ p.1 ≤ 9 ∧ p.1 ≤ s.size - k else RdU ((ls s).drop k) p.1 p.2.1 }) (fun p => [(0, .ptr 12 0), (3, .int .i64 p.1.2.1), (4, .int .i64 p.1.1), (5, .bool p.1.2.2)]) (fun p => []) (fun p => if p.1.2.2 then 0 else 10 - p.1.1) ⟨(0, 0, false), RdU.start _⟩ ?_ ?_
          · exact weak_hd [] rfl ⟨rfl, rfl, rfl, .inr rfl, trivial⟩ trivial (by repeat' (first | exact trivial | refine ⟨.inr rfl, ?_⟩ | refine ⟨.inl rfl, ?_⟩)) (by kernel_rfl)
          rintro ⟨⟨i, m, last⟩, u⟩
          simp only at u
          cases last with
          | false =>
            simp only [Bool.false_eq_true, if_false] at u
            have hi := u.le
            refine Sat.go (Eq.refl _) (NS.yes (rfl) ?_)
            refine Sat.go (Eq.refl _) (NS.ite (fun h9 => ?_) (fun h9 => ?_))
            · obtain rfl : i = 9 := by have h9 : (i : Int) = 9 := by simpa using h9
                                       omega
              have hrd := u.long
              refine Sat.go (Eq.refl _) (NS.yes (rfl) ?_)
              refine Sat.go (Eq.refl _) (NS.leave rfl (Eq.refl _) ?_)
              refine Sat.go (Eq.refl _) (NS.need (decide_eq_true (by show (acc.length + 1) * _ ≤ _; simp only [maxRow]; omega)) ?_)
              refine Sat.go (Eq.refl _) (NS.next ⟨(q + 1, k, acc ++ [0], some 11), (show rdL (ls s) = ([], 0, (11 : Int)) ∧ ((11 : Int) != 0) = true from ⟨ue (by omega) hrd rfl, rfl⟩)⟩ (by simp only; omega) ?_)
              refine weak_hd [(7, 31)] rfl ⟨rfl, rfl, rfl, ren_int rfl (i64_k (k := q) (n := 100000) (by omega) (by omega)), trivial⟩ ⟨⟨_, rfl, _, _, rfl, rfl, _, _, rfl, rfl, _, _, rfl, rfl, rfl⟩, ?_, trivial⟩ trivial (by kernel_rfl)
              exact ren_row rfl (by simp) (fun i hi j hj => row_snoc (cells := nC) (x := 0) rfl i (by simpa using hi) j hj)
            have h9 : i < 9 := by have h9 : (i : Int) ≠ 9 := by simpa using h9
                                  omega
            have hm56 := u.small h9
            refine Sat.go (Eq.refl _) (NS.call (rest_ok s k 0 (by omega) (by omega)) rfl ?_)
            refine Sat.go (Eq.refl _) (NS.ite (fun h1 => ?_) (fun h1 => ?_))
            · have h1 : ((((ls s).drop k).length : Nat) : Int) = (i : Int) := eq_of_beq h1
              have h1 : ((ls s).drop k).length = i := by omega
              have hrd := u.short h9 (by omega)
              refine Sat.go (Eq.refl _) (NS.yes (rfl) ?_)
              refine Sat.go (Eq.refl _) (NS.leave rfl (Eq.refl _) ?_)
              refine Sat.go (Eq.refl _) (NS.need (decide_eq_true (by show (acc.length + 1) * _ ≤ _; simp only [maxRow]; omega)) ?_)
              refine Sat.go (Eq.refl _) (NS.next ⟨(q + 1, k, acc ++ [0], some 12), (show rdL (ls s) = ([], 0, (12 : Int)) ∧ ((12 : Int) != 0) = true from ⟨ue (by omega) hrd rfl, rfl⟩)⟩ (by simp only; omega) ?_)
              refine weak_hd [(7, 31)] rfl ⟨rfl, rfl, rfl, ren_int rfl (i64_k (k := q) (n := 100000) (by omega) (by omega)), trivial⟩ ⟨⟨_, rfl, _, _, rfl, rfl, _, _, rfl, rfl, _, _, rfl, rfl, rfl⟩, ?_, trivial⟩ trivial (by kernel_rfl)
              exact ren_row rfl (by simp) (fun i hi j hj => row_snoc (cells := nC) (x := 0) rfl i (by simpa using hi) j hj)
            have h1 : ((((ls s).drop k).length : Nat) : Int) ≠ (i : Int) := ne_of_beq_false h1
            have h1 : i < ((ls s).drop k).length := by have := u.ln; omega
            have ea : IntKind.i64.wrap (((k : Nat) : Int) + (i : Int)) = ((k + i : Nat) : Int) := by rw [wrap_i64 (by omega) (by omega)]; omega
            have hb0 := hbnd i
            have eb : (((s.data.toList.getD (Int.toNat ((k + i : Nat) : Int)) 0).toNat : Nat) : Int) = ((((ls s).drop k).getD i 0 : Nat) : Int) := by rw [getD_drop, ← ls_get]; rfl
            refine Sat.go (Eq.refl _) (NS.chk (by kernel_rfl) ?_)
            refine Sat.go (Eq.refl _) (NS.need (by rw [ea]; exact decide_eq_true ⟨Int.natCast_nonneg _, by omega⟩) ?_)
            rw [ea, eb]
            generalize hbb : ((ls s).drop k).getD i 0 = b at *
            refine Sat.go (Eq.refl _) (NS.need (rfl) ?_)
            have e1 := and127b hb0
            have e2 : IntKind.i64.wrap ((BitVec.ofInt IntKind.i64.bits (IntKind.i64.wrap ((m : Int) * 2 ^ (min (7 : Int).toNat IntKind.i64.bits))) ||| BitVec.ofInt IntKind.i64.bits (IntKind.i64.wrap (IntKind.u8.wrap ((BitVec.ofInt IntKind.u8.bits (b : Int) &&& BitVec.ofInt IntKind.u8.bits 127).toNat : Int)))).toNat : Int) = ((m * 128 + b % 128 : Nat) : Int) := by rw [e1]; exact or7 (by omega) hm56
            have e3 : IntKind.i64.wrap ((i : Int) + 1) = ((i + 1 : Nat) : Int) := i64_k (k := i) (n := 100) (by omega) (by omega)
            by_cases hc : b < 128
            · have hz := u.last h9 h1 (by rw [hbb]; exact hc)
              rw [hbb] at hz
              refine Sat.go (Eq.refl _) (NS.next ⟨(i + 1, m * 128 + b % 128, true), by simp only [if_true]; rw [Nat.mod_eq_of_lt hc]; exact ⟨hz, by omega, by omega, by omega, by omega⟩⟩ (by simp only [Bool.false_eq_true, if_true, if_false]; omega) ?_)
              exact weak_hd [] rfl ⟨rfl, ren_int rfl e2, ren_int rfl e3, ren_bool rfl (decide_eq_true (by show (b : Int) < 128; omega)), trivial⟩ trivial (by repeat' (first | exact trivial | refine ⟨.inr rfl, ?_⟩ | refine ⟨.inl rfl, ?_⟩)) (by kernel_rfl)
            · have hu := u.step hlt h9 h1 (by rw [hbb]; exact hc)
              rw [hbb] at hu
              refine Sat.go (Eq.refl _) (NS.next ⟨(i + 1, m * 128 + b % 128, false), by simp only [Bool.false_eq_true, if_false]; exact hu⟩ (by simp only [Bool.false_eq_true, if_false]; omega) ?_)
              exact weak_hd [] rfl ⟨rfl, ren_int rfl e2, ren_int rfl e3, ren_bool rfl (decide_eq_false (by show ¬ (b : Int) < 128; omega)), trivial⟩ trivial (by repeat' (first | exact trivial | refine ⟨.inr rfl, ?_⟩ | refine ⟨.inl rfl, ?_⟩)) (by kernel_rfl)
          | true =>
            simp only [if_true] at u
            obtain ⟨hz, hM, hi0, hi9, hil⟩ := u
            have hb0 := hbnd 0
            have eb : (((s.data.toList.getD (Int.toNat ((k : Nat) : Int)) 0).toNat : Nat) : Int) = ((((ls s).drop k).getD 0 0 : Nat) : Int) := by rw [getD_drop, ← ls_get]; rfl
            refine Sat.go (Eq.refl _) (NS.no (rfl) ?_)
            refine Sat.go (Eq.refl _) (NS.leave rfl (Eq.refl _) ?_)
            refine Sat.go (Eq.refl _) (NS.chk (by kernel_rfl) ?_)
            refine Sat.go (Eq.refl _) (NS.need (decide_eq_true ⟨by show (0 : Int) ≤ ((k : Nat) : Int); omega, by show ((k : Nat) : Int) < (s.size : Int); omega⟩) ?_)
            rw [eb]
            refine Sat.go (Eq.refl _) (NS.ite (fun h5 => ?_) (fun h5 => ?_))
            · have h5 : ((((ls s).drop k).getD 0 0 : Nat) : Int) = 128 := eq_of_beq h5
              have hrd := rdI_bad hz (.inl (by omega))
              refine Sat.go (Eq.refl _) (NS.yes (rfl) ?_)
              refine Sat.go (Eq.refl _) (NS.need (decide_eq_true (by show (acc.length + 1) * _ ≤ _; simp only [maxRow]; omega)) ?_)
              refine Sat.go (Eq.refl _) (NS.next ⟨(q + 1, k, acc ++ [0], some 11), (show rdL (ls s) = ([], 0, (11 : Int)) ∧ ((11 : Int) != 0) = true from ⟨ue (by omega) hrd rfl, rfl⟩)⟩ (by simp only; omega) ?_)
              refine weak_hd [(7, 31)] rfl ⟨rfl, rfl, rfl, ren_int rfl (i64_k (k := q) (n := 100000) (by omega) (by omega)), trivial⟩ ⟨⟨_, rfl, _, _, rfl, rfl, _, _, rfl, rfl, _, _, rfl, rfl, rfl⟩, ?_, trivial⟩ trivial (by kernel_rfl)
              exact ren_row rfl (by simp) (fun i hi j hj => row_snoc (cells := nC) (x := 0) rfl i (by simpa using hi) j hj)
            have h5 : ((((ls s).drop k).getD 0 0 : Nat) : Int) ≠ 128 := ne_of_beq_false h5
            refine Sat.go (Eq.refl _) (NS.need (rfl) ?_)
            rw [shr1]
            have e1 := and1 hM
            refine Sat.go (Eq.refl _) (NS.ite (fun h6 => ?_) (fun h6 => ?_))
            · rw [e1] at h6
              have h6 : ((m % 2 : Nat) : Int) = 1 := eq_of_beq h6
              have eu : IntKind.i64.wrap (IntKind.i64.wrap (0 - ((m / 2 : Nat) : Int)) - 1) = unz m := by
                unfold unz; rw [if_pos (by omega), wrap_i64 (n := 0 - ((m / 2 : Nat) : Int)) (by omega) (by omega), wrap_i64 (by omega) (by omega)]; omega
              refine Sat.go (Eq.refl _) (NS.no (decide_eq_false (by show ¬ (m : Int) < 0; omega)) ?_)
              rw [eu]
              refine Sat.go (Eq.refl _) (NS.call (inRange_ok (unz m)) rfl ?_)
              refine Sat.go (Eq.refl _) (NS.ite (fun h7 => ?_) (fun h7 => ?_))
              · have hrd := rdI_bad hz (.inr (not_t h7))
                refine Sat.go (Eq.refl _) (NS.yes (rfl) ?_)
                refine Sat.go (Eq.refl _) (NS.need (decide_eq_true (by show (acc.length + 1) * _ ≤ _; simp only [maxRow]; omega)) ?_)
                refine Sat.go (Eq.refl _) (NS.next ⟨(q + 1, k, acc ++ [0], some 11), (show rdL (ls s) = ([], 0, (11 : Int)) ∧ ((11 : Int) != 0) = true from ⟨ue (by omega) hrd rfl, rfl⟩)⟩ (by simp only; omega) ?_)
                refine weak_hd [(7, 31)] rfl ⟨rfl, rfl, rfl, ren_int rfl (i64_k (k := q) (n := 100000) (by omega) (by omega)), trivial⟩ ⟨⟨_, rfl, _, _, rfl, rfl, _, _, rfl, rfl, _, _, rfl, rfl, rfl⟩, ?_, trivial⟩ trivial (by kernel_rfl)
                exact ren_row rfl (by simp) (fun i hi j hj => row_snoc (cells := nC) (x := 0) rfl i (by simpa using hi) j hj)
              have h7 := not_f h7
              have hrd := rdI_good hz (by omega) h7
              have ek : IntKind.i64.wrap (((k : Nat) : Int) + (i : Int)) = ((k + i : Nat) : Int) := by rw [wrap_i64 (by omega) (by omega)]; omega
              have u2 := un (by omega) hrd
              refine Sat.go (Eq.refl _) (NS.need (decide_eq_true (by show (acc.length + 1) * _ ≤ _; simp only [maxRow]; omega)) ?_)
              refine Sat.go (Eq.refl _) (NS.next ⟨(q + 1, k + i, acc ++ [unz m], none), u2⟩ (by simp only; omega) ?_)
              refine weak_hd [(7, 31)] rfl ⟨rfl, rfl, rfl, ren_int rfl (i64_k (k := q) (n := 100000) (by omega) (by omega)), trivial⟩ ⟨⟨_, rfl, _, _, rfl, rfl, _, _, rfl, ren_int rfl ek, _, _, rfl, rfl, rfl⟩, ?_, trivial⟩ trivial (by kernel_rfl)
              exact ren_row rfl (by simp) (fun i hi j hj => row_snoc (cells := nC) (x := unz m) rfl i (by simpa using hi) j hj)
            · rw [e1] at h6
              have h6 : ((m % 2 : Nat) : Int) ≠ 1 := ne_of_beq_false h6
              have eu : ((m / 2 : Nat) : Int) = unz m := by unfold unz; rw [if_neg (by omega)]
              refine Sat.go (Eq.refl _) (NS.no (decide_eq_false (by show ¬ (m : Int) < 0; omega)) ?_)
              rw [eu]
              refine Sat.go (Eq.refl _) (NS.call (inRange_ok (unz m)) rfl ?_)
              refine Sat.go (Eq.refl _) (NS.ite (fun h7 => ?_) (fun h7 => ?_))
              · have hrd := rdI_bad hz (.inr (not_t h7))
                refine Sat.go (Eq.refl _) (NS.yes (rfl) ?_)
                refine Sat.go (Eq.refl _) (NS.need (decide_eq_true (by show (acc.length + 1) * _ ≤ _; simp only [maxRow]; omega)) ?_)
                refine Sat.go (Eq.refl _) (NS.next ⟨(q + 1, k, acc ++ [0], some 11), (show rdL (ls s) = ([], 0, (11 : Int)) ∧ ((11 : Int) != 0) = true from ⟨ue (by omega) hrd rfl, rfl⟩)⟩ (by simp only; omega) ?_)
                refine weak_hd [(7, 31)] rfl ⟨rfl, rfl, rfl, ren_int rfl (i64_k (k := q) (n := 100000) (by omega) (by omega)), trivial⟩ ⟨⟨_, rfl, _, _, rfl, rfl, _, _, rfl, rfl, _, _, rfl, rfl, rfl⟩, ?_, trivial⟩ trivial (by kernel_rfl)
                exact ren_row rfl (by simp) (fun i hi j hj => row_snoc (cells := nC) (x := 0) rfl i (by simpa using hi) j hj)
              have h7 := not_f h7
              have hrd := rdI_good hz (by omega) h7
              have ek : IntKind.i64.wrap (((k : Nat) : Int) + (i : Int)) = ((k + i : Nat) : Int) := by rw [wrap_i64 (by omega) (by omega)]; omega
              have u2 := un (by omega) hrd
              refine Sat.go (Eq.refl _) (NS.need (decide_eq_true (by show (acc.length + 1) * _ ≤ _; simp only [maxRow]; omega)) ?_)
              refine Sat.go (Eq.refl _) (NS.next ⟨(q + 1, k + i, acc ++ [unz m], none), u2⟩ (by simp only; omega) ?_)
              refine weak_hd [(7, 31)] rfl ⟨rfl, rfl, rfl, ren_int rfl (i64_k (k := q) (n := 100000) (by omega) (by omega)), trivial⟩ ⟨⟨_, rfl, _, _, rfl, rfl, _, _, rfl, ren_int rfl ek, _, _, rfl, rfl, rfl⟩, ?_, trivial⟩ trivial (by kernel_rfl)
              exact ren_row rfl (by simp) (fun i hi j hj => row_snoc (cells := nC) (x := unz m) rfl i (by simpa using hi) j hj)
        · obtain rfl : q = n.toNat := by have h4 : ¬ (q : Int) < n := of_decide_eq_false h4
                                         omega
          refine Sat.go (Eq.refl _) (NS.leave rfl (Eq.refl _) ?_)
          refine Sat.go (Eq.refl _) (NS.no (rfl) ?_)
          refine Sat.go (Eq.refl _) (NS.chk (by kernel_rfl) ?_)
          exact Sat.go (Eq.refl _) (NS.ret rfl rfl (rdL_le u.fin (LeA.refl _)))
    · rw [e1] at h6
      have h6 : ((m % 2 : Nat) : Int) ≠ 1 := ne_of_beq_false h6
      have eu : ((m / 2 : Nat) : Int) = unz m := by unfold unz; rw [if_neg (by omega)]
      refine Sat.go (Eq.refl _) (NS.no (decide_eq_false (by show ¬ (m : Int) < 0; omega)) ?_)
      rw [eu]
      refine Sat.go (Eq.refl _) (NS.call (inRange_ok (unz m)) rfl ?_)
      refine Sat.go (Eq.refl _) (NS.ite (fun h7 => ?_) (fun h7 => ?_))
      · have hrd := rdI_bad hz (.inr (not_t h7))
        refine Sat.go (Eq.refl _) (NS.yes (rfl) ?_)
        have hrl : rdL (ls s) = _ := rdL_err hrd rfl
        refine Sat.go (Eq.refl _) (NS.no (rfl) ?_)
        refine Sat.go (Eq.refl _) (NS.no (rfl) ?_)
        refine Sat.go (Eq.refl _) ?_
        refine NS.loop (σ := Unit) (fun _ => [(5, .ptr 12 0), (6, .int .i64 0), (8, .int .i64 0)]) (fun _ => [(12, .box [.str s, .int .i64 0, .int .i64 11])]) (fun _ => 0) () ?_ ?_
        · exact weak_hd [] rfl ⟨rfl, rfl, rfl, trivial⟩ ⟨⟨_, rfl, _, _, rfl, rfl, _, _, rfl, rfl, _, _, rfl, rfl, rfl⟩, trivial⟩ trivial (by kernel_rfl)
        intro _
        refine Sat.go (Eq.refl _) (NS.no (rfl) ?_)
        refine Sat.go (Eq.refl _) (NS.leave rfl (Eq.refl _) ?_)
        refine Sat.go (Eq.refl _) (NS.yes (rfl) ?_)
        refine Sat.go (Eq.refl _) (NS.chk (by kernel_rfl) ?_)
        exact Sat.go (Eq.refl _) (NS.ret rfl rfl (rdL_le hrl (LeA.nil' rfl)))
      have h7 := not_f h7
      have hrd := rdI_good hz (by omega) h7
      have ek : IntKind.i64.wrap ((0 : Int) + (i : Int)) = ((0 + i : Nat) : Int) := by rw [wrap_i64 (by omega) (by omega)]; omega
      refine Sat.go (Eq.refl _) (NS.ite (fun g1 => ?_) (fun g1 => ?_))
      · have g1 : unz m < 0 := of_decide_eq_true g1
        refine Sat.go (Eq.refl _) (NS.yes (rfl) ?_)
        have hrl : rdL (ls s) = ([], 0, 11) := rdL_rng hrd (by omega)
        refine Sat.go (Eq.refl _) ?_
        refine NS.loop (σ := Unit) (fun _ => [(5, .ptr 12 0), (6, .int .i64 0), (8, .int .i64 0)]) (fun _ => [(12, .box [.str s, .int .i64 (IntKind.i64.wrap (0 + (i : Int))), .int .i64 11])]) (fun _ => 0) () ?_ ?_
        · exact weak_hd [] rfl ⟨rfl, rfl, rfl, trivial⟩ ⟨⟨_, rfl, _, _, rfl, rfl, _, _, rfl, rfl, _, _, rfl, rfl, rfl⟩, trivial⟩ trivial (by kernel_rfl)
        intro _
        refine Sat.go (Eq.refl _) (NS.no (rfl) ?_)
        refine Sat.go (Eq.refl _) (NS.leave rfl (Eq.refl _) ?_)
        refine Sat.go (Eq.refl _) (NS.yes (rfl) ?_)
        refine Sat.go (Eq.refl _) (NS.chk (by kernel_rfl) ?_)
        exact Sat.go (Eq.refl _) (NS.ret rfl rfl (rdL_le hrl (LeA.nil' rfl)))
      have g1 : ¬ unz m < 0 := of_decide_eq_false g1
      refine Sat.go (Eq.refl _) (NS.ite (fun g2 => ?_) (fun g2 => ?_))
      · have g2 : unz m > 65536 := of_decide_eq_true g2
        refine Sat.go (Eq.refl _) (NS.yes (rfl) ?_)
        have hrl : rdL (ls s) = ([], 0, 11) := rdL_rng hrd (by omega)
        refine Sat.go (Eq.refl _) ?_
        refine NS.loop (σ := Unit) (fun _ => [(5, .ptr 12 0), (6, .int .i64 0), (8, .int .i64 0)]) (fun _ => [(12, .box [.str s, .int .i64 (IntKind.i64.wrap (0 + (i : Int))), .int .i64 11])]) (fun _ => 0) () ?_ ?_
        · exact weak_hd [] rfl ⟨rfl, rfl, rfl, trivial⟩ ⟨⟨_, rfl, _, _, rfl, rfl, _, _, rfl, rfl, _, _, rfl, rfl, rfl⟩, trivial⟩ trivial (by kernel_rfl)
        intro _
        refine Sat.go (Eq.refl _) (NS.no (rfl) ?_)
        refine Sat.go (Eq.refl _) (NS.leave rfl (Eq.refl _) ?_)
        refine Sat.go (Eq.refl _) (NS.yes (rfl) ?_)
        refine Sat.go (Eq.refl _) (NS.chk (by kernel_rfl) ?_)
        exact Sat.go (Eq.refl _) (NS.ret rfl rfl (rdL_le hrl (LeA.nil' rfl)))
      have g2 : ¬ unz m > 65536 := of_decide_eq_false g2
      have hrd : rdI (ls s) = (unz m, i, 0) := hrd
      have hle : lenI (ls s) = (unz m, i, 0) := by unfold lenI; simp only; rw [hrd, if_neg (by simp), if_neg (by simp; omega)]
      generalize unz m = n at *
      refine Sat.go (Eq.refl _) ?_
      refine NS.loop (σ := { p : Nat × Nat × List Int × Option Int // match p.2.2.2 with | none => RdQ (ls s) n.toNat p.1 p.2.1 p.2.2.1 | some e => rdL (ls s) = ([], 0, e) ∧ (e != 0) = true }) (fun p => [(5, .ptr 12 0), (6, .int .i64 n), (7, .own 7), (8, .int .i64 p.1.1)]) (fun p => [(12, .box [.str s, .int .i64 (p.1.2.1 : Nat), .int .i64 (match p.1.2.2.2 with | none => 0 | some e => e)]), (7, .row 3 1 p.1.2.2.1.length (rowL nC p.1.2.2.1))]) (fun p => n.toNat + 1 - p.1.1) ⟨(0, i, [], none), RdQ.start (ls_lt s) hle⟩ ?_ ?_
      · refine (weak_promote 7 7 3 1 (rowL nC []) rfl rfl).trans ?_
        exact weak_hd [] rfl ⟨rfl, rfl, rfl, rfl, trivial⟩ ⟨⟨_, rfl, _, _, rfl, rfl, _, _, rfl, ren_int rfl (ek.trans (by rw [Nat.zero_add])), _, _, rfl, rfl, rfl⟩, ren_row rfl rfl fun _ _ _ _ => rfl, trivial⟩ trivial (by kernel_rfl)
      rintro ⟨⟨q, k, acc, er⟩, u⟩
      simp only at u
      cases er with
      | some e =>
        simp only at u
        have ue : (e == 0) = false := by have := u.2; simpa using this
        refine Sat.go (Eq.refl _) (NS.ite (fun h4 => ?_) (fun h4 => ?_))
        · refine Sat.go (Eq.refl _) (NS.no (ue) ?_)
          refine Sat.go (Eq.refl _) (NS.leave rfl (Eq.refl _) ?_)
          refine Sat.go (Eq.refl _) (NS.yes (u.2) ?_)
          refine Sat.go (Eq.refl _) (NS.chk (by kernel_rfl) ?_)
          exact Sat.go (Eq.refl _) (NS.ret rfl rfl (rdL_le u.1 (LeA.nil' rfl)))
        · refine Sat.go (Eq.refl _) (NS.leave rfl (Eq.refl _) ?_)
          refine Sat.go (Eq.refl _) (NS.yes (u.2) ?_)
          refine Sat.go (Eq.refl _) (NS.chk (by kernel_rfl) ?_)
          exact Sat.go (Eq.refl _) (NS.ret rfl rfl (rdL_le u.1 (LeA.nil' rfl)))
      | none =>
        simp only at u
        have hq := u.le
        have hk := u.kl
        have hal := u.ln
        have ue := fun (hq : q < n.toNat) {a : Int} {b : Nat} {e : Int} => u.err hq (a := a) (b := b) (e := e)
        have un := fun (hq : q < n.toNat) {a : Int} {b : Nat} => u.next (ls_lt s) hq (a := a) (b := b)
        refine Sat.go (Eq.refl _) (NS.ite (fun h4 => ?_) (fun h4 => ?_))
        · have h4 : (q : Int) < n := of_decide_eq_true h4
          refine Sat.go (Eq.refl _) (NS.yes (rfl) ?_)
          refine Sat.go (Eq.refl _) (NS.no (rfl) ?_)
          -- the loop of groups, at place k
          have hbnd : ∀ i, ((ls s).drop k).getD i 0 < 256 := fun i => by rw [getD_drop]; exact ls_bd s _
          have hlt : ∀ x ∈ (ls s).drop k, x < 256 := fun x hx => ls_lt s x (List.mem_of_mem_drop hx)
          have hdl : ((ls s).drop k).length = s.size - k := by rw [List.length_drop, ls_len]
          refine Sat.go (Eq.refl _) ?_
          refine NS.loop (σ := { p : Nat × Nat × Bool // if p.2.2 then rdZ 9 ((ls s).drop k) 0 0 = (0, p.2.1, p.1) ∧ p.2.1 < 2 ^ 63 ∧ 0 < p.1 ∧ p.1 ≤ 9 ∧ p.1 ≤ s.size - k else RdU ((ls s).drop k) p.1 p.2.1 }) (fun p => [(0, .ptr 12 0), (3, .int .i64 p.1.2.1), (4, .int .i64 p.1.1), (5, .bool p.1.2.2)]) (fun p => []) (fun p => if p.1.2.2 then 0 else 10 - p.1.1) ⟨(0, 0, false), RdU.start _⟩ ?_ ?_
          · exact weak_hd [] rfl ⟨rfl, rfl, rfl, .inr rfl, trivial⟩ trivial (by repeat' (first | exact trivial | refine ⟨.inr rfl, ?_⟩ | refine ⟨.inl rfl, ?_⟩)) (by kernel_rfl)
          rintro ⟨⟨i, m, last⟩, u⟩
          simp only at u
          cases last with
          | false =>
            simp only [Bool.false_eq_true, if_false] at u
            have hi := u.le
            refine Sat.go (Eq.refl _) (NS.yes (rfl) ?_)
            refine Sat.go (Eq.refl _) (NS.ite (fun h9 => ?_) (fun h9 => ?_))
            · obtain rfl : i = 9 := by have h9 : (i : Int) = 9 := by simpa using h9
                                       omega
              have hrd := u.long
              refine Sat.go (Eq.refl _) (NS.yes (rfl) ?_)
              refine Sat.go (Eq.refl _) (NS.leave rfl (Eq.refl _) ?_)
              refine Sat.go (Eq.refl _) (NS.need (decide_eq_true (by show (acc.length + 1) * _ ≤ _; simp only [maxRow]; omega)) ?_)
              refine Sat.go (Eq.refl _) (NS.next ⟨(q + 1, k, acc ++ [0], some 11), (show rdL (ls s) = ([], 0, (11 : Int)) ∧ ((11 : Int) != 0) = true from ⟨ue (by omega) hrd rfl, rfl⟩)⟩ (by simp only; omega) ?_)
              refine weak_hd [(7, 31)] rfl ⟨rfl, rfl, rfl, ren_int rfl (i64_k (k := q) (n := 100000) (by omega) (by omega)), trivial⟩ ⟨⟨_, rfl, _, _, rfl, rfl, _, _, rfl, rfl, _, _, rfl, rfl, rfl⟩, ?_, trivial⟩ trivial (by kernel_rfl)
              exact ren_row rfl (by simp) (fun i hi j hj => row_snoc (cells := nC) (x := 0) rfl i (by simpa using hi) j hj)
            have h9 : i < 9 := by have h9 : (i : Int) ≠ 9 := by simpa using h9
                                  omega
            have hm56 := u.small h9
            refine Sat.go (Eq.refl _) (NS.call (rest_ok s k 0 (by omega) (by omega)) rfl ?_)
            refine Sat.go (Eq.refl _) (NS.ite (fun h1 => ?_) (fun h1 => ?_))
            · have h1 : ((((ls s).drop k).length : Nat) : Int) = (i : Int) := eq_of_beq h1
              have h1 : ((ls s).drop k).length = i := by omega
              have hrd := u.short h9 (by omega)
              refine Sat.go (Eq.refl _) (NS.yes (rfl) ?_)
              refine Sat.go (Eq.refl _) (NS.leave rfl (Eq.refl _) ?_)
              refine Sat.go (Eq.refl _) (NS.need (decide_eq_true (by show (acc.length + 1) * _ ≤ _; simp only [maxRow]; omega)) ?_)
              refine Sat.go (Eq.refl _) (NS.next ⟨(q + 1, k, acc ++ [0], some 12), (show rdL (ls s) = ([], 0, (12 : Int)) ∧ ((12 : Int) != 0) = true from ⟨ue (by omega) hrd rfl, rfl⟩)⟩ (by simp only; omega) ?_)
              refine weak_hd [(7, 31)] rfl ⟨rfl, rfl, rfl, ren_int rfl (i64_k (k := q) (n := 100000) (by omega) (by omega)), trivial⟩ ⟨⟨_, rfl, _, _, rfl, rfl, _, _, rfl, rfl, _, _, rfl, rfl, rfl⟩, ?_, trivial⟩ trivial (by kernel_rfl)
              exact ren_row rfl (by simp) (fun i hi j hj => row_snoc (cells := nC) (x := 0) rfl i (by simpa using hi) j hj)
            have h1 : ((((ls s).drop k).length : Nat) : Int) ≠ (i : Int) := ne_of_beq_false h1
            have h1 : i < ((ls s).drop k).length := by have := u.ln; omega
            have ea : IntKind.i64.wrap (((k : Nat) : Int) + (i : Int)) = ((k + i : Nat) : Int) := by rw [wrap_i64 (by omega) (by omega)]; omega
            have hb0 := hbnd i
            have eb : (((s.data.toList.getD (Int.toNat ((k + i : Nat) : Int)) 0).toNat : Nat) : Int) = ((((ls s).drop k).getD i 0 : Nat) : Int) := by rw [getD_drop, ← ls_get]; rfl
            refine Sat.go (Eq.refl _) (NS.chk (by kernel_rfl) ?_)
            refine Sat.go (Eq.refl _) (NS.need (by rw [ea]; exact decide_eq_true ⟨Int.natCast_nonneg _, by omega⟩) ?_)
            rw [ea, eb]
            generalize hbb : ((ls s).drop k).getD i 0 = b at *
            refine Sat.go (Eq.refl _) (NS.need (rfl) ?_)
            have e1 := and127b hb0
            have e2 : IntKind.i64.wrap ((BitVec.ofInt IntKind.i64.bits (IntKind.i64.wrap ((m : Int) * 2 ^ (min (7 : Int).toNat IntKind.i64.bits))) ||| BitVec.ofInt IntKind.i64.bits (IntKind.i64.wrap (IntKind.u8.wrap ((BitVec.ofInt IntKind.u8.bits (b : Int) &&& BitVec.ofInt IntKind.u8.bits 127).toNat : Int)))).toNat : Int) = ((m * 128 + b % 128 : Nat) : Int) := by rw [e1]; exact or7 (by omega) hm56
            have e3 : IntKind.i64.wrap ((i : Int) + 1) = ((i + 1 : Nat) : Int) := i64_k (k := i) (n := 100) (by omega) (by omega)
            by_cases hc : b < 128
            · have hz := u.last h9 h1 (by rw [hbb]; exact hc)
              rw [hbb] at hz
              refine Sat.go (Eq.refl _) (NS.next ⟨(i + 1, m * 128 + b % 128, true), by simp only [if_true]; rw [Nat.mod_eq_of_lt hc]; exact ⟨hz, by omega, by omega, by omega, by omega⟩⟩ (by simp only [Bool.false_eq_true, if_true, if_false]; omega) ?_)
              exact weak_hd [] rfl ⟨rfl, ren_int rfl e2, ren_int rfl e3, ren_bool rfl (decide_eq_true (by show (b : Int) < 128; omega)), trivial⟩ trivial (by repeat' (first | exact trivial | refine ⟨.inr rfl, ?_⟩ | refine ⟨.inl rfl, ?_⟩)) (by kernel_rfl)
            · have hu := u.step hlt h9 h1 (by rw [hbb]; exact hc)
              rw [hbb] at hu
              refine Sat.go (Eq.refl _) (NS.next ⟨(i + 1, m * 128 + b % 128, false), by simp only [Bool.false_eq_true, if_false]; exact hu⟩ (by simp only [Bool.false_eq_true, if_false]; omega) ?_)
              exact weak_hd [] rfl ⟨rfl, ren_int rfl e2, ren_int rfl e3, ren_bool rfl (decide_eq_false (by show ¬ (b : Int) < 128; omega)), trivial⟩ trivial (by repeat' (first | exact trivial | refine ⟨.inr rfl, ?_⟩ | refine ⟨.inl rfl, ?_⟩)) (by kernel_rfl)
          | true =>
            simp only [if_true] at u
            obtain ⟨hz, hM, hi0, hi9, hil⟩ := u
            have hb0 := hbnd 0
            have eb : (((s.data.toList.getD (Int.toNat ((k : Nat) : Int)) 0).toNat : Nat) : Int) = ((((ls s).drop k).getD 0 0 : Nat) : Int) := by rw [getD_drop, ← ls_get]; rfl
            refine Sat.go (Eq.refl _) (NS.no (rfl) ?_)
            refine Sat.go (Eq.refl _) (NS.leave rfl (Eq.refl _) ?_)
            refine Sat.go (Eq.refl _) (NS.chk (by kernel_rfl) ?_)
            refine Sat.go (Eq.refl _) (NS.need (decide_eq_true ⟨by show (0 : Int) ≤ ((k : Nat) : Int); omega, by show ((k : Nat) : Int) < (s.size : Int); omega⟩) ?_)
            rw [eb]
            refine Sat.go (Eq.refl _) (NS.ite (fun h5 => ?_) (fun h5 => ?_))
            · have h5 : ((((ls s).drop k).getD 0 0 : Nat) : Int) = 128 := eq_of_beq h5
              have hrd := rdI_bad hz (.inl (by omega))
              refine Sat.go (Eq.refl _) (NS.yes (rfl) ?_)
              refine Sat.go (Eq.refl _) (NS.need (decide_eq_true (by show (acc.length + 1) * _ ≤ _; simp only [maxRow]; omega)) ?_)
              refine Sat.go (Eq.refl _) (NS.next ⟨(q + 1, k, acc ++ [0], some 11), (show rdL (ls s) = ([], 0, (11 : Int)) ∧ ((11 : Int) != 0) = true from ⟨ue (by omega) hrd rfl, rfl⟩)⟩ (by simp only; omega) ?_)
              refine weak_hd [(7, 31)] rfl ⟨rfl, rfl, rfl, ren_int rfl (i64_k (k := q) (n := 100000) (by omega) (by omega)), trivial⟩ ⟨⟨_, rfl, _, _, rfl, rfl, _, _, rfl, rfl, _, _, rfl, rfl, rfl⟩, ?_, trivial⟩ trivial (by kernel_rfl)
              exact ren_row rfl (by simp) (fun i hi j hj => row_snoc (cells := nC) (x := 0) rfl i (by simpa using hi) j hj)
            have h5 : ((((ls s).drop k).getD 0 0 : Nat) : Int) ≠ 128 := ne_of_beq_false h5
            refine Sat.go (Eq.refl _) (NS.need (rfl) ?_)
            rw [shr1]
            have e1 := and1 hM
            refine Sat.go (Eq.refl _) (NS.ite (fun h6 => ?_) (fun h6 => ?_))
            · rw [e1] at h6
              have h6 : ((m % 2 : Nat) : Int) = 1 := eq_of_beq h6
              have eu : IntKind.i64.wrap (IntKind.i64.wrap (0 - ((m / 2 : Nat) : Int)) - 1) = unz m := by
                unfold unz; rw [if_pos (by omega), wrap_i64 (n := 0 - ((m / 2 : Nat) : Int)) (by omega) (by omega), wrap_i64 (by omega) (by omega)]; omega
              refine Sat.go (Eq.refl _) (NS.no (decide_eq_false (by show ¬ (m : Int) < 0; omega)) ?_)
              rw [eu]
              refine Sat.go (Eq.refl _) (NS.call (inRange_ok (unz m)) rfl ?_)
              refine Sat.go (Eq.refl _) (NS.ite (fun h7 => ?_) (fun h7 => ?_))
              · have hrd := rdI_bad hz (.inr (not_t h7))
                refine Sat.go (Eq.refl _) (NS.yes (rfl) ?_)
                refine Sat.go (Eq.refl _) (NS.need (decide_eq_true (by show (acc.length + 1) * _ ≤ _; simp only [maxRow]; omega)) ?_)
                refine Sat.go (Eq.refl _) (NS.next ⟨(q + 1, k, acc ++ [0], some 11), (show rdL (ls s) = ([], 0, (11 : Int)) ∧ ((11 : Int) != 0) = true from ⟨ue (by omega) hrd rfl, rfl⟩)⟩ (by simp only; omega) ?_)
                refine weak_hd [(7, 31)] rfl ⟨rfl, rfl, rfl, ren_int rfl (i64_k (k := q) (n := 100000) (by omega) (by omega)), trivial⟩ ⟨⟨_, rfl, _, _, rfl, rfl, _, _, rfl, rfl, _, _, rfl, rfl, rfl⟩, ?_, trivial⟩ trivial (by kernel_rfl)
                exact ren_row rfl (by simp) (fun i hi j hj => row_snoc (cells := nC) (x := 0) rfl i (by simpa using hi) j hj)
              have h7 := not_f h7
              have hrd := rdI_good hz (by omega) h7
              have ek : IntKind.i64.wrap (((k : Nat) : Int) + (i : Int)) = ((k + i : Nat) : Int) := by rw [wrap_i64 (by omega) (by omega)]; omega
              have u2 := un (by omega) hrd
              refine Sat.go (Eq.refl _) (NS.need (decide_eq_true (by show (acc.length + 1) * _ ≤ _; simp only [maxRow]; omega)) ?_)
              refine Sat.go (Eq.refl _) (NS.next ⟨(q + 1, k + i, acc ++ [unz m], none), u2⟩ (by simp only; omega) ?_)
              refine weak_hd [(7, 31)] rfl ⟨rfl, rfl, rfl, ren_int rfl (i64_k (k := q) (n := 100000) (by omega) (by omega)), trivial⟩ ⟨⟨_, rfl, _, _, rfl, rfl, _, _, rfl, ren_int rfl ek, _, _, rfl, rfl, rfl⟩, ?_, trivial⟩ trivial (by kernel_rfl)
              exact ren_row rfl (by simp) (fun i hi j hj => row_snoc (cells := nC) (x := unz m) rfl i (by simpa using hi) j hj)
            · rw [e1] at h6
              have h6 : ((m % 2 : Nat) : Int) ≠ 1 := ne_of_beq_false h6
              have eu : ((m / 2 : Nat) : Int) = unz m := by unfold unz; rw [if_neg (by omega)]
              refine Sat.go (Eq.refl _) (NS.no (decide_eq_false (by show ¬ (m : Int) < 0; omega)) ?_)
              rw [eu]
              refine Sat.go (Eq.refl _) (NS.call (inRange_ok (unz m)) rfl ?_)
              refine Sat.go (Eq.refl _) (NS.ite (fun h7 => ?_) (fun h7 => ?_))
              · have hrd := rdI_bad hz (.inr (not_t h7))
                refine Sat.go (Eq.refl _) (NS.yes (rfl) ?_)
                refine Sat.go (Eq.refl _) (NS.need (decide_eq_true (by show (acc.length + 1) * _ ≤ _; simp only [maxRow]; omega)) ?_)
                refine Sat.go (Eq.refl _) (NS.next ⟨(q + 1, k, acc ++ [0], some 11), (show rdL (ls s) = ([], 0, (11 : Int)) ∧ ((11 : Int) != 0) = true from ⟨ue (by omega) hrd rfl, rfl⟩)⟩ (by simp only; omega) ?_)
                refine weak_hd [(7, 31)] rfl ⟨rfl, rfl, rfl, ren_int rfl (i64_k (k := q) (n := 100000) (by omega) (by omega)), trivial⟩ ⟨⟨_, rfl, _, _, rfl, rfl, _, _, rfl, rfl, _, _, rfl, rfl, rfl⟩, ?_, trivial⟩ trivial (by kernel_rfl)
                exact ren_row rfl (by simp) (fun i hi j hj => row_snoc (cells := nC) (x := 0) rfl i (by simpa using hi) j hj)
              have h7 := not_f h7
              have hrd := rdI_good hz (by omega) h7
              have ek : IntKind.i64.wrap (((k : Nat) : Int) + (i : Int)) = ((k + i : Nat) : Int) := by rw [wrap_i64 (by omega) (by omega)]; omega
              have u2 := un (by omega) hrd
              refine Sat.go (Eq.refl _) (NS.need (decide_eq_true (by show (acc.length + 1) * _ ≤ _; simp only [maxRow]; omega)) ?_)
              refine Sat.go (Eq.refl _) (NS.next ⟨(q + 1, k + i, acc ++ [unz m], none), u2⟩ (by simp only; omega) ?_)
              refine weak_hd [(7, 31)] rfl ⟨rfl, rfl, rfl, ren_int rfl (i64_k (k := q) (n := 100000) (by omega) (by omega)), trivial⟩ ⟨⟨_, rfl, _, _, rfl, rfl, _, _, rfl, ren_int rfl ek, _, _, rfl, rfl, rfl⟩, ?_, trivial⟩ trivial (by kernel_rfl)
              exact ren_row rfl (by simp) (fun i hi j hj => row_snoc (cells := nC) (x := unz m) rfl i (by simpa using hi) j hj)
        · obtain rfl : q = n.toNat := by have h4 : ¬ (q : Int) < n := of_decide_eq_false h4
                                         omega
          refine Sat.go (Eq.refl _) (NS.leave rfl (Eq.refl _) ?_)
          refine Sat.go (Eq.refl _) (NS.no (rfl) ?_)
          refine Sat.go (Eq.refl _) (NS.chk (by kernel_rfl) ?_)
          exact Sat.go (Eq.refl _) (NS.ret rfl rfl (rdL_le u.fin (LeA.refl _)))
end Go.Proofs.Ytbpdbibnfmdpoaa
