/- The reference's signatures: putting blocks, damage, places. -/
import Derived.Test.YtdhfgfkfejpfdaaGreatKZA
import Derived.Test.YtdhfgfkfejpfdaaGreatKL
set_option linter.unusedSimpArgs false
set_option linter.unusedSectionVars false
set_option linter.unusedVariables false
namespace Go.Mb
open Go.Sy
set_option linter.unusedVariables false
def fl (p : Blk → Bool) (l : List Blk) (k : Nat) : List Blk := (l.take k).filter p
theorem rem_lt (l : List Blk) (k : Int) : (remB l k).filter (fun y => decide (y.kind < k)) = l.filter (fun y => decide (y.kind < k)) := by
  unfold remB; rw [List.filter_filter]
  refine List.filter_congr fun y _ => ?_
  rw [Bool.eq_iff_iff]; simp only [Bool.and_eq_true, decide_eq_true_eq, bne_iff_ne, ne_eq]
  constructor <;> (intro h; omega)
theorem rem_gt (l : List Blk) (k : Int) : (remB l k).filter (fun y => decide (y.kind > k)) = l.filter (fun y => decide (y.kind > k)) := by
  unfold remB; rw [List.filter_filter]
  refine List.filter_congr fun y _ => ?_
  rw [Bool.eq_iff_iff]; simp only [Bool.and_eq_true, decide_eq_true_eq, bne_iff_ne, ne_eq]
  constructor <;> (intro h; omega)
/-- Where the signature of a node is. -/
def plc (S : List Sg) (n : Int) : Int := if idx (fun p : Sg => (p.1 : Int) == n) S < 0 then -1 else 9 * idx (fun p : Sg => (p.1 : Int) == n) S
theorem fndS_idx {S : List Sg} {n : Int} : (fndS S n).2 = false ↔ idx (fun p : Sg => (p.1 : Int) == n) S < 0 := by
  rw [idx_neg, List.any_eq_false, fndS_none]
  constructor
  · intro h p hp e; exact h p hp (by simpa using e)
  · intro h p hp e; exact h p hp (by simpa using e)
theorem cut_at {S : List Sg} (h : GoodS S) {k : Nat} (hk : k < S.length) {n : Int} (hn : ((S.getD k default).1 : Int) = n) : (S.filter fun p => (p.1 : Int) != n) = S.take k ++ S.drop (k + 1) := by
  have hpw := List.pairwise_iff_getElem.1 h.1
  rw [getD_lt hk] at hn
  have e : S = S.take k ++ S[k] :: S.drop (k + 1) := by simp
  have h1 : (S.take k).filter (fun p => (p.1 : Int) != n) = S.take k := List.filter_eq_self.2 fun p hp => by
    obtain ⟨i, hi, rfl⟩ := List.getElem_of_mem hp
    have hi : i < k := by simp at hi; omega
    rw [List.getElem_take]
    have := hpw i k (by omega) hk hi
    simp only [bne_iff_ne, ne_eq]; omega
  have h2 : (S.drop (k + 1)).filter (fun p => (p.1 : Int) != n) = S.drop (k + 1) := List.filter_eq_self.2 fun p hp => by
    obtain ⟨i, hi, rfl⟩ := List.getElem_of_mem hp
    have hi : i < S.length - (k + 1) := by simpa using hi
    rw [List.getElem_drop]
    have := hpw k (k + 1 + i) hk (by omega) (by omega)
    simp only [bne_iff_ne, ne_eq]; omega
  conv => lhs; rw [e]
  rw [List.filter_append, h1, List.filter_cons_of_neg (by simp [hn]), h2]
theorem enS_take {S : List Sg} (h : ∀ p ∈ S, p.2.length = 8) (k : Nat) (hk : k ≤ S.length) : (enS S).take (9 * k) = enS (S.take k) ∧ (enS S).drop (9 * k) = enS (S.drop k) := by
  have e : enS S = enS (S.take k) ++ enS (S.drop k) := by rw [← enS_append, List.take_append_drop]
  have hl : (enS (S.take k)).length = 9 * k := by rw [enS_len fun p hp => h p (List.mem_of_mem_take hp), List.length_take]; omega
  rw [e]
  exact ⟨by rw [← hl, List.take_left], by rw [← hl, List.drop_left]⟩
end Go.Mb
namespace Go.Proofs.YtdhfgfkfejpfdaaGreat
open Go.Sy Go.Mb
set_option maxRecDepth 100000
set_option linter.unusedVariables false
set_option maxHeartbeats 4000000

theorem rPut_ok (l : List Blk) (x : Blk) (h : GoodL l) (hx : chkK x = 0) : FnOK Tryz.prog 43 [slBlk l, .agg x.cells] (putA (putM l x), none) := by
  have hl := h.1
  have hlen := putL_len h.2.2 x
  have c := rK_ok x
  rw [hx] at c
  obtain ⟨m, hm⟩ : ∃ m, remB l x.kind = m := ⟨_, rfl⟩
  have hml : m.length ≤ 8 := by rw [← hm]; exact Nat.le_trans (List.length_filter_le _ _) hl
  have h1 := rem_lt l x.kind
  have h2 := rem_gt l x.kind
  rw [hm] at h1 h2 hlen
  have hP : putL l x = m.filter (fun y => decide (y.kind < x.kind)) ++ [x] ++ m.filter (fun y => decide (y.kind > x.kind)) := by rw [h1, h2]; rfl
  unfold putM
  have cr := rRemove_ok l (by omega) x.kind
  rw [hm] at cr
  refine fn_ok CN rfl (by kernel_rfl) Tryz.func43 rfl ?_
  refine Sat.go (Eq.refl _) (NS.call (rCheckAll_ok l h) rfl ?_)
  refine Sat.go (Eq.refl _) (NS.no (rfl) ?_)
  refine Sat.go (Eq.refl _) (NS.call (c) rfl ?_)
  refine Sat.go (Eq.refl _) (NS.no (rfl) ?_)
  refine Sat.go (Eq.refl _) (NS.call (cr) rfl ?_)
  by_cases h8 : m.length = 8
  · rw [if_pos (decide_eq_true (by rw [hlen]; omega))]
    refine Sat.go (Eq.refl _) (NS.yes (by show ((m.length : Int) == 8) = true; rw [h8]; rfl) ?_)
    exact Sat.go (Eq.refl _) (NS.ret rfl rfl (LeA.tup2 (LeA.sl rfl fun i hi j hj => absurd hi (Nat.not_lt_zero _)) (LeA.refl _)))
  rw [if_neg (by simp only [decide_eq_true_eq]; rw [hlen]; omega)]
  refine Sat.go (Eq.refl _) (NS.no (by show ((m.length : Int) == 8) = false; rw [beq_eq_false_iff_ne]; omega) ?_)
  have hfl : ∀ (p : Blk → Bool) (i : Nat), (fl p m i).length ≤ 8 := fun p i => Nat.le_trans (List.length_filter_le _ _) (by simp; omega)
  refine Sat.go (Eq.refl _) ?_
  refine NS.loop (σ := { i : Nat // i ≤ m.length }) (fun i => [(3, .ptr 3 0), (7, slBlk m), (8, .own 29), (9, .int .i64 i.1)]) (fun i => [(3, .box x.cells), (29, .row 41 3 (fl (fun y => decide (y.kind < x.kind)) m i.1).length (rowL Blk.cells (fl (fun y => decide (y.kind < x.kind)) m i.1)))]) (fun i => m.length - i.1) ⟨0, Nat.zero_le _⟩ ?_ ?_
  · exact weak_hd [] rfl ⟨rfl, rfl, rfl, rfl, trivial⟩ ⟨⟨_, rfl, _, _, rfl, rfl, _, _, rfl, rfl, _, _, rfl, rfl, rfl⟩, ren_row rfl rfl fun i hi j hj => absurd hi (Nat.not_lt_zero _), trivial⟩ trivial (by kernel_rfl)
  rintro ⟨i, hi⟩
  have hi : i ≤ m.length := hi
  have hlen := hfl (fun y => decide (y.kind < x.kind)) i
  refine Sat.go (Eq.refl _) (NS.ite (fun a => ?_) (fun a => ?_))
  · have a : i < m.length := by simpa using a
    have e : fl (fun y => decide (y.kind < x.kind)) m (i + 1) = fl (fun y => decide (y.kind < x.kind)) m i ++ (if (decide ((m.getD i default).kind < x.kind)) = true then [m.getD i default] else []) := filter_snoc (p := fun y : Blk => decide (y.kind < x.kind)) a
    refine Sat.go (Eq.refl _) (NS.chk (by kernel_rfl) ?_)
    refine Sat.go (Eq.refl _) (NS.need (by simp; omega) ?_)
    refine Sat.go (Eq.refl _) (NS.ite (fun b => ?_) (fun b => ?_))
    · have b : decide ((m.getD i default).kind < x.kind) = true := b
      rw [if_pos b] at e
      refine Sat.go (Eq.refl _) (NS.need (by simp; omega) ?_)
      refine Sat.go (Eq.refl _) (NS.need (decide_eq_true (by simp only [maxRow]; show ((fl (fun y => decide (y.kind < x.kind)) m i).length + 1) * (31 + 1 + 1) ≤ _; omega)) ?_)
      refine Sat.go (Eq.refl _) (NS.next ⟨i + 1, by omega⟩ (by show m.length - (i + 1) < m.length - i; omega) ?_)
      refine weak_hd [(29, 50)] rfl ⟨rfl, rfl, rfl, ren_int rfl (i64_k (k := i) (n := m.length) a (by omega)), trivial⟩ ⟨⟨_, rfl, _, _, rfl, rfl, _, _, rfl, rfl, _, _, rfl, rfl, rfl⟩, ?_, trivial⟩ trivial (by kernel_rfl)
      simp only [e]
      exact ren_row rfl (by rw [List.length_append]; rfl) (fun q hq j hj => row_snoc (cells := Blk.cells) (l := fl (fun y => decide (y.kind < x.kind)) m i) (x := m.getD i default) rfl q (by rw [List.length_append] at hq; exact hq) j hj)
    · have b : decide ((m.getD i default).kind < x.kind) = false := b
      rw [if_neg (by rw [b]; simp), List.append_nil] at e
      refine Sat.go (Eq.refl _) (NS.next ⟨i + 1, by omega⟩ (by show m.length - (i + 1) < m.length - i; omega) ?_)
      refine weak_hd [] rfl ⟨rfl, rfl, rfl, ren_int rfl (i64_k (k := i) (n := m.length) a (by omega)), trivial⟩ ⟨⟨_, rfl, _, _, rfl, rfl, _, _, rfl, rfl, _, _, rfl, rfl, rfl⟩, ?_, trivial⟩ trivial (by kernel_rfl)
      simp only [e]
      exact ren_row rfl rfl fun _ _ _ _ => rfl
  have a : i = m.length := by have a : ¬ i < m.length := by simpa using a
                              omega
  subst a
  obtain ⟨F1, hF1⟩ : ∃ F, m.filter (fun y => decide (y.kind < x.kind)) = F := ⟨_, rfl⟩
  obtain ⟨F2, hF2⟩ : ∃ F, m.filter (fun y => decide (y.kind > x.kind)) = F := ⟨_, rfl⟩
  have e1 : fl (fun y => decide (y.kind < x.kind)) m m.length = F1 := by unfold fl; rw [List.take_length, hF1]
  rw [hF1, hF2] at hP
  rw [e1] at hlen
  refine Sat.go (Eq.refl _) (NS.leave rfl (Eq.refl _) ?_)
  simp only [e1]
  refine Sat.go (Eq.refl _) (NS.need (decide_eq_true (by simp only [maxRow]; show (F1.length + 1) * (31 + 1 + 1) ≤ _; omega)) ?_)
  refine Sat.go (Eq.refl _) ?_
  refine NS.loop (σ := { i : Nat // i ≤ m.length }) (fun i => [(3, .ptr 3 0), (7, slBlk m), (8, .own 54), (10, .int .i64 i.1)]) (fun i => [(3, .box x.cells), (54, .row 41 3 (F1 ++ [x] ++ fl (fun y => decide (y.kind > x.kind)) m i.1).length (rowL Blk.cells (F1 ++ [x] ++ fl (fun y => decide (y.kind > x.kind)) m i.1)))]) (fun i => m.length - i.1) ⟨0, Nat.zero_le _⟩ ?_ ?_
  · refine weak_hd [] rfl ⟨rfl, rfl, rfl, rfl, trivial⟩ ⟨⟨_, rfl, _, _, rfl, rfl, _, _, rfl, rfl, _, _, rfl, rfl, rfl⟩, ?_, trivial⟩ trivial (by kernel_rfl)
    refine ren_row rfl (by show F1.length + 1 = (F1 ++ [x] ++ []).length; simp) fun q hq j hj => ?_
    show _ = rowL Blk.cells (F1 ++ [x] ++ []) q j
    rw [List.append_nil]
    exact row_snoc (cells := Blk.cells) (l := F1) (x := x) rfl q (by have hq : q < (F1 ++ [x] ++ []).length := hq; simpa using hq) j hj
  rintro ⟨i, hi⟩
  have hi : i ≤ m.length := hi
  have hlen2 := hfl (fun y => decide (y.kind > x.kind)) i
  obtain ⟨G, hG⟩ : ∃ G, F1 ++ [x] ++ fl (fun y => decide (y.kind > x.kind)) m i = G := ⟨_, rfl⟩
  have hGl : G.length ≤ 17 := by rw [← hG]; simp only [List.length_append, List.length_singleton]; omega
  refine Sat.go (Eq.refl _) (NS.ite (fun a => ?_) (fun a => ?_))
  · have a : i < m.length := by simpa using a
    have e : fl (fun y => decide (y.kind > x.kind)) m (i + 1) = fl (fun y => decide (y.kind > x.kind)) m i ++ (if (decide ((m.getD i default).kind > x.kind)) = true then [m.getD i default] else []) := filter_snoc (p := fun y : Blk => decide (y.kind > x.kind)) a
    refine Sat.go (Eq.refl _) (NS.chk (by kernel_rfl) ?_)
    refine Sat.go (Eq.refl _) (NS.need (by simp; omega) ?_)
    refine Sat.go (Eq.refl _) (NS.ite (fun b => ?_) (fun b => ?_))
    · have b : decide ((m.getD i default).kind > x.kind) = true := b
      rw [if_pos b] at e
      refine Sat.go (Eq.refl _) (NS.need (by simp; omega) ?_)
      refine Sat.go (Eq.refl _) (NS.need (decide_eq_true (by simp only [maxRow]; show ((F1 ++ [x] ++ fl (fun y => decide (y.kind > x.kind)) m i).length + 1) * (31 + 1 + 1) ≤ _; rw [hG]; omega)) ?_)
      refine Sat.go (Eq.refl _) (NS.next ⟨i + 1, by omega⟩ (by show m.length - (i + 1) < m.length - i; omega) ?_)
      refine weak_hd [(54, 75)] rfl ⟨rfl, rfl, rfl, ren_int rfl (i64_k (k := i) (n := m.length) a (by omega)), trivial⟩ ⟨⟨_, rfl, _, _, rfl, rfl, _, _, rfl, rfl, _, _, rfl, rfl, rfl⟩, ?_, trivial⟩ trivial (by kernel_rfl)
      simp only [e]
      rw [← List.append_assoc, hG]
      exact ren_row rfl (by rw [List.length_append]; rfl) (fun q hq j hj => row_snoc (cells := Blk.cells) (l := G) (x := m.getD i default) rfl q (by rw [List.length_append] at hq; exact hq) j hj)
    · have b : decide ((m.getD i default).kind > x.kind) = false := b
      rw [if_neg (by rw [b]; simp), List.append_nil] at e
      refine Sat.go (Eq.refl _) (NS.next ⟨i + 1, by omega⟩ (by show m.length - (i + 1) < m.length - i; omega) ?_)
      refine weak_hd [] rfl ⟨rfl, rfl, rfl, ren_int rfl (i64_k (k := i) (n := m.length) a (by omega)), trivial⟩ ⟨⟨_, rfl, _, _, rfl, rfl, _, _, rfl, rfl, _, _, rfl, rfl, rfl⟩, ?_, trivial⟩ trivial (by kernel_rfl)
      simp only [e]
      exact ren_row rfl rfl fun _ _ _ _ => rfl
  have a : i = m.length := by have a : ¬ i < m.length := by simpa using a
                              omega
  subst a
  have e2 : F1 ++ [x] ++ fl (fun y => decide (y.kind > x.kind)) m m.length = putL l x := by rw [hP]; unfold fl; rw [List.take_length, hF2]
  refine Sat.go (Eq.refl _) (NS.leave rfl (Eq.refl _) ?_)
  refine Sat.go (Eq.refl _) (NS.ret rfl rfl (LeA.tup2 (LeA.sl (by show (F1 ++ [x] ++ fl (fun y => decide (y.kind > x.kind)) m m.length).length = _; rw [e2]) (fun i hi j hj => by show rowL Blk.cells (F1 ++ [x] ++ fl (fun y => decide (y.kind > x.kind)) m m.length) i j = _; rw [e2])) (LeA.refl _)))
theorem rDamaged_ok (s : ByteArray) (hs : s.size ≤ 1000000) : FnOK Tryz.prog 42 [.str s] (.bool (dmgL (ls s)), none) := by
  have hL := ls_len s
  have hS := sgs_len (ls s)
  refine fn_ok CN rfl (by kernel_rfl) Tryz.func42 rfl ?_
  refine Sat.go (Eq.refl _) (NS.ite (fun e => ?_) (fun e => ?_))
  · have e : ((s.size : Int) == 0) = true := e
    simp only [beq_iff_eq] at e
    have e3 : (s.size == 0) = true := by rw [beq_iff_eq]; omega
    exact Sat.go (Eq.refl _) (NS.ret rfl rfl (LeA.of (congrArg A.bool (by unfold dmgL; rw [hL, e3]; simp))))
  have e : ((s.size : Int) == 0) = false := e
  have e2 : (s.size == 0) = false := by
    simp only [beq_eq_false_iff_ne, ne_eq] at e
    rw [beq_eq_false_iff_ne]; intro h; omega
  refine Sat.go (Eq.refl _) (NS.need (rfl) ?_)
  have t9 := tmod9 s
  refine Sat.go (Eq.refl _) (NS.ite (fun f => ?_) (fun f => ?_))
  · have f : (s.size % 9 != 0) = true := by rw [← t9]; exact f
    exact Sat.go (Eq.refl _) (NS.ret rfl rfl (LeA.of (congrArg A.bool (by unfold dmgL; rw [hL, f]; simp))))
  have f : (s.size % 9 != 0) = false := by rw [← t9]; exact f
  have f9 : s.size % 9 = 0 := by simpa using f
  have hD : dmgL (ls s) = !ndsOK (-1) (sgs (ls s)) := by unfold dmgL; rw [hL, f, e2]; simp
  rw [hD]
  refine Sat.go (Eq.refl _) ?_
  refine NS.loop (σ := { k : Nat // 9 * k ≤ s.size ∧ ndsOK (-1) (sgs (ls s)) = ndsOK (if k = 0 then -1 else (nodeL (ls s) (k - 1) : Int)) ((sgs (ls s)).drop k) }) (fun k => [(0, .str s), (3, .int .i64 ((9 * k.1 : Nat) : Int))]) (fun k => []) (fun k => s.size - k.1) ⟨0, by omega, rfl⟩ ?_ ?_
  · exact weak_hd [] rfl ⟨rfl, rfl, trivial⟩ trivial trivial (by kernel_rfl)
  rintro ⟨k, hk, hn⟩
  have hk : 9 * k ≤ s.size := hk
  have hn : ndsOK (-1) (sgs (ls s)) = ndsOK (if k = 0 then -1 else (nodeL (ls s) (k - 1) : Int)) ((sgs (ls s)).drop k) := hn
  refine Sat.go (Eq.refl _) (NS.ite (fun a => ?_) (fun a => ?_))
  · have a : 9 * k < s.size := by have a : decide (((9 * k : Nat) : Int) < (s.size : Int)) = true := a; have := of_decide_eq_true a; omega
    have hlt : k < (sgs (ls s)).length := by omega
    rw [drop_cons hlt, sgs_get (by omega), ndsOK] at hn
    have hg : IntKind.i64.wrap (((s.data.toList.getD ((9 * k : Nat) : Int).toNat 0).toNat : Nat) : Int) = (((ls s).getD (9 * k) 0 : Nat) : Int) := byteS s (9 * k) (.inr trivial)
    have hg2 : ((((ls s).getD (9 * k) 0, ((ls s).drop (9 * k + 1)).take 8) : Sg).1 : Int) = (((ls s).getD (9 * k) 0 : Nat) : Int) := rfl
    have hb0 : (((s.data.toList.getD ((9 * k : Nat) : Int).toNat 0).toNat : Nat) : Int) = (((ls s).getD (9 * k) 0 : Nat) : Int) := congrArg (fun x : Nat => (x : Int)) (ls_get s (9 * k))
    refine Sat.go (Eq.refl _) (NS.chk (by kernel_rfl) ?_)
    refine Sat.go (Eq.refl _) (NS.need (by show decide ((0 : Int) ≤ ((9 * k : Nat) : Int) ∧ ((9 * k : Nat) : Int) < (s.size : Int)) = true; exact decide_eq_true (by omega)) ?_)
    refine Sat.go (Eq.refl _) (NS.ite (fun d => ?_) (fun d => ?_))
    · have d : (((ls s).getD (9 * k) 0 : Nat) : Int) ≥ 16 := by rw [← hg]; exact of_decide_eq_true d
      have e1 : ndsOK (-1) (sgs (ls s)) = false := by rw [hn, decide_eq_false (p := _ < (16 : Int)) (by rw [hg2]; omega), Bool.and_false]; rfl
      exact Sat.go (Eq.refl _) (NS.leaveOut rfl (Eq.refl _) (NS.ret rfl rfl (LeA.of (congrArg A.bool (by rw [e1]; rfl)))))
    have d : ¬ (((ls s).getD (9 * k) 0 : Nat) : Int) ≥ 16 := by rw [← hg]; exact of_decide_eq_false d
    rw [decide_eq_true (p := _ < (16 : Int)) (by rw [hg2]; omega), Bool.and_true] at hn
    refine Sat.go (Eq.refl _) (NS.ite (fun c => ?_) (fun c => ?_))
    · have c : 0 < k := by have c : decide (((9 * k : Nat) : Int) > 0) = true := c; have := of_decide_eq_true c; omega
      obtain ⟨q, rfl⟩ : ∃ q, k = q + 1 := ⟨k - 1, by omega⟩
      have hq : IntKind.i64.wrap (((9 * (q + 1) : Nat) : Int) - 9) = ((9 * q : Nat) : Int) := by rw [wrap_i64 (by omega) (by omega)]; omega
      have hbq : (((s.data.toList.getD ((9 * q : Nat) : Int).toNat 0).toNat : Nat) : Int) = (((ls s).getD (9 * q) 0 : Nat) : Int) := congrArg (fun x : Nat => (x : Int)) (ls_get s (9 * q))
      rw [if_neg (by omega), show q + 1 - 1 = q by omega] at hn
      have hn : ndsOK (-1) (sgs (ls s)) = (decide ((((ls s).getD (9 * q) 0 : Nat) : Int) < (((ls s).getD (9 * (q + 1)) 0 : Nat) : Int)) && ndsOK (((ls s).getD (9 * (q + 1)) 0 : Nat) : Int) ((sgs (ls s)).drop (q + 1 + 1))) := hn
      refine Sat.go (Eq.refl _) (NS.need (by show decide ((0 : Int) ≤ ((9 * (q + 1) : Nat) : Int) ∧ ((9 * (q + 1) : Nat) : Int) < (s.size : Int)) = true; exact decide_eq_true (by omega)) ?_)
      refine Sat.go (Eq.refl _) (NS.need (by show decide ((0 : Int) ≤ IntKind.i64.wrap (((9 * (q + 1) : Nat) : Int) - 9) ∧ IntKind.i64.wrap (((9 * (q + 1) : Nat) : Int) - 9) < (s.size : Int)) = true; rw [hq]; exact decide_eq_true (by omega)) ?_)
      refine Sat.go (Eq.refl _) (NS.ite (fun f => ?_) (fun f => ?_))
      · have f : (((ls s).getD (9 * (q + 1)) 0 : Nat) : Int) ≤ (((ls s).getD (9 * q) 0 : Nat) : Int) := by
          have f : decide ((((s.data.toList.getD ((9 * (q + 1) : Nat) : Int).toNat 0).toNat : Nat) : Int) ≤ (((s.data.toList.getD (IntKind.i64.wrap (((9 * (q + 1) : Nat) : Int) - 9)).toNat 0).toNat : Nat) : Int)) = true := f
          rw [hq, hb0, hbq] at f
          exact of_decide_eq_true f
        have e1 : ndsOK (-1) (sgs (ls s)) = false := by rw [hn, decide_eq_false (by omega)]; rfl
        exact Sat.go (Eq.refl _) (NS.leaveOut rfl (Eq.refl _) (NS.ret rfl rfl (LeA.of (congrArg A.bool (by rw [e1]; rfl)))))
      · have f : ¬ (((ls s).getD (9 * (q + 1)) 0 : Nat) : Int) ≤ (((ls s).getD (9 * q) 0 : Nat) : Int) := by
          have f : decide ((((s.data.toList.getD ((9 * (q + 1) : Nat) : Int).toNat 0).toNat : Nat) : Int) ≤ (((s.data.toList.getD (IntKind.i64.wrap (((9 * (q + 1) : Nat) : Int) - 9)).toNat 0).toNat : Nat) : Int)) = false := f
          rw [hq, hb0, hbq] at f
          exact of_decide_eq_false f
        rw [decide_eq_true (by omega), Bool.true_and] at hn
        refine Sat.go (Eq.refl _) (NS.next ⟨q + 1 + 1, by omega, by rw [if_neg (by omega)]; exact hn⟩ (by show s.size - (q + 1 + 1) < s.size - (q + 1); omega) ?_)
        exact weak_hd [] rfl ⟨rfl, ren_int rfl (nine (k := q + 1) (by omega)), trivial⟩ trivial trivial (by kernel_rfl)
    have c : k = 0 := by have c : decide (((9 * k : Nat) : Int) > 0) = false := c; have := of_decide_eq_false c; omega
    subst c
    rw [if_pos rfl, decide_eq_true (by rw [hg2]; omega), Bool.true_and] at hn
    refine Sat.go (Eq.refl _) (NS.next ⟨0 + 1, by omega, by rw [if_neg (by omega)]; exact hn⟩ (by show s.size - (0 + 1) < s.size - 0; omega) ?_)
    exact weak_hd [] rfl ⟨rfl, ren_int rfl (nine (k := 0) (by omega)), trivial⟩ trivial trivial (by kernel_rfl)
  have a : 9 * k = s.size := by have a : decide (((9 * k : Nat) : Int) < (s.size : Int)) = false := a; have := of_decide_eq_false a; omega
  rw [List.drop_eq_nil_of_le (by omega)] at hn
  have hn : ndsOK (-1) (sgs (ls s)) = true := hn
  refine Sat.go (Eq.refl _) (NS.leave rfl (Eq.refl _) ?_)
  exact Sat.go (Eq.refl _) (NS.ret rfl rfl (LeA.of (congrArg A.bool (by rw [hn]; rfl))))
end Go.Proofs.YtdhfgfkfejpfdaaGreat
