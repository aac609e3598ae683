/- The codes of replay windows. -/
import Derived.Test.YtphegncldncaiaaPF
import Derived.Test.YtphegncldncaiaaWD
import Derived.Test.YtphegncldncaiaaVF
set_option linter.unusedSimpArgs false
set_option linter.unusedSectionVars false
set_option linter.unusedVariables false
namespace Go.Mb
open Go.Sy
set_option linter.unusedVariables false
def encW (w : Win) : List Nat := encI w.size ++ encI w.top ++ encLL w.seen
def encWM (w : Win) : ByteArray × Int := if chkW w != 0 then (.empty, 1) else (bs (sealL (encW w)), 0)
def winR (t : List Nat) : Win := ⟨(rdI t).1, (rdI (t.drop (rdI t).2.1)).1, (rdL (t.drop ((rdI t).2.1 + (rdI (t.drop (rdI t).2.1)).2.1))).1⟩
def decW (l : List Nat) : Win × Int :=
  if (opL l).2.2 != 0 || (opL l).2.1 != l.length then (⟨0, 0, []⟩, 11) else
  if (rdI (opL l).1).2.2 != 0 then (⟨0, 0, []⟩, 11) else
  if (rdI ((opL l).1.drop (rdI (opL l).1).2.1)).2.2 != 0 then (⟨0, 0, []⟩, 11) else
  if (rdL ((opL l).1.drop ((rdI (opL l).1).2.1 + (rdI ((opL l).1.drop (rdI (opL l).1).2.1)).2.1))).2.2 != 0 ||
    (rdI (opL l).1).2.1 + (rdI ((opL l).1.drop (rdI (opL l).1).2.1)).2.1 + (rdL ((opL l).1.drop ((rdI (opL l).1).2.1 + (rdI ((opL l).1.drop (rdI (opL l).1).2.1)).2.1))).2.1 != (opL l).1.length ||
    chkW (winR (opL l).1) != 0 then (⟨0, 0, []⟩, 11) else (winR (opL l).1, 0)
theorem good_in {w : Win} (h : GoodW w) : inI w.size = true ∧ inI w.top = true ∧ (∀ x ∈ w.seen, inI x = true) := by
  have := h.s1
  have := h.s2
  have := h.t1
  have := h.t2
  refine ⟨by rw [inI_iff]; omega, by rw [inI_iff]; omega, fun x hx => ?_⟩
  have := h.mem x hx
  rw [inI_iff]; omega
theorem encW_len {w : Win} (h : GoodW w) : (encW w).length ≤ 65536 := by
  obtain ⟨h1, h2, h3⟩ := good_in h
  have a := encI_len h1
  have b := encI_len h2
  have c := encL_len h3
  have d := good_len h
  have e := encI_len (inI_nat (n := w.seen.length) (by omega))
  simp only [encW, encLL, List.length_append]
  omega
theorem encW_lt (w : Win) : ∀ x ∈ encW w, x < 256 := by
  intro x hx
  simp only [encW, encLL, List.mem_append] at hx
  rcases hx with (hx | hx) | (hx | hx)
  · exact encZ_mem hx
  · exact encZ_mem hx
  · exact encZ_mem hx
  · simp only [encL, List.mem_flatMap] at hx
    obtain ⟨a, _, h⟩ := hx
    exact encZ_mem h
theorem bne_self_nat (n : Nat) : (n != n) = false := by simp
/-- Decoding the encoding yields the window. -/
theorem dec_enc {w : Win} (h : GoodW w) : decW (sealL (encW w)) = (w, 0) := by
  obtain ⟨h1, h2, h3⟩ := good_in h
  have hl := good_len h
  have eo := opL_seal (encW_len h) []
  rw [List.append_nil] at eo
  have r1 : rdI (encW w) = (w.size, (encI w.size).length, 0) := by
    unfold encW; rw [List.append_assoc]; exact rdI_enc h1 _
  have d1 : (encW w).drop (encI w.size).length = encI w.top ++ encLL w.seen := by unfold encW; rw [List.append_assoc]; exact drop_len_append _ _
  have r2 := rdI_enc h2 (encLL w.seen)
  have d2 : (encW w).drop ((encI w.size).length + (encI w.top).length) = encLL w.seen := by rw [← List.drop_drop, d1]; exact drop_len_append _ _
  have r3 := rdL_enc h3 (by omega) []
  rw [List.append_nil] at r3
  have hw : winR (encW w) = w := by unfold winR; rw [r1]; simp only; rw [d1, r2]; simp only; rw [d2, r3]
  unfold decW
  rw [eo]
  simp only
  rw [r1]
  simp only
  rw [d1, r2]
  simp only
  rw [d2, r3, hw, (good_iff w).2 h]
  simp [encW, Nat.add_assoc]
theorem dec_more {w : Win} (h : GoodW w) {s : List Nat} (hs : s ≠ []) : decW (sealL (encW w) ++ s) = (⟨0, 0, []⟩, 11) := by
  have eo := opL_seal (encW_len h) s
  unfold decW
  rw [eo]
  simp only
  rw [if_pos]
  have : 0 < s.length := List.length_pos_iff.2 hs
  simp; omega
theorem dec_ok {l : List Nat} (hl : ∀ x ∈ l, x < 256) (h : (decW l).2 = 0) : GoodW (decW l).1 ∧ sealL (encW (decW l).1) = l := by
  unfold decW at h ⊢
  split at h
  · cases h
  · rename_i c1
    rw [if_neg c1]
    split at h
    · cases h
    · rename_i c2
      rw [if_neg c2]
      split at h
      · cases h
      · rename_i c3
        rw [if_neg c3]
        split at h
        · cases h
        · rename_i c4
          rw [if_neg c4]
          simp only [Bool.or_eq_true, bne_iff_ne, ne_eq, not_or, Decidable.not_not] at c1 c2 c3 c4
          obtain ⟨c11, c12⟩ := c1
          obtain ⟨⟨c41, c42⟩, c43⟩ := c4
          have hg := (good_iff _).1 c43
          refine ⟨hg, ?_⟩
          have ho : opL l = ((opL l).1, l.length, 0) := by rw [← c11, ← c12]
          obtain ⟨o1, _, o3⟩ := opL_ok hl ho
          rw [List.take_length] at o1
          have hT := opL_lt hl
          have hr1 : rdI (opL l).1 = ((rdI (opL l).1).1, (rdI (opL l).1).2.1, 0) := by rw [← c2]
          have hr2 : rdI ((opL l).1.drop (rdI (opL l).1).2.1) = ((rdI ((opL l).1.drop (rdI (opL l).1).2.1)).1, (rdI ((opL l).1.drop (rdI (opL l).1).2.1)).2.1, 0) := by rw [← c3]
          have hr3 : rdL ((opL l).1.drop ((rdI (opL l).1).2.1 + (rdI ((opL l).1.drop (rdI (opL l).1).2.1)).2.1)) = ((winR (opL l).1).seen, (rdL ((opL l).1.drop ((rdI (opL l).1).2.1 + (rdI ((opL l).1.drop (rdI (opL l).1).2.1)).2.1))).2.1, 0) := by rw [← c41]; rfl
          obtain ⟨_, i2, i3, _, _⟩ := rdI_ok hT hr1
          obtain ⟨_, j2, j3, _, _⟩ := rdI_ok (mem_drop_lt hT _) hr2
          obtain ⟨_, _, k3, k4⟩ := rdL_ok (mem_drop_lt hT _) hr3
          have e1 : encI (winR (opL l).1).size = (opL l).1.take (rdI (opL l).1).2.1 := i2.symm
          have e2 : encI (winR (opL l).1).top = ((opL l).1.drop (rdI (opL l).1).2.1).take (rdI ((opL l).1.drop (rdI (opL l).1).2.1)).2.1 := j2.symm
          generalize (opL l).1 = t at *
          generalize (rdI t).2.1 = b1 at *
          generalize (rdI (t.drop b1)).2.1 = b2 at *
          generalize (rdL (t.drop (b1 + b2))).2.1 = b3 at *
          have et : encW (winR t) = t := by
            unfold encW
            rw [e1, e2, ← k4, ← List.take_add, ← List.take_add, c42, List.take_length]
          rw [et]
          exact o1.symm
theorem decW_bad (l : List Nat) : (decW l).2 = 0 ∨ decW l = (⟨0, 0, []⟩, 11) := by
  unfold decW
  repeat' split
  all_goals first | exact .inr rfl | exact .inl rfl
end Go.Mb
namespace Go.Proofs.Ytphegncldncaiaa
open Go.Sy Go.Mb
set_option maxRecDepth 100000
set_option linter.unusedVariables false
set_option maxHeartbeats 4000000

theorem numbers_ok (l : List Int) (h : ∀ x ∈ l, inI x = true) (hl : l.length ≤ 1000) : FnOK Try.prog 38 [slN l] (.str (bs (encL l)), none) := by
  refine fn_ok VN rfl (by kernel_rfl) Try.func38 rfl ?_
  refine Sat.go (Eq.refl _) ?_
  refine NS.loop (σ := { k : Nat // k ≤ l.length }) (fun k => [(3, .str (bs (encL (l.take k.1)))), (8, slN l), (9, .int .i64 l.length), (10, .int .i64 k.1)]) (fun k => []) (fun k => l.length - k.1) ⟨0, Nat.zero_le _⟩ ?_ ?_
  · exact weak_hd [] rfl ⟨ren_str rfl rfl, rfl, rfl, rfl, trivial⟩ trivial trivial (by kernel_rfl)
  rintro ⟨k, hk⟩
  refine Sat.go (Eq.refl _) (NS.ite (fun h2 => ?_) (fun h2 => ?_))
  · have h2 : k < l.length := by simpa using h2
    have hx : inI (l.getD k default) = true := memD (p := fun x => inI x = true) h h2
    have hel := encL_len (l := l.take k) (fun x hx => h x (List.mem_of_mem_take hx))
    have hxl := encI_len hx
    simp only [List.length_take] at hel
    have c := int_ok (l.getD k default)
    rw [intM_ok hx] at c
    refine Sat.go (Eq.refl _) (NS.need (by simp; omega) ?_)
    refine Sat.go (Eq.refl _) (NS.call (c) rfl ?_)
    refine Sat.go (Eq.refl _) (NS.need (decide_eq_true (by rw [bs_len, bs_len]; show (encL (l.take k)).length + _ ≤ _; omega)) ?_)
    refine Sat.go (Eq.refl _) (NS.next ⟨k + 1, by omega⟩ (by simp; omega) ?_)
    refine weak_hd [] rfl ⟨ren_str rfl ?_, rfl, rfl, ren_int rfl (i64_k (k := k) (n := l.length) (by omega) (by omega)), trivial⟩ trivial trivial (by kernel_rfl)
    show bs (encL (l.take k)) ++ bs (Mb.encI (l.getD k default)) = bs (encL (l.take (k + 1)))
    rw [← bs_append, encL_snoc l k h2]
  · have h2 : ¬ k < l.length := by simpa using h2
    obtain rfl : k = l.length := by omega
    refine Sat.go (Eq.refl _) (NS.leave rfl (Eq.refl _) ?_)
    exact Sat.go (Eq.refl _) (NS.ret rfl rfl (LeA.of (congrArg A.str (by show bs (encL (l.take l.length)) = _; rw [List.take_length]))))
theorem good_list {w : Win} (hg : GoodW w) : listM w.seen = (bs (encLL w.seen), 0) := by
  have hl := good_len hg
  refine listM_good (by simp; omega) fun i hi => ?_
  exact memD (p := fun x => inI x = true) (good_in hg).2.2 hi
theorem seal_good {w : Win} (hg : GoodW w) : sealM (bs (encW w)) = (bs (sealL (encW w)), 0) := by
  unfold sealM
  rw [bs_len, ls_bs (encW_lt w), if_neg]
  have := encW_len hg
  simp; omega
theorem encode_ok (w : Win) : FnOK Try.prog 26 [.agg w.cells] (.tup [.str (encWM w).1, .int .i64 (encWM w).2], none) := by
  refine fn_ok CN rfl (by kernel_rfl) Try.func26 rfl ?_
  refine Sat.go (Eq.refl _) (NS.call (check_ok w) rfl ?_)
  refine Sat.go (Eq.refl _) (NS.ite (fun h1 => ?_) (fun h1 => ?_))
  · exact Sat.go (Eq.refl _) (NS.ret rfl rfl (str_le (by unfold encWM; rw [if_pos h1]; rfl)))
  have hg := (good_iff w).1 (by simpa using h1)
  obtain ⟨g1, g2, g3⟩ := good_in hg
  have c := list_ok w.seen
  rw [good_list hg] at c
  have c2 := numbers_ok [w.size, w.top] (by intro x hx; simp only [List.mem_cons, List.not_mem_nil, or_false] at hx; rcases hx with rfl | rfl; exact g1; exact g2) (by simp)
  have c3 := seal_ok (bs (encW w))
  rw [seal_good hg] at c3
  have hel := encW_len hg
  have ew : bs (encL [w.size, w.top]) ++ bs (encLL w.seen) = bs (encW w) := by rw [← bs_append]; simp [encL, encW]
  refine Sat.go (Eq.refl _) (NS.call (c) rfl ?_)
  refine Sat.go (Eq.refl _) (NS.no (rfl) ?_)
  refine Sat.go (Eq.refl _) (NS.call (c2.le (LeL.cons (LeA.sl rfl fun i hi j hj => ?_) LeL.nil)) rfl ?_)
  · have hj : j < 1 := hj
    obtain rfl : j = 0 := by omega
    match i, hi with
    | 0, _ => rfl
    | 1, _ => rfl
  have hsum : (encW w).length = (encL [w.size, w.top]).length + (encLL w.seen).length := by simp [encW, encL, Nat.add_assoc]
  refine Sat.go (Eq.refl _) (NS.need (decide_eq_true (by rw [bs_len, bs_len]; omega)) ?_)
  rw [ew]
  refine Sat.go (Eq.refl _) (NS.call (c3) rfl ?_)
  exact Sat.go (Eq.refl _) (NS.ret rfl rfl (str_le (by unfold encWM; rw [if_neg (by rw [h1]; simp)])))
theorem rEncode_ok (w : Win) : FnOK Try.prog 27 [.agg w.cells] (.tup [.str (encWM w).1, .int .i64 (encWM w).2], none) := by
  refine fn_ok CN rfl (by kernel_rfl) Try.func27 rfl ?_
  refine Sat.go (Eq.refl _) (NS.call (rCheck_ok w) rfl ?_)
  refine Sat.go (Eq.refl _) (NS.ite (fun h1 => ?_) (fun h1 => ?_))
  · exact Sat.go (Eq.refl _) (NS.ret rfl rfl (str_le (by unfold encWM; rw [if_pos h1]; rfl)))
  have hg := (good_iff w).1 (by simpa using h1)
  obtain ⟨g1, g2, g3⟩ := good_in hg
  have c0 := rInt_ok w.size
  rw [intM_ok g1] at c0
  have c1 := rInt_ok w.top
  rw [intM_ok g2] at c1
  have c := rList_ok w.seen
  rw [good_list hg] at c
  have c3 := rSeal_ok (bs (encW w))
  rw [seal_good hg] at c3
  have hel := encW_len hg
  have ew : bs (Mb.encI w.size) ++ bs (Mb.encI w.top) ++ bs (encLL w.seen) = bs (encW w) := by rw [← bs_append, ← bs_append]; rfl
  have hsum : (encW w).length = (Mb.encI w.size).length + (Mb.encI w.top).length + (encLL w.seen).length := by simp [encW]; omega
  have hs1 : (bs (Mb.encI w.size) ++ bs (Mb.encI w.top)).size = (Mb.encI w.size).length + (Mb.encI w.top).length := by rw [← bs_append, bs_len, List.length_append]
  refine Sat.go (Eq.refl _) (NS.call (c0) rfl ?_)
  refine Sat.go (Eq.refl _) (NS.call (c1) rfl ?_)
  refine Sat.go (Eq.refl _) (NS.call (c) rfl ?_)
  refine Sat.go (Eq.refl _) (NS.need (decide_eq_true (by rw [bs_len, bs_len]; omega)) ?_)
  refine Sat.go (Eq.refl _) (NS.need (decide_eq_true (by rw [hs1, bs_len]; omega)) ?_)
  rw [ew]
  refine Sat.go (Eq.refl _) (NS.call (c3) rfl ?_)
  exact Sat.go (Eq.refl _) (NS.ret rfl rfl (str_le (by unfold encWM; rw [if_neg (by rw [h1]; simp)])))
theorem dropS (s : ByteArray) (k : Nat) (h : k ≤ s.size) : ls (s.extract (Int.toNat ((k : Nat) : Int)) (Int.toNat ((s.size : Nat) : Int))) = (ls s).drop k := by
  rw [ls_extract]; show ((ls s).take s.size).drop k = _
  rw [take_all (by rw [ls_len]; exact Nat.le_refl _)]
theorem decode_ok (s : ByteArray) (hs : s.size ≤ 100000) : FnOK Try.prog 28 [.str s] (.tup [.agg (decW (ls s)).1.cells, .int .i64 (decW (ls s)).2], none) := by
  have hs : s.size ≤ 1000000 := by omega
  have hll := ls_len s
  have hT := opL_lt (ls_lt s)
  have hTl := (opL_len (ls s)).2
  generalize hd : decW (ls s) = D
  unfold decW at hd
  refine fn_ok CN rfl (by kernel_rfl) Try.func28 rfl ?_
  refine Sat.go (Eq.refl _) (NS.call (open_ok s hs) rfl ?_)
  refine Sat.go (Eq.refl _) (NS.ite (fun c1 => ?_) (fun c1 => ?_))
  · rw [if_pos (by rw [c1]; rfl)] at hd
    exact Sat.go (Eq.refl _) (NS.ret rfl rfl (win_le hd.symm zero_le_win))
  refine Sat.go (Eq.refl _) (NS.ite (fun c2 => ?_) (fun c2 => ?_))
  · have c2 : (((opL (ls s)).2.1 : Nat) : Int) ≠ (s.size : Int) := by simpa using c2
    rw [if_pos (by simp; omega)] at hd
    exact Sat.go (Eq.refl _) (NS.ret rfl rfl (win_le hd.symm zero_le_win))
  have c2 : (((opL (ls s)).2.1 : Nat) : Int) = (s.size : Int) := by simpa using c2
  rw [if_neg (by simp at c1; simp [c1]; omega)] at hd
  generalize (opL (ls s)).1 = T at *
  have hbt : ls (bs T) = T := ls_bs hT
  have hbl := bs_len T
  have k1 := readInt_ok (bs T) (by omega)
  rw [hbt] at k1
  refine Sat.go (Eq.refl _) (NS.call (k1) rfl ?_)
  refine Sat.go (Eq.refl _) (NS.ite (fun c3 => ?_) (fun c3 => ?_))
  · rw [if_pos c3] at hd
    exact Sat.go (Eq.refl _) (NS.ret rfl rfl (win_le hd.symm zero_le_win))
  rw [if_neg (by rw [c3]; simp)] at hd
  have hr1 : rdI T = ((rdI T).1, (rdI T).2.1, 0) := by
    have : (rdI T).2.2 = 0 := by simpa using c3
    rw [← this]
  have q1 := (rdI_ok hT hr1).2.2.1
  generalize hb1 : (rdI T).2.1 = b1 at *
  refine Sat.go (Eq.refl _) (NS.need (decide_eq_true ⟨Int.natCast_nonneg b1, by omega, Int.le_refl _⟩) ?_)
  have k2 := readInt_ok ((bs T).extract (Int.toNat ((b1 : Nat) : Int)) (Int.toNat (((bs T).size : Nat) : Int))) (by have := ex_size (bs T) b1 (bs T).size; exact Nat.le_trans this (by omega))
  rw [dropS (bs T) b1 (by omega), hbt] at k2
  refine Sat.go (Eq.refl _) (NS.call (k2) rfl ?_)
  refine Sat.go (Eq.refl _) (NS.ite (fun c4 => ?_) (fun c4 => ?_))
  · rw [if_pos c4] at hd
    exact Sat.go (Eq.refl _) (NS.ret rfl rfl (win_le hd.symm zero_le_win))
  rw [if_neg (by rw [c4]; simp)] at hd
  have hr2 : rdI (T.drop b1) = ((rdI (T.drop b1)).1, (rdI (T.drop b1)).2.1, 0) := by
    have : (rdI (T.drop b1)).2.2 = 0 := by simpa using c4
    rw [← this]
  have q2 := (rdI_ok (mem_drop_lt hT b1) hr2).2.2.1
  rw [List.length_drop] at q2
  generalize hb2 : (rdI (T.drop b1)).2.1 = b2 at *
  have eb : IntKind.i64.wrap ((b1 : Int) + (b2 : Int)) = ((b1 + b2 : Nat) : Int) := by rw [wrap_i64 (by omega) (by omega)]; omega
  refine Sat.go (Eq.refl _) (NS.need (decide_eq_true (by rw [eb]; exact ⟨Int.natCast_nonneg _, by omega, Int.le_refl _⟩)) ?_)
  rw [eb]
  have k3 := readList_ok ((bs T).extract (Int.toNat ((b1 + b2 : Nat) : Int)) (Int.toNat (((bs T).size : Nat) : Int))) (by have := ex_size (bs T) (b1 + b2) (bs T).size; exact Nat.le_trans this (by omega))
  rw [dropS (bs T) (b1 + b2) (by omega), hbt] at k3
  have hwin : winR T = ⟨(rdI T).1, (rdI (T.drop b1)).1, (rdL (T.drop (b1 + b2))).1⟩ := by unfold winR; rw [hb1, hb2]
  refine Sat.go (Eq.refl _) (NS.call (k3) rfl ?_)
  refine Sat.go (Eq.refl _) (NS.ite (fun c5 => ?_) (fun c5 => ?_))
  · rw [if_pos (by rw [c5]; rfl)] at hd
    exact Sat.go (Eq.refl _) (NS.ret rfl rfl (win_le hd.symm zero_le_win))
  have hr3 : rdL (T.drop (b1 + b2)) = ((rdL (T.drop (b1 + b2))).1, (rdL (T.drop (b1 + b2))).2.1, 0) := by
    have : (rdL (T.drop (b1 + b2))).2.2 = 0 := by simpa using c5
    rw [← this]
  have q3 := (rdL_ok (mem_drop_lt hT (b1 + b2)) hr3).2.2.1
  rw [List.length_drop] at q3
  generalize hb3 : (rdL (T.drop (b1 + b2))).2.1 = b3 at *
  have eb3 : IntKind.i64.wrap (((b1 + b2 : Nat) : Int) + (b3 : Int)) = ((b1 + b2 + b3 : Nat) : Int) := by rw [wrap_i64 (by omega) (by omega)]; omega
  refine Sat.go (Eq.refl _) (NS.ite (fun c6 => ?_) (fun c6 => ?_))
  · rw [eb, eb3] at c6
    have c6 : ((b1 + b2 + b3 : Nat) : Int) ≠ ((bs T).size : Int) := by simpa using c6
    rw [if_pos (by rw [show (b1 + b2 + b3 != T.length) = true by simp; omega]; simp)] at hd
    exact Sat.go (Eq.refl _) (NS.ret rfl rfl (win_le hd.symm zero_le_win))
  rw [eb, eb3] at c6
  have c6 : ((b1 + b2 + b3 : Nat) : Int) = ((bs T).size : Int) := by simpa using c6
  refine Sat.go (Eq.refl _) (NS.call (check_ok ⟨(rdI T).1, (rdI (T.drop b1)).1, (rdL (T.drop (b1 + b2))).1⟩) rfl ?_)
  rw [← hwin]
  refine Sat.go (Eq.refl _) (NS.ite (fun c7 => ?_) (fun c7 => ?_))
  · rw [if_pos (by rw [c7]; simp)] at hd
    exact Sat.go (Eq.refl _) (NS.ret rfl rfl (win_le hd.symm zero_le_win))
  rw [if_neg (by rw [c5, c7, show (b1 + b2 + b3 != T.length) = false by simp; omega]; simp)] at hd
  exact Sat.go (Eq.refl _) (NS.ret rfl rfl (win_le hd.symm (LeA.of (by rw [hwin]; rfl))))
theorem rDecode_ok (s : ByteArray) (hs : s.size ≤ 100000) : FnOK Try.prog 29 [.str s] (.tup [.agg (decW (ls s)).1.cells, .int .i64 (decW (ls s)).2], none) := by
  have hs : s.size ≤ 1000000 := by omega
  have hll := ls_len s
  have hT := opL_lt (ls_lt s)
  have hTl := (opL_len (ls s)).2
  generalize hd : decW (ls s) = D
  unfold decW at hd
  refine fn_ok CN rfl (by kernel_rfl) Try.func29 rfl ?_
  refine Sat.go (Eq.refl _) (NS.call (rOpen_ok s hs) rfl ?_)
  refine Sat.go (Eq.refl _) (NS.ite (fun c1 => ?_) (fun c1 => ?_))
  · rw [if_pos (by rw [c1]; rfl)] at hd
    exact Sat.go (Eq.refl _) (NS.ret rfl rfl (win_le hd.symm zero_le_win))
  refine Sat.go (Eq.refl _) (NS.ite (fun c2 => ?_) (fun c2 => ?_))
  · have c2 : (((opL (ls s)).2.1 : Nat) : Int) ≠ (s.size : Int) := by simpa using c2
    rw [if_pos (by simp; omega)] at hd
    exact Sat.go (Eq.refl _) (NS.ret rfl rfl (win_le hd.symm zero_le_win))
  have c2 : (((opL (ls s)).2.1 : Nat) : Int) = (s.size : Int) := by simpa using c2
  rw [if_neg (by simp at c1; simp [c1]; omega)] at hd
  generalize (opL (ls s)).1 = T at *
  have hbt : ls (bs T) = T := ls_bs hT
  have hbl := bs_len T
  have k1 := rReadInt_ok (bs T)
  rw [hbt] at k1
  refine Sat.go (Eq.refl _) (NS.call (k1) rfl ?_)
  refine Sat.go (Eq.refl _) (NS.ite (fun c3 => ?_) (fun c3 => ?_))
  · rw [if_pos c3] at hd
    exact Sat.go (Eq.refl _) (NS.ret rfl rfl (win_le hd.symm zero_le_win))
  rw [if_neg (by rw [c3]; simp)] at hd
  have hr1 : rdI T = ((rdI T).1, (rdI T).2.1, 0) := by
    have : (rdI T).2.2 = 0 := by simpa using c3
    rw [← this]
  have q1 := (rdI_ok hT hr1).2.2.1
  generalize hb1 : (rdI T).2.1 = b1 at *
  refine Sat.go (Eq.refl _) (NS.need (decide_eq_true ⟨Int.natCast_nonneg b1, by omega, Int.le_refl _⟩) ?_)
  have k2 := rReadInt_ok ((bs T).extract (Int.toNat ((b1 : Nat) : Int)) (Int.toNat (((bs T).size : Nat) : Int)))
  rw [dropS (bs T) b1 (by omega), hbt] at k2
  refine Sat.go (Eq.refl _) (NS.call (k2) rfl ?_)
  refine Sat.go (Eq.refl _) (NS.ite (fun c4 => ?_) (fun c4 => ?_))
  · rw [if_pos c4] at hd
    exact Sat.go (Eq.refl _) (NS.ret rfl rfl (win_le hd.symm zero_le_win))
  rw [if_neg (by rw [c4]; simp)] at hd
  have hr2 : rdI (T.drop b1) = ((rdI (T.drop b1)).1, (rdI (T.drop b1)).2.1, 0) := by
    have : (rdI (T.drop b1)).2.2 = 0 := by simpa using c4
    rw [← this]
  have q2 := (rdI_ok (mem_drop_lt hT b1) hr2).2.2.1
  rw [List.length_drop] at q2
  generalize hb2 : (rdI (T.drop b1)).2.1 = b2 at *
  have eb : IntKind.i64.wrap ((b1 : Int) + (b2 : Int)) = ((b1 + b2 : Nat) : Int) := by rw [wrap_i64 (by omega) (by omega)]; omega
  refine Sat.go (Eq.refl _) (NS.need (decide_eq_true (by rw [eb]; exact ⟨Int.natCast_nonneg _, by omega, Int.le_refl _⟩)) ?_)
  rw [eb]
  have k3 := rReadList_ok ((bs T).extract (Int.toNat ((b1 + b2 : Nat) : Int)) (Int.toNat (((bs T).size : Nat) : Int))) (by have := ex_size (bs T) (b1 + b2) (bs T).size; exact Nat.le_trans this (by omega))
  rw [dropS (bs T) (b1 + b2) (by omega), hbt] at k3
  have hwin : winR T = ⟨(rdI T).1, (rdI (T.drop b1)).1, (rdL (T.drop (b1 + b2))).1⟩ := by unfold winR; rw [hb1, hb2]
  refine Sat.go (Eq.refl _) (NS.call (k3) rfl ?_)
  refine Sat.go (Eq.refl _) (NS.ite (fun c5 => ?_) (fun c5 => ?_))
  · rw [if_pos (by rw [c5]; rfl)] at hd
    exact Sat.go (Eq.refl _) (NS.ret rfl rfl (win_le hd.symm zero_le_win))
  have hr3 : rdL (T.drop (b1 + b2)) = ((rdL (T.drop (b1 + b2))).1, (rdL (T.drop (b1 + b2))).2.1, 0) := by
    have : (rdL (T.drop (b1 + b2))).2.2 = 0 := by simpa using c5
    rw [← this]
  have q3 := (rdL_ok (mem_drop_lt hT (b1 + b2)) hr3).2.2.1
  rw [List.length_drop] at q3
  generalize hb3 : (rdL (T.drop (b1 + b2))).2.1 = b3 at *
  have eb3 : IntKind.i64.wrap (((b1 + b2 : Nat) : Int) + (b3 : Int)) = ((b1 + b2 + b3 : Nat) : Int) := by rw [wrap_i64 (by omega) (by omega)]; omega
  refine Sat.go (Eq.refl _) (NS.ite (fun c6 => ?_) (fun c6 => ?_))
  · rw [eb, eb3] at c6
    have c6 : ((b1 + b2 + b3 : Nat) : Int) ≠ ((bs T).size : Int) := by simpa using c6
    rw [if_pos (by rw [show (b1 + b2 + b3 != T.length) = true by simp; omega]; simp)] at hd
    exact Sat.go (Eq.refl _) (NS.ret rfl rfl (win_le hd.symm zero_le_win))
  rw [eb, eb3] at c6
  have c6 : ((b1 + b2 + b3 : Nat) : Int) = ((bs T).size : Int) := by simpa using c6
  refine Sat.go (Eq.refl _) (NS.call (rCheck_ok ⟨(rdI T).1, (rdI (T.drop b1)).1, (rdL (T.drop (b1 + b2))).1⟩) rfl ?_)
  rw [← hwin]
  refine Sat.go (Eq.refl _) (NS.ite (fun c7 => ?_) (fun c7 => ?_))
  · rw [if_pos (by rw [c7]; simp)] at hd
    exact Sat.go (Eq.refl _) (NS.ret rfl rfl (win_le hd.symm zero_le_win))
  rw [if_neg (by rw [c5, c7, show (b1 + b2 + b3 != T.length) = false by simp; omega]; simp)] at hd
  exact Sat.go (Eq.refl _) (NS.ret rfl rfl (win_le hd.symm (LeA.of (by rw [hwin]; rfl))))
theorem dec_len {l : List Nat} : (decW l).1.seen.length ≤ 1000000 := by
  rcases decW_bad l with h | h
  · unfold decW at h ⊢
    split at h
    · cases h
    · rename_i c1
      rw [if_neg c1]
      split at h
      · cases h
      · rename_i c2
        rw [if_neg c2]
        split at h
        · cases h
        · rename_i c3
          rw [if_neg c3]
          split at h
          · cases h
          · rename_i c4
            rw [if_neg c4]
            simp only [Bool.or_eq_true, bne_iff_ne, ne_eq, not_or, Decidable.not_not] at c4
            have := good_len ((good_iff _).1 c4.2)
            simp only
            omega
  · rw [h]; simp
theorem replayBytes_ok (w : Win) (s : ByteArray) : FnOK Try.prog 8 [.agg w.cells, .str s] (.bool true, none) := by
  refine fn_ok CN rfl (by kernel_rfl) Try.func8 rfl ?_
  refine Sat.go (Eq.refl _) (NS.call (great_ok w) rfl ?_)
  refine Sat.go (Eq.refl _) (NS.ite (fun h0 => ?_) (fun h0 => ?_))
  · refine Sat.go (Eq.refl _) (NS.call (awake_ok) rfl ?_)
    exact Sat.go (Eq.refl _) (NS.ret rfl rfl (LeA.of (congrArg A.bool (rfl))))
  refine Sat.go (Eq.refl _) (NS.ite (fun h1 => ?_) (fun h1 => ?_))
  · refine Sat.go (Eq.refl _) (NS.call (awake_ok) rfl ?_)
    exact Sat.go (Eq.refl _) (NS.ret rfl rfl (LeA.of (congrArg A.bool (rfl))))
  have h1 : s.size ≤ 1000 := by have h1 : ¬ (s.size : Int) > 1000 := of_decide_eq_false h1
                                omega
  refine Sat.go (Eq.refl _) (NS.call (encode_ok w) rfl ?_)
  refine Sat.go (Eq.refl _) (NS.call (rEncode_ok w) rfl ?_)
  refine Sat.go (Eq.refl _) (NS.call (decode_ok s (by omega)) rfl ?_)
  refine Sat.go (Eq.refl _) (NS.call (rDecode_ok s (by omega)) rfl ?_)
  refine Sat.go (Eq.refl _) (NS.yes (by rw [beq_iff_eq]) ?_)
  refine Sat.go (Eq.refl _) (NS.yes (beq_self_eq_true _) ?_)
  refine Sat.go (Eq.refl _) (NS.call (sameW_self _ dec_len) rfl ?_)
  refine Sat.go (Eq.refl _) (NS.yes (rfl) ?_)
  refine Sat.go (Eq.refl _) (NS.yes (beq_self_eq_true _) ?_)
  refine Sat.go (Eq.refl _) (NS.call (awake_ok) rfl ?_)
  exact Sat.go (Eq.refl _) (NS.ret rfl rfl (LeA.of (congrArg A.bool (rfl))))
theorem replayBack_ok (w : Win) (s : ByteArray) : FnOK Try.prog 9 [.agg w.cells, .str s] (.bool true, none) := by
  refine fn_ok CN rfl (by kernel_rfl) Try.func9 rfl ?_
  refine Sat.go (Eq.refl _) (NS.call (great_ok w) rfl ?_)
  refine Sat.go (Eq.refl _) (NS.ite (fun h0 => ?_) (fun h0 => ?_))
  · refine Sat.go (Eq.refl _) (NS.call (awake_ok) rfl ?_)
    exact Sat.go (Eq.refl _) (NS.ret rfl rfl (LeA.of (congrArg A.bool (rfl))))
  refine Sat.go (Eq.refl _) (NS.ite (fun h1 => ?_) (fun h1 => ?_))
  · refine Sat.go (Eq.refl _) (NS.call (awake_ok) rfl ?_)
    exact Sat.go (Eq.refl _) (NS.ret rfl rfl (LeA.of (congrArg A.bool (rfl))))
  have h1 : s.size ≤ 1000 := by have h1 : ¬ (s.size : Int) > 1000 := of_decide_eq_false h1
                                omega
  by_cases hg : chkW w = 0
  · have hgw := (good_iff w).1 hg
    have hE : encWM w = (bs (sealL (encW w)), 0) := by unfold encWM; rw [hg]; rfl
    have ce := encode_ok w
    rw [hE] at ce
    have hsl := (sealL_len (encW_len hgw)).1
    have hel := encW_len hgw
    have hls : ls (bs (sealL (encW w))) = sealL (encW w) := ls_bs (sealL_lt (encW_lt w))
    have cd := decode_ok (bs (sealL (encW w))) (by rw [bs_len]; omega)
    rw [hls, dec_enc hgw] at cd
    have hsz : (bs (sealL (encW w)) ++ s).size = (sealL (encW w)).length + s.size := by rw [← ls_len, ls_append, List.length_append, hls, ls_len]
    have cm := decode_ok (bs (sealL (encW w)) ++ s) (by rw [hsz]; omega)
    rw [ls_append, hls] at cm
    refine Sat.go (Eq.refl _) (NS.call (ce) rfl ?_)
    refine Sat.go (Eq.refl _) (NS.yes (rfl) ?_)
    refine Sat.go (Eq.refl _) (NS.call (cd) rfl ?_)
    refine Sat.go (Eq.refl _) (NS.no (rfl) ?_)
    refine Sat.go (Eq.refl _) (NS.call (sameW_self w (by have := good_len hgw; omega)) rfl ?_)
    refine Sat.go (Eq.refl _) (NS.no (rfl) ?_)
    refine Sat.go (Eq.refl _) (NS.need (decide_eq_true (by rw [bs_len]; omega)) ?_)
    by_cases hs0 : ls s = []
    · rw [hs0, List.append_nil, dec_enc hgw] at cm
      have es : s = .empty := by rw [← bs_ls s, hs0]; rfl
      refine Sat.go (Eq.refl _) (NS.call (cm) rfl ?_)
      refine Sat.go (Eq.refl _) (NS.yes (rfl) ?_)
      refine Sat.go (Eq.refl _) (NS.no (by rw [toList_beq, hs0]; rfl) ?_)
      refine Sat.go (Eq.refl _) (NS.call (decode_ok s (by omega)) rfl ?_)
      rcases decW_bad (ls s) with hz | hz
      · obtain ⟨hg2, hen⟩ := dec_ok (ls_lt s) hz
        have ce := encode_ok (decW (ls s)).1
        have hE : encWM (decW (ls s)).1 = (s, 0) := by unfold encWM; rw [(good_iff _).2 hg2, hen, bs_ls]; rfl
        rw [hE] at ce
        refine Sat.go (Eq.refl _) (NS.no (by rw [hz]; rfl) ?_)
        refine Sat.go (Eq.refl _) (NS.call (ce) rfl ?_)
        refine Sat.go (Eq.refl _) (NS.yes (rfl) ?_)
        refine Sat.go (Eq.refl _) (NS.yes (by rw [beq_iff_eq]) ?_)
        refine Sat.go (Eq.refl _) (NS.call (awake_ok) rfl ?_)
        exact Sat.go (Eq.refl _) (NS.ret rfl rfl (LeA.of (congrArg A.bool (rfl))))
      · have cz := sameW_self ⟨0, 0, []⟩ (by simp)
        rw [hz]
        refine Sat.go (Eq.refl _) (NS.yes (rfl) ?_)
        refine Sat.go (Eq.refl _) (NS.yes (rfl) ?_)
        refine Sat.go (Eq.refl _) (NS.call (cz.le (LeL.cons (LeA.refl _) (LeL.cons zero_le_win LeL.nil))) rfl ?_)
        refine Sat.go (Eq.refl _) (NS.yes (rfl) ?_)
        refine Sat.go (Eq.refl _) (NS.call (awake_ok) rfl ?_)
        exact Sat.go (Eq.refl _) (NS.ret rfl rfl (LeA.of (congrArg A.bool (rfl))))
    · rw [dec_more hgw hs0] at cm
      refine Sat.go (Eq.refl _) (NS.call (cm) rfl ?_)
      refine Sat.go (Eq.refl _) (NS.no (rfl) ?_)
      refine Sat.go (Eq.refl _) (NS.call (decode_ok s (by omega)) rfl ?_)
      rcases decW_bad (ls s) with hz | hz
      · obtain ⟨hg2, hen⟩ := dec_ok (ls_lt s) hz
        have ce := encode_ok (decW (ls s)).1
        have hE : encWM (decW (ls s)).1 = (s, 0) := by unfold encWM; rw [(good_iff _).2 hg2, hen, bs_ls]; rfl
        rw [hE] at ce
        refine Sat.go (Eq.refl _) (NS.no (by rw [hz]; rfl) ?_)
        refine Sat.go (Eq.refl _) (NS.call (ce) rfl ?_)
        refine Sat.go (Eq.refl _) (NS.yes (rfl) ?_)
        refine Sat.go (Eq.refl _) (NS.yes (by rw [beq_iff_eq]) ?_)
        refine Sat.go (Eq.refl _) (NS.call (awake_ok) rfl ?_)
        exact Sat.go (Eq.refl _) (NS.ret rfl rfl (LeA.of (congrArg A.bool (rfl))))
      · have cz := sameW_self ⟨0, 0, []⟩ (by simp)
        rw [hz]
        refine Sat.go (Eq.refl _) (NS.yes (rfl) ?_)
        refine Sat.go (Eq.refl _) (NS.yes (rfl) ?_)
        refine Sat.go (Eq.refl _) (NS.call (cz.le (LeL.cons (LeA.refl _) (LeL.cons zero_le_win LeL.nil))) rfl ?_)
        refine Sat.go (Eq.refl _) (NS.yes (rfl) ?_)
        refine Sat.go (Eq.refl _) (NS.call (awake_ok) rfl ?_)
        exact Sat.go (Eq.refl _) (NS.ret rfl rfl (LeA.of (congrArg A.bool (rfl))))
  · have hE : encWM w = (.empty, 1) := by unfold encWM; rw [if_pos (by simpa using hg)]
    have ce := encode_ok w
    rw [hE] at ce
    refine Sat.go (Eq.refl _) (NS.call (ce) rfl ?_)
    refine Sat.go (Eq.refl _) (NS.no (rfl) ?_)
    refine Sat.go (Eq.refl _) (NS.call (decode_ok s (by omega)) rfl ?_)
    rcases decW_bad (ls s) with hz | hz
    · obtain ⟨hg2, hen⟩ := dec_ok (ls_lt s) hz
      have ce := encode_ok (decW (ls s)).1
      have hE : encWM (decW (ls s)).1 = (s, 0) := by unfold encWM; rw [(good_iff _).2 hg2, hen, bs_ls]; rfl
      rw [hE] at ce
      refine Sat.go (Eq.refl _) (NS.no (by rw [hz]; rfl) ?_)
      refine Sat.go (Eq.refl _) (NS.call (ce) rfl ?_)
      refine Sat.go (Eq.refl _) (NS.yes (rfl) ?_)
      refine Sat.go (Eq.refl _) (NS.yes (by rw [beq_iff_eq]) ?_)
      refine Sat.go (Eq.refl _) (NS.call (awake_ok) rfl ?_)
      exact Sat.go (Eq.refl _) (NS.ret rfl rfl (LeA.of (congrArg A.bool (rfl))))
    · have cz := sameW_self ⟨0, 0, []⟩ (by simp)
      rw [hz]
      refine Sat.go (Eq.refl _) (NS.yes (rfl) ?_)
      refine Sat.go (Eq.refl _) (NS.yes (rfl) ?_)
      refine Sat.go (Eq.refl _) (NS.call (cz.le (LeL.cons (LeA.refl _) (LeL.cons zero_le_win LeL.nil))) rfl ?_)
      refine Sat.go (Eq.refl _) (NS.yes (rfl) ?_)
      refine Sat.go (Eq.refl _) (NS.call (awake_ok) rfl ?_)
      exact Sat.go (Eq.refl _) (NS.ret rfl rfl (LeA.of (congrArg A.bool (rfl))))
end Go.Proofs.Ytphegncldncaiaa
