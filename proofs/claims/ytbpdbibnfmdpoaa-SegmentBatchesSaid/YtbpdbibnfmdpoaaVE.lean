/- The contracts of texts and lists. -/
import Derived.Test.YtbpdbibnfmdpoaaVD
set_option linter.unusedSimpArgs false
set_option linter.unusedSectionVars false
set_option linter.unusedVariables false
namespace Go.Mb
open Go.Sy
def textM (s : ByteArray) : ByteArray × Int := if decide ((s.size : Int) > 65536) then (.empty, 4) else (bs (encI s.size) ++ s, 0)
def encL (l : List Int) : List Nat := l.flatMap encI
def listM (l : List Int) : ByteArray × Int := if decide ((l.length : Int) > 65536) then (.empty, 4) else if l.all inI then (bs (encI l.length ++ encL l), 0) else (.empty, 2)
theorem encL_len {l : List Int} (h : ∀ x ∈ l, inI x = true) : (encL l).length ≤ l.length * 9 := by
  induction l with
  | nil => simp [encL]
  | cons a l ih =>
    have h1 := ih fun x hx => h x (List.mem_cons_of_mem _ hx)
    have h2 := encZ_len (z := zig a) (by have := zig_lt (h a List.mem_cons_self); omega)
    simp only [encL, List.flatMap_cons, List.length_append, List.length_cons] at h1 ⊢
    have h2 : (encI a).length ≤ 9 := h2
    omega
theorem encI_len {n : Int} (h : inI n = true) : (encI n).length ≤ 9 := encZ_len (by have := zig_lt h; omega)
theorem inI_nat {n : Nat} (h : n ≤ 1000000) : inI (n : Int) = true := by rw [inI_iff]; omega
theorem intM_ok {n : Int} (h : inI n = true) : intM n = (bs (encI n), 0) := by unfold intM; rw [h]; rfl
theorem encL_snoc (l : List Int) (k : Nat) (h : k < l.length) : encL (l.take (k + 1)) = encL (l.take k) ++ encI (l.getD k default) := by
  rw [take_snoc h]; simp [encL]
/-- What length returns. -/
def lenI (l : List Nat) : Int × Nat × Int :=
  let r := rdI l
  if r.2.2 != 0 then (0, 0, r.2.2) else if decide (r.1 < 0) || decide (r.1 > 65536) then (0, 0, 11) else r
/-- n numbers from place k on. -/
def rdLA : Nat → List Nat → Nat → List Int → List Int × Nat × Int
  | 0, _, k, acc => (acc, k, 0)
  | n + 1, l, k, acc => if (rdI (l.drop k)).2.2 != 0 then ([], 0, (rdI (l.drop k)).2.2) else rdLA n l (k + (rdI (l.drop k)).2.1) (acc ++ [(rdI (l.drop k)).1])
def rdL (l : List Nat) : List Int × Nat × Int := if (lenI l).2.2 != 0 then ([], 0, (lenI l).2.2) else rdLA (lenI l).1.toNat l (lenI l).2.1 []
theorem lenI_ok {l : List Nat} {n : Int} {k : Nat} (h : lenI l = (n, k, 0)) : rdI l = (n, k, 0) ∧ 0 ≤ n ∧ n ≤ 65536 := by
  unfold lenI at h
  simp only at h
  split at h
  · rename_i he
    simp only [Prod.mk.injEq] at h
    rw [h.2.2] at he; cases he
  · split at h
    · simp at h
    · rename_i hc
      refine ⟨h, ?_⟩
      rw [h] at hc
      simp at hc
      omega
theorem lenI_cases (l : List Nat) : (∃ n k, lenI l = (n, k, 0)) ∨ (∃ e, (e != 0) = true ∧ lenI l = (0, 0, e)) := by
  unfold lenI
  simp only
  split
  · rename_i h; exact .inr ⟨_, h, rfl⟩
  · rename_i h
    split
    · exact .inr ⟨11, rfl, rfl⟩
    · left
      refine ⟨(rdI l).1, (rdI l).2.1, ?_⟩
      have : (rdI l).2.2 = 0 := by simpa using h
      rw [← this]
end Go.Mb
namespace Go.Proofs.Ytbpdbibnfmdpoaa
open Go.Sy Go.Mb
set_option maxRecDepth 100000
set_option linter.unusedVariables false
set_option maxHeartbeats 1000000

theorem text_ok (s : ByteArray) : FnOK Try.prog 33 [.str s] (.tup [.str (textM s).1, .int .i64 (textM s).2], none) := by
  refine fn_ok VN rfl (by kernel_rfl) Try.func33 rfl ?_
  refine Sat.go (Eq.refl _) (NS.ite (fun h => ?_) (fun h => ?_))
  · exact Sat.go (Eq.refl _) (NS.ret rfl rfl (str_le (by unfold textM; rw [if_pos h]; rfl)))
  have hm : textM s = (bs (encI s.size) ++ s, 0) := by unfold textM; rw [if_neg (by rw [h]; simp)]
  have h : s.size ≤ 65536 := by have h : ¬ (s.size : Int) > 65536 := of_decide_eq_false h
                                omega
  have hi := inI_nat (n := s.size) (by omega)
  have hl := encI_len hi
  have c := int_ok s.size
  rw [intM_ok hi] at c
  refine Sat.go (Eq.refl _) (NS.call (c) rfl ?_)
  refine Sat.go (Eq.refl _) (NS.need (decide_eq_true (by rw [bs_len]; omega)) ?_)
  exact Sat.go (Eq.refl _) (NS.ret rfl rfl (str_le hm))
theorem encI_lt {n x : Nat} {m : Int} (h : x ∈ encI m) : x < 256 := encZ_mem h
theorem encL_lt {l : List Int} : ∀ x ∈ encL l, x < 256 := by
  intro x hx
  simp only [encL, List.mem_flatMap] at hx
  obtain ⟨a, _, h⟩ := hx
  exact encZ_mem h
theorem strEl_bs {l : List Nat} (h : ∀ x ∈ l, x < 256) : ∀ i j, j < 1 → strEl (bs l) i j = rowL bC l i j := by
  intro i j hj
  rw [strEl_row _ i j hj, ls_bs h]
theorem all_take {l : List Int} {p : Int → Bool} {k : Nat} (h : ∀ i, i < k → p (l.getD i default) = true) : ∀ x ∈ l.take k, p x = true := by
  intro x hx
  obtain ⟨i, hi, rfl⟩ := List.getElem_of_mem hx
  simp only [List.length_take] at hi
  rw [List.getElem_take, ← getD_lt]
  exact h i (by omega)
theorem listM_bad {l : List Int} {k : Nat} (hl : decide ((l.length : Int) > 65536) = false) (hk : k < l.length) (h : inI (l.getD k default) = false) : listM l = (.empty, 2) := by
  unfold listM
  rw [if_neg (by rw [hl]; simp), if_neg]
  rw [List.all_eq_true]
  intro ha
  rw [getD_lt hk] at h
  rw [ha _ (List.getElem_mem hk)] at h; cases h
theorem listM_good {l : List Int} (hl : decide ((l.length : Int) > 65536) = false) (h : ∀ i, i < l.length → inI (l.getD i default) = true) : listM l = (bs (encI l.length ++ encL l), 0) := by
  unfold listM
  rw [if_neg (by rw [hl]; simp), if_pos]
  rw [List.all_eq_true]
  have := all_take (k := l.length) h
  rwa [List.take_length] at this
theorem list_ok (l : List Int) : FnOK Try.prog 34 [slN l] (.tup [.str (listM l).1, .int .i64 (listM l).2], none) := by
  refine fn_ok VN rfl (by kernel_rfl) Try.func34 rfl ?_
  refine Sat.go (Eq.refl _) (NS.ite (fun h0 => ?_) (fun h0 => ?_))
  · exact Sat.go (Eq.refl _) (NS.ret rfl rfl (str_le (by unfold listM; rw [if_pos h0]; rfl)))
  have hl : l.length ≤ 65536 := by have h : ¬ (l.length : Int) > 65536 := of_decide_eq_false h0
                                   omega
  have hi := inI_nat (n := l.length) (by omega)
  have hle := encI_len hi
  have hlt0 : ∀ x ∈ encI l.length, x < 256 := fun x hx => encZ_mem hx
  have c := int_ok l.length
  rw [intM_ok hi] at c
  refine Sat.go (Eq.refl _) (NS.call (c) rfl ?_)
  refine Sat.go (Eq.refl _) (NS.need (decide_eq_true (by rw [bs_len]; simp only [maxRow]; omega)) ?_)
  refine Sat.go (Eq.refl _) ?_
  refine NS.loop (σ := { k : Nat // k ≤ l.length ∧ ∀ i, i < k → inI (l.getD i default) = true }) (fun k => [(6, .own 7), (22, slN l), (23, .int .i64 l.length), (24, .int .i64 k.1)]) (fun k => [(7, .row 5 1 (encI l.length ++ encL (l.take k.1)).length (rowL bC (encI l.length ++ encL (l.take k.1))))]) (fun k => l.length - k.1) ⟨0, Nat.zero_le _, fun i hi => by omega⟩ ?_ ?_
  · refine weak_hd [(7, 21)] rfl ⟨rfl, rfl, rfl, rfl, trivial⟩ ⟨?_, trivial⟩ trivial (by kernel_rfl)
    refine ren_row rfl (by rw [bs_len]; simp [encL]) fun i hi j hj => ?_
    rw [strEl_bs hlt0 i j hj]
    simp [encL]
  rintro ⟨k, hk, hn⟩
  have hel := encL_len (all_take hn)
  simp only [List.length_take] at hel
  refine Sat.go (Eq.refl _) (NS.ite (fun h => ?_) (fun h => ?_))
  · have h : k < l.length := by simpa using h
    refine Sat.go (Eq.refl _) (NS.need (by simp; omega) ?_)
    have c2 := int_ok (l.getD k default)
    cases hx : inI (l.getD k default) with
    | false =>
      rw [show intM (l.getD k default) = (.empty, 2) by unfold intM; rw [hx]; rfl] at c2
      refine Sat.go (Eq.refl _) (NS.call (c2) rfl ?_)
      refine Sat.go (Eq.refl _) (NS.yes (rfl) ?_)
      exact Sat.go (Eq.refl _) (NS.leaveOut rfl (Eq.refl _) (NS.ret rfl rfl (str_le (listM_bad h0 h hx))))
    | true =>
      rw [intM_ok hx] at c2
      have hxl := encI_len hx
      refine Sat.go (Eq.refl _) (NS.call (c2) rfl ?_)
      refine Sat.go (Eq.refl _) (NS.no (rfl) ?_)
      refine Sat.go (Eq.refl _) (NS.need (decide_eq_true (by rw [bs_len]; show ((encI l.length ++ encL (l.take k)).length + _) * _ ≤ _; rw [List.length_append]; simp only [maxRow]; omega)) ?_)
      refine Sat.go (Eq.refl _) (NS.next ⟨k + 1, by omega, fun i hi => ?_⟩ (by simp; omega) ?_)
      · by_cases e : i = k
        · rw [e]; exact hx
        · exact hn i (by omega)
      · refine weak_hd [(7, 38)] rfl ⟨rfl, rfl, rfl, ren_int rfl (i64_k (k := k) (n := l.length) (by omega) (by omega)), trivial⟩ ⟨?_, trivial⟩ trivial (by kernel_rfl)
        refine ren_row rfl ?_ fun i hi j hj => ?_
        · show (encI l.length ++ encL (l.take k)).length + (bs (encI (l.getD k default))).size = (encI l.length ++ encL (l.take (k + 1))).length
          rw [encL_snoc l k h, bs_len]; simp [Nat.add_assoc]
        · show (if i < (encI l.length ++ encL (l.take k)).length then rowL bC (encI l.length ++ encL (l.take k)) i j else strEl (bs (encI (l.getD k default))) (i - (encI l.length ++ encL (l.take k)).length) j) = rowL bC (encI l.length ++ encL (l.take (k + 1))) i j
          rw [strEl_bs (l := encI (l.getD k default)) (fun x hx => encZ_mem hx) _ j hj, rowL_append, encL_snoc l k h, List.append_assoc]
  · have hk' : ¬ k < l.length := by simpa using h
    obtain rfl : k = l.length := by omega
    refine Sat.go (Eq.refl _) (NS.leave rfl (Eq.refl _) ?_)
    refine Sat.go (Eq.refl _) (NS.need (allN_row fun i hi => rfl) ?_)
    rw [bytesOf_row (encI l.length ++ encL (l.take l.length)), List.take_length]
    exact Sat.go (Eq.refl _) (NS.ret rfl rfl (str_le (listM_good h0 hn)))
theorem rList_ok (l : List Int) : FnOK Try.prog 38 [slN l] (.tup [.str (listM l).1, .int .i64 (listM l).2], none) := by
  refine fn_ok VN rfl (by kernel_rfl) Try.func38 rfl ?_
  refine Sat.go (Eq.refl _) (NS.ite (fun h0 => ?_) (fun h0 => ?_))
  · exact Sat.go (Eq.refl _) (NS.ret rfl rfl (str_le (by unfold listM; rw [if_pos h0]; rfl)))
  have hl : l.length ≤ 65536 := by have h : ¬ (l.length : Int) > 65536 := of_decide_eq_false h0
                                   omega
  have hi := inI_nat (n := l.length) (by omega)
  have hle := encI_len hi
  have c := rInt_ok l.length
  rw [intM_ok hi] at c
  refine Sat.go (Eq.refl _) (NS.call (c) rfl ?_)
  refine Sat.go (Eq.refl _) ?_
  refine NS.loop (σ := { k : Nat // k ≤ l.length ∧ ∀ i, i < k → inI (l.getD i default) = true }) (fun k => [(0, slN l), (4, .str (bs (encI l.length ++ encL (l.take k.1)))), (6, .int .i64 k.1)]) (fun k => []) (fun k => l.length - k.1) ⟨0, Nat.zero_le _, fun i hi => by omega⟩ ?_ ?_
  · exact weak_hd [] rfl ⟨rfl, ren_str rfl (by simp [encL]), rfl, trivial⟩ trivial trivial (by kernel_rfl)
  rintro ⟨k, hk, hn⟩
  have hel := encL_len (all_take hn)
  simp only [List.length_take] at hel
  refine Sat.go (Eq.refl _) (NS.ite (fun h => ?_) (fun h => ?_))
  · have h : k < l.length := by simpa using h
    refine Sat.go (Eq.refl _) (NS.need (by simp; omega) ?_)
    have c2 := rInt_ok (l.getD k default)
    cases hx : inI (l.getD k default) with
    | false =>
      rw [show intM (l.getD k default) = (.empty, 2) by unfold intM; rw [hx]; rfl] at c2
      refine Sat.go (Eq.refl _) (NS.call (c2) rfl ?_)
      refine Sat.go (Eq.refl _) (NS.yes (rfl) ?_)
      exact Sat.go (Eq.refl _) (NS.leaveOut rfl (Eq.refl _) (NS.ret rfl rfl (str_le (listM_bad h0 h hx))))
    | true =>
      rw [intM_ok hx] at c2
      have hxl := encI_len hx
      refine Sat.go (Eq.refl _) (NS.call (c2) rfl ?_)
      refine Sat.go (Eq.refl _) (NS.no (rfl) ?_)
      refine Sat.go (Eq.refl _) (NS.need (decide_eq_true (by rw [bs_len, bs_len]; show (encI l.length ++ encL (l.take k)).length + _ ≤ _; rw [List.length_append]; omega)) ?_)
      refine Sat.go (Eq.refl _) (NS.next ⟨k + 1, by omega, fun i hi => ?_⟩ (by simp; omega) ?_)
      · by_cases e : i = k
        · rw [e]; exact hx
        · exact hn i (by omega)
      · refine weak_hd [] rfl ⟨rfl, ren_str rfl ?_, ren_int rfl (i64_k (k := k) (n := l.length) (by omega) (by omega)), trivial⟩ trivial trivial (by kernel_rfl)
        show bs (encI l.length ++ encL (l.take k)) ++ bs (encI (l.getD k default)) = bs (encI l.length ++ encL (l.take (k + 1)))
        rw [← bs_append, encL_snoc l k h, List.append_assoc]
  · have hk' : ¬ k < l.length := by simpa using h
    obtain rfl : k = l.length := by omega
    refine Sat.go (Eq.refl _) (NS.leave rfl (Eq.refl _) ?_)
    exact Sat.go (Eq.refl _) (NS.ret rfl rfl (str_le ((listM_good h0 hn).trans (by rw [List.take_length]))))
theorem rLength_ok (s : ByteArray) : FnOK Try.prog 73 [.str s] (.tup [.int .i64 (lenI (ls s)).1, .int .i64 ((lenI (ls s)).2.1 : Nat), .int .i64 (lenI (ls s)).2.2], none) := by
  refine fn_ok VN rfl (by kernel_rfl) Try.func73 rfl ?_
  refine Sat.go (Eq.refl _) (NS.call (rReadInt_ok s) rfl ?_)
  refine Sat.go (Eq.refl _) (NS.ite (fun h => ?_) (fun h => ?_))
  · exact Sat.go (Eq.refl _) (NS.ret rfl rfl (rdI_le (by unfold lenI; simp only; rw [if_pos h])))
  refine Sat.go (Eq.refl _) (NS.ite (fun h2 => ?_) (fun h2 => ?_))
  · exact Sat.go (Eq.refl _) (NS.ret rfl rfl (rdI_le (by unfold lenI; simp only; rw [if_neg (by rw [h]; simp), if_pos (by rw [h2]; rfl)])))
  refine Sat.go (Eq.refl _) (NS.ite (fun h3 => ?_) (fun h3 => ?_))
  · exact Sat.go (Eq.refl _) (NS.ret rfl rfl (rdI_le (by unfold lenI; simp only; rw [if_neg (by rw [h]; simp), if_pos (by rw [h3]; simp)])))
  have hm : lenI (ls s) = rdI (ls s) := by unfold lenI; simp only; rw [if_neg (by rw [h]; simp), if_neg (by rw [h2, h3]; simp)]
  rw [hm]
  have he : (rdI (ls s)).2.2 = 0 := by simpa using h
  exact Sat.go (Eq.refl _) (NS.ret rfl rfl (LeA.of (by rw [he])))
theorem rdL_le {r : List Int × Nat × Int} {l : List Int} {e : Int} {k : Nat} {x : A} (h : r = (l, k, e)) (hx : LeA x (slN l)) : LeA (.tup [x, .int .i64 (k : Int), .int .i64 e]) (.tup [slN r.1, .int .i64 (r.2.1 : Nat), .int .i64 r.2.2]) := by subst h; exact LeA.tup3 hx (LeA.refl _) (LeA.refl _)
/-- While a list is read: n numbers in all, q of them read, up to place k. -/
structure RdQ (l : List Nat) (n q k : Nat) (acc : List Int) : Prop where
  le : q ≤ n
  ln : acc.length = q
  kl : k ≤ l.length
  eq : rdL l = rdLA (n - q) l k acc
theorem RdQ.start {l : List Nat} {n : Int} {k : Nat} (hl : ∀ x ∈ l, x < 256) (h : lenI l = (n, k, 0)) : RdQ l n.toNat 0 k [] := by
  refine ⟨Nat.zero_le _, rfl, ?_, ?_⟩
  · exact (rdI_ok hl (lenI_ok h).1).2.2.1
  · unfold rdL; rw [h]; rfl
theorem RdQ.fin {l : List Nat} {n k : Nat} {acc : List Int} (u : RdQ l n n k acc) : rdL l = (acc, k, 0) := by
  rw [u.eq, Nat.sub_self]; rfl
theorem RdQ.err {l : List Nat} {n q k : Nat} {acc : List Int} {e : Int} {a : Int} {b : Nat} (u : RdQ l n q k acc) (hq : q < n) (h : rdI (l.drop k) = (a, b, e)) (he : (e != 0) = true) : rdL l = ([], 0, e) := by
  obtain ⟨g, hg⟩ : ∃ g, n - q = g + 1 := ⟨n - q - 1, by omega⟩
  rw [u.eq, hg, rdLA, h, if_pos he]
theorem RdQ.next {l : List Nat} {n q k b : Nat} {acc : List Int} {a : Int} (hl : ∀ x ∈ l, x < 256) (u : RdQ l n q k acc) (hq : q < n) (h : rdI (l.drop k) = (a, b, 0)) : RdQ l n (q + 1) (k + b) (acc ++ [a]) := by
  obtain ⟨g, hg⟩ : ∃ g, n - q = g + 1 := ⟨n - q - 1, by omega⟩
  have h1 := (rdI_ok (fun x hx => hl x (List.mem_of_mem_drop hx)) h).2.2.1
  rw [List.length_drop] at h1
  have := u.kl
  refine ⟨hq, by simp [u.ln], by omega, ?_⟩
  rw [u.eq, hg, rdLA, h, if_neg (by simp), show n - (q + 1) = g by omega]
theorem rReadList_ok (s : ByteArray) (hs : s.size ≤ 1000000) : FnOK Try.prog 47 [.str s] (.tup [slN (rdL (ls s)).1, .int .i64 ((rdL (ls s)).2.1 : Nat), .int .i64 (rdL (ls s)).2.2], none) := by
  have hlt := ls_lt s
  have hll := ls_len s
  refine fn_ok VN rfl (by kernel_rfl) Try.func47 rfl ?_
  have c := rLength_ok s
  rcases lenI_cases (ls s) with ⟨n, k0, hn⟩ | ⟨e, he, hn⟩
  · rw [hn] at c
    obtain ⟨h1, h2, h3⟩ := lenI_ok hn
    refine Sat.go (Eq.refl _) (NS.call (c) rfl ?_)
    refine Sat.go (Eq.refl _) (NS.no (rfl) ?_)
    refine Sat.go (Eq.refl _) ?_
    refine NS.loop (σ := { p : Nat × Nat × List Int // RdQ (ls s) n.toNat p.1 p.2.1 p.2.2 }) (fun p => [(0, .str s), (5, .int .i64 n), (6, .int .i64 (p.1.2.1 : Nat)), (8, .own 8), (9, .int .i64 p.1.1)]) (fun p => [(8, .row 3 1 p.1.2.2.length (rowL nC p.1.2.2))]) (fun p => n.toNat - p.1.1) ⟨(0, k0, []), RdQ.start hlt hn⟩ ?_ ?_
    · exact weak_hd [(8, 23)] rfl ⟨rfl, rfl, rfl, rfl, rfl, trivial⟩ ⟨ren_row rfl rfl fun i hi => absurd hi (Nat.not_lt_zero i), trivial⟩ trivial (by kernel_rfl)
    rintro ⟨⟨q, k, acc⟩, u⟩
    simp only at u
    have hq := u.le
    have hk := u.kl
    have hal := u.ln
    refine Sat.go (Eq.refl _) (NS.ite (fun h4 => ?_) (fun h4 => ?_))
    · have h4 : (q : Int) < n := of_decide_eq_true h4
      refine Sat.go (Eq.refl _) (NS.need (decide_eq_true ⟨Int.natCast_nonneg k, by show (k : Int) ≤ (s.size : Int); omega, Int.le_refl _⟩) ?_)
      have ex : ls (s.extract (Int.toNat ((k : Nat) : Int)) (Int.toNat ((s.size : Nat) : Int))) = (ls s).drop k := by
        rw [ls_extract]; show ((ls s).take s.size).drop k = _
        rw [take_all (by omega)]
      have c2 := rReadInt_ok (s.extract (Int.toNat ((k : Nat) : Int)) (Int.toNat ((s.size : Nat) : Int)))
      rw [ex] at c2
      rcases rdI_cases ((ls s).drop k) with ⟨a, b, hr⟩ | ⟨e, he, hr⟩
      · rw [hr] at c2
        have u2 := u.next hlt (by omega) hr
        have := u2.kl
        refine Sat.go (Eq.refl _) (NS.call (c2) rfl ?_)
        refine Sat.go (Eq.refl _) (NS.no (rfl) ?_)
        refine Sat.go (Eq.refl _) (NS.need (decide_eq_true (by show (acc.length + 1) * _ ≤ _; simp only [maxRow]; omega)) ?_)
        refine Sat.go (Eq.refl _) (NS.next ⟨(q + 1, k + b, acc ++ [a]), u2⟩ (by simp only; omega) ?_)
        refine weak_hd [(8, 44)] rfl ⟨rfl, rfl, ren_int rfl ?_, rfl, ren_int rfl (i64_k (k := q) (n := 100000) (by omega) (by omega)), trivial⟩ ⟨?_, trivial⟩ trivial (by kernel_rfl)
        · show IntKind.i64.wrap ((k : Int) + (b : Int)) = ((k + b : Nat) : Int)
          rw [wrap_i64 (by omega) (by omega)]; omega
        · exact ren_row rfl (by simp) (fun i hi j hj => row_snoc (cells := nC) (x := a) rfl i (by simpa using hi) j hj)
      · rw [hr] at c2
        refine Sat.go (Eq.refl _) (NS.call (c2) rfl ?_)
        refine Sat.go (Eq.refl _) (NS.yes (by simpa using he) ?_)
        exact Sat.go (Eq.refl _) (NS.leaveOut rfl (Eq.refl _) (NS.ret rfl rfl (rdL_le (u.err (by omega) hr (by simpa using he)) (LeA.sl rfl fun i hi => absurd hi (Nat.not_lt_zero i)))))
    · obtain rfl : q = n.toNat := by have h4 : ¬ (q : Int) < n := of_decide_eq_false h4
                                     omega
      refine Sat.go (Eq.refl _) (NS.leave rfl (Eq.refl _) ?_)
      exact Sat.go (Eq.refl _) (NS.ret rfl rfl (rdL_le u.fin (LeA.refl _)))
  · rw [hn] at c
    refine Sat.go (Eq.refl _) (NS.call (c) rfl ?_)
    refine Sat.go (Eq.refl _) (NS.yes (he) ?_)
    exact Sat.go (Eq.refl _) (NS.ret rfl rfl (rdL_le (by unfold rdL; rw [hn, if_pos he]) (LeA.sl rfl fun i hi => absurd hi (Nat.not_lt_zero i))))
end Go.Proofs.Ytbpdbibnfmdpoaa
