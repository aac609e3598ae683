
/- The contracts of texts and lists. -/
import Derived.Test.YtdhfgfkfejpfdaaGreatVD
set_option linter.unusedSimpArgs false
set_option linter.unusedSectionVars false
set_option linter.unusedVariables false
namespace Go.Mb
open Go.Sy
def textM (s : ByteArray) : ByteArray × Int := if decide ((s.size : Int) > 65536) then (.empty, 4) else (bs (encI s.size) ++ s, 0)
def encL (l : List Int) : List Nat := l.flatMap encI
def listM (l : List Int) : ByteArray × Int := if decide ((l.length : Int) > 65536) then (.empty, 4) else if l.all inI then (bs (encI l.length ++ encL l), 0) else (.empty, 2)
theorem encL_len {l : List Int} (h : ∀ x ∈ l, inI x = true) : (encL l).length ≤ l.length * 9 := by
  induction l with
  | nil => simp [encL]
  | cons a l ih =>
    have h1 := ih fun x hx => h x (List.mem_cons_of_mem _ hx)
    have h2 := encZ_len (z := zig a) (by have := zig_lt (h a List.mem_cons_self); omega)
    simp only [encL, List.flatMap_cons, List.length_append, List.length_cons] at h1 ⊢
    have h2 : (encI a).length ≤ 9 := h2
    omega
theorem encI_len {n : Int} (h : inI n = true) : (encI n).length ≤ 9 := encZ_len (by have := zig_lt h; omega)
theorem inI_nat {n : Nat} (h : n ≤ 1000000) : inI (n : Int) = true := by rw [inI_iff]; omega
theorem intM_ok {n : Int} (h : inI n = true) : intM n = (bs (encI n), 0) := by unfold intM; rw [h]; rfl
theorem encL_snoc (l : List Int) (k : Nat) (h : k < l.length) : encL (l.take (k + 1)) = encL (l.take k) ++ encI (l.getD k default) := by
  rw [take_snoc h]; simp [encL]
/-- What length returns. -/
def lenI (l : List Nat) : Int × Nat × Int :=
  let r := rdI l
  if r.2.2 != 0 then (0, 0, r.2.2) else if decide (r.1 < 0) || decide (r.1 > 65536) then (0, 0, 11) else r
/-- n numbers from place k on. -/
def rdLA : Nat → List Nat → Nat → List Int → List Int × Nat × Int
  | 0, _, k, acc => (acc, k, 0)
  | n + 1, l, k, acc => if (rdI (l.drop k)).2.2 != 0 then ([], 0, (rdI (l.drop k)).2.2) else rdLA n l (k + (rdI (l.drop k)).2.1) (acc ++ [(rdI (l.drop k)).1])
def rdL (l : List Nat) : List Int × Nat × Int := if (lenI l).2.2 != 0 then ([], 0, (lenI l).2.2) else rdLA (lenI l).1.toNat l (lenI l).2.1 []
theorem lenI_ok {l : List Nat} {n : Int} {k : Nat} (h : lenI l = (n, k, 0)) : rdI l = (n, k, 0) ∧ 0 ≤ n ∧ n ≤ 65536 := by
  unfold lenI at h
  simp only at h
  split at h
  · rename_i he
    simp only [Prod.mk.injEq] at h
    rw [h.2.2] at he; cases he
  · split at h
    · simp at h
    · rename_i hc
      refine ⟨h, ?_⟩
      rw [h] at hc
      simp at hc
      omega
theorem lenI_cases (l : List Nat) : (∃ n k, lenI l = (n, k, 0)) ∨ (∃ e, (e != 0) = true ∧ lenI l = (0, 0, e)) := by
  unfold lenI
  simp only
  split
  · rename_i h; exact .inr ⟨_, h, rfl⟩
  · rename_i h
    split
    · exact .inr ⟨11, rfl, rfl⟩
    · left
      refine ⟨(rdI l).1, (rdI l).2.1, ?_⟩
      have : (rdI l).2.2 = 0 := by simpa using h
      rw [← this]
end Go.Mb
namespace Go.Proofs.YtdhfgfkfejpfdaaGreat
open Go.Sy Go.Mb
set_option maxRecDepth 100000
set_option linter.unusedVariables false
set_option maxHeartbeats 1000000

theorem text_ok (s : ByteArray) : FnOK Tryz.prog 76 [.str s] (.tup [.str (textM s).1, .int .i64 (textM s).2], none) := by
  refine fn_ok VN rfl (by kernel_rfl) Tryz.func76 rfl ?_
  refine Sat.go (Eq.refl _) (NS.ite (fun h => ?_) (fun h => ?_))
  · exact Sat.go (Eq.refl _) (NS.ret rfl rfl (str_le (by unfold textM; rw [if_pos h]; rfl)))
  have hm : textM s = (bs (encI s.size) ++ s, 0) := by unfold textM; rw [if_neg (by rw [h]; simp)]
  have h : s.size ≤ 65536 := by have h : ¬ (s.size : Int) > 65536 := of_decide_eq_false h
                                omega
  have hi := inI_nat (n := s.size) (by omega)
  have hl := encI_len hi
  have c := int_ok s.size
  rw [intM_ok hi] at c
  refine Sat.go (Eq.refl _) (NS.call (c) rfl ?_)
  refine Sat.go (Eq.refl _) (NS.need (decide_eq_true (by rw [bs_len]; omega)) ?_)
  exact Sat.go (Eq.refl _) (NS.ret rfl rfl (str_le hm))
theorem encI_lt {n x : Nat} {m : Int} (h : x ∈ encI m) : x < 256 := encZ_mem h
theorem encL_lt {l : List Int} : ∀ x ∈ encL l, x < 256 := by
  intro x hx
  simp only [encL, List.mem_flatMap] at hx
  obtain ⟨a, _, h⟩ := hx
  exact encZ_mem h
theorem strEl_bs {l : List Nat} (h : ∀ x ∈ l, x < 256) : ∀ i j, j < 1 → strEl (bs l) i j = rowL bC l i j := by
  intro i j hj
  rw [strEl_row _ i j hj, ls_bs h]
theorem all_take {l : List Int} {p : Int → Bool} {k : Nat} (h : ∀ i, i < k → p (l.getD i default) = true) : ∀ x ∈ l.take k, p x = true := by
  intro x hx
  obtain ⟨i, hi, rfl⟩ := List.getElem_of_mem hx
  simp only [List.length_take] at hi
  rw [List.getElem_take, ← getD_lt]
  exact h i (by omega)
theorem listM_bad {l : List Int} {k : Nat} (hl : decide ((l.length : Int) > 65536) = false) (hk : k < l.length) (h : inI (l.getD k default) = false) : listM l = (.empty, 2) := by
  unfold listM
  rw [if_neg (by rw [hl]; simp), if_neg]
  rw [List.all_eq_true]
  intro ha
  rw [getD_lt hk] at h
  rw [ha _ (List.getElem_mem hk)] at h; cases h
theorem listM_good {l : List Int} (hl : decide ((l.length : Int) > 65536) = false) (h : ∀ i, i < l.length → inI (l.getD i default) = true) : listM l = (bs (encI l.length ++ encL l), 0) := by
  unfold listM
  rw [if_neg (by rw [hl]; simp), if_pos]
  rw [List.all_eq_true]
  have := all_take (k := l.length) h
  rwa [List.take_length] at this
theorem rdL_le {r : List Int × Nat × Int} {l : List Int} {e : Int} {k : Nat} {x : A} (h : r = (l, k, e)) (hx : LeA x (slN l)) : LeA (.tup [x, .int .i64 (k : Int), .int .i64 e]) (.tup [slN r.1, .int .i64 (r.2.1 : Nat), .int .i64 r.2.2]) := by subst h; exact LeA.tup3 hx (LeA.refl _) (LeA.refl _)
/-- While a list is read: n numbers in all, q of them read, up to place k. -/
structure RdQ (l : List Nat) (n q k : Nat) (acc : List Int) : Prop where
  le : q ≤ n
  ln : acc.length = q
  kl : k ≤ l.length
  eq : rdL l = rdLA (n - q) l k acc
theorem RdQ.start {l : List Nat} {n : Int} {k : Nat} (hl : ∀ x ∈ l, x < 256) (h : lenI l = (n, k, 0)) : RdQ l n.toNat 0 k [] := by
  refine ⟨Nat.zero_le _, rfl, ?_, ?_⟩
  · exact (rdI_ok hl (lenI_ok h).1).2.2.1
  · unfold rdL; rw [h]; rfl
theorem RdQ.fin {l : List Nat} {n k : Nat} {acc : List Int} (u : RdQ l n n k acc) : rdL l = (acc, k, 0) := by
  rw [u.eq, Nat.sub_self]; rfl
theorem RdQ.err {l : List Nat} {n q k : Nat} {acc : List Int} {e : Int} {a : Int} {b : Nat} (u : RdQ l n q k acc) (hq : q < n) (h : rdI (l.drop k) = (a, b, e)) (he : (e != 0) = true) : rdL l = ([], 0, e) := by
  obtain ⟨g, hg⟩ : ∃ g, n - q = g + 1 := ⟨n - q - 1, by omega⟩
  rw [u.eq, hg, rdLA, h, if_pos he]
theorem RdQ.next {l : List Nat} {n q k b : Nat} {acc : List Int} {a : Int} (hl : ∀ x ∈ l, x < 256) (u : RdQ l n q k acc) (hq : q < n) (h : rdI (l.drop k) = (a, b, 0)) : RdQ l n (q + 1) (k + b) (acc ++ [a]) := by
  obtain ⟨g, hg⟩ : ∃ g, n - q = g + 1 := ⟨n - q - 1, by omega⟩
  have h1 := (rdI_ok (fun x hx => hl x (List.mem_of_mem_drop hx)) h).2.2.1
  rw [List.length_drop] at h1
  have := u.kl
  refine ⟨hq, by simp [u.ln], by omega, ?_⟩
  rw [u.eq, hg, rdLA, h, if_neg (by simp), show n - (q + 1) = g by omega]
end Go.Proofs.YtdhfgfkfejpfdaaGreat
