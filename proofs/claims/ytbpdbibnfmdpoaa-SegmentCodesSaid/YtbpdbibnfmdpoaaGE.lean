/- Encoding segments by the reference. -/
import Derived.Test.YtbpdbibnfmdpoaaGD
set_option linter.unusedSimpArgs false
set_option linter.unusedSectionVars false
set_option linter.unusedVariables false
namespace Go.Proofs.Ytbpdbibnfmdpoaa
open Go.Sy Go.Mb
set_option maxRecDepth 100000
set_option linter.unusedVariables false
set_option maxHeartbeats 4000000

theorem rEncode_ok (s : Seg) : FnOK Try.prog 13 [.agg s.cells] (.tup [.str (encGM s).1, .int .i64 (encGM s).2], none) := by
  refine fn_ok CN rfl (by kernel_rfl) Try.func13 rfl ?_
  refine Sat.go (Eq.refl _) (NS.call (rgCheck_ok s) rfl ?_)
  refine Sat.go (Eq.refl _) (NS.ite (fun h1 => ?_) (fun h1 => ?_))
  · exact Sat.go (Eq.refl _) (NS.ret rfl rfl (str_le (by unfold encGM; rw [if_pos h1]; rfl)))
  have g := goodG (by simpa using h1)
  have hin := hd6_in g
  refine Sat.go (Eq.refl _) (NS.ite (fun h2 => ?_) (fun h2 => ?_))
  · refine Sat.go (Eq.refl _) ?_
    refine NS.loop (σ := { k : Nat // k ≤ 6 }) (fun k => [(1, .ptr 1 0), (6, .str (bs (encL ((hd6 s).take k.1)))), (7, .own 35), (8, .int .i64 k.1)]) (fun k => [(1, .box s.cells), (35, .row 3 1 6 (rowL nC (hd6 s)))]) (fun k => 6 - k.1) ⟨0, Nat.zero_le _⟩ ?_ ?_
    · refine weak_hd [] rfl ⟨rfl, ren_str rfl rfl, rfl, rfl, trivial⟩ ⟨⟨_, rfl, ren_seg _ _⟩, ren_row rfl rfl fun i hi j hj => ?_, trivial⟩ trivial (by kernel_rfl)
      have hj : j < 1 := hj
      obtain rfl : j = 0 := by omega
      match i, hi with
      | 0, _ => rfl
      | 1, _ => rfl
      | 2, _ => rfl
      | 3, _ => rfl
      | 4, _ => rfl
      | 5, _ => show A.int .i64 1 = A.int .i64 (bitI s.chk); rw [h2]; rfl
    rintro ⟨k, hk⟩
    have hl6 : (hd6 s).length = 6 := rfl
    have hel := encL_len (l := (hd6 s).take k) fun x hx => hin x (List.mem_of_mem_take hx)
    simp only [List.length_take] at hel
    refine Sat.go (Eq.refl _) (NS.ite (fun h => ?_) (fun h => ?_))
    · have h : k < 6 := by have h : (k : Int) < 6 := of_decide_eq_true h
                           omega
      have hx : inI ((hd6 s).getD k default) = true := memD (p := fun x => inI x = true) hin h
      have c2 := rInt_ok ((hd6 s).getD k default)
      rw [intM_ok hx] at c2
      have hxl := encI_len hx
      refine Sat.go (Eq.refl _) (NS.need (by simp; omega) ?_)
      refine Sat.go (Eq.refl _) (NS.yes (decide_eq_true (show k < 6 from h)) ?_)
      refine Sat.go (Eq.refl _) (NS.call (c2) rfl ?_)
      refine Sat.go (Eq.refl _) (NS.need (decide_eq_true (by rw [bs_len, bs_len]; show (encL ((hd6 s).take k)).length + (encI ((hd6 s).getD k default)).length ≤ _; omega)) ?_)
      refine Sat.go (Eq.refl _) (NS.next ⟨k + 1, by omega⟩ (by simp; omega) ?_)
      exact weak_hd [] rfl ⟨rfl, ren_str rfl (by show bs (encL ((hd6 s).take k)) ++ bs (encI ((hd6 s).getD k default)) = bs (encL ((hd6 s).take (k + 1))); rw [encL_snoc (hd6 s) k h, bs_append]), rfl, ren_int rfl (i64_k (k := k) (n := 6) (by omega) (by omega)), trivial⟩ ⟨⟨_, rfl, ren_seg _ _⟩, ren_row rfl rfl fun i hi j hj => rfl, trivial⟩ trivial (by kernel_rfl)
    have hk' : ¬ (k : Int) < 6 := of_decide_eq_false h
    obtain rfl : k = 6 := by omega
    refine Sat.go (Eq.refl _) (NS.leave rfl (Eq.refl _) ?_)
    have ct := rText_ok s.data
    rw [text_of (d := s.data) (by have := g.d; omega)] at ct
    refine Sat.go (Eq.refl _) (NS.call (ct) rfl ?_)
    have hc := (chkS_both g.c1).2
    have hen := ends_in g.c1
    have hele := endsL_len s.claims
    refine Sat.go (Eq.refl _) ?_
    refine NS.loop (σ := { k : Nat // k ≤ s.claims.length }) (fun k => [(1, .ptr 1 0), (6, .str (bs (encL (hd6 s)))), (11, .str (bs (encT (ls s.data)))), (13, .own 59), (14, .int .i64 k.1)]) (fun k => [(1, .box s.cells), (59, .row 3 1 (2 * k.1) (rowL nC (endsL (s.claims.take k.1))))]) (fun k => s.claims.length - k.1) ⟨0, Nat.zero_le _⟩ ?_ ?_
    · exact weak_hd [] rfl ⟨rfl, rfl, rfl, rfl, rfl, trivial⟩ ⟨⟨_, rfl, ren_seg _ _⟩, ren_row rfl rfl fun i hi j hj => absurd hi (Nat.not_lt_zero _), trivial⟩ trivial (by kernel_rfl)
    rintro ⟨k, hk⟩
    refine Sat.go (Eq.refl _) (NS.ite (fun h => ?_) (fun h => ?_))
    · have h : k < s.claims.length := by simpa using h
      refine Sat.go (Eq.refl _) (NS.chk (by kernel_rfl) ?_)
      refine Sat.go (Eq.refl _) (NS.need (by simp; omega) ?_)
      refine Sat.go (Eq.refl _) (NS.need (by simp; omega) ?_)
      refine Sat.go (Eq.refl _) (NS.need (decide_eq_true (by show (2 * k + 2) * _ ≤ _; simp only [maxRow]; omega)) ?_)
      refine Sat.go (Eq.refl _) (NS.next ⟨k + 1, by omega⟩ (by simp; omega) ?_)
      refine weak_hd [(59, 81)] rfl ⟨rfl, rfl, rfl, rfl, ren_int rfl (i64_k (k := k) (n := s.claims.length) (by omega) (by omega)), trivial⟩ ⟨⟨_, rfl, ren_seg _ _⟩, ?_, trivial⟩ trivial (by kernel_rfl)
      have e2 : (endsL (s.claims.take k)).length = 2 * k := by rw [endsL_len, List.length_take]; omega
      refine ren_row rfl (by show 2 * k + 2 = 2 * (k + 1); omega) fun i hi j hj => ?_
      have hi : i < 2 * (k + 1) := hi
      have hj : j < 1 := hj
      obtain rfl : j = 0 := by omega
      rw [show rowL nC (endsL (s.claims.take (⟨k + 1, by omega⟩ : { k : Nat // k ≤ s.claims.length }).1)) i 0 = rowL nC (endsL (s.claims.take k) ++ [(s.claims.getD k default).lo, (s.claims.getD k default).hi]) i 0 by rw [← endsL_snoc _ k h], ← rowL_append, e2]
      show (if i < 2 * k then _ else _) = _
      by_cases hik : i < 2 * k
      · rw [if_pos hik, if_pos hik]
      · rw [if_neg hik, if_neg hik]
        match i - 2 * k, (show i - 2 * k < 2 by omega) with
        | 0, _ => rfl
        | 1, _ => rfl
    have hk' : ¬ k < s.claims.length := by simpa using h
    obtain rfl : k = s.claims.length := by omega
    refine Sat.go (Eq.refl _) (NS.leave rfl (Eq.refl _) ?_)
    have cl := rList_ok (endsL s.claims)
    rw [list_of hen (by omega)] at cl
    have cs := rSeal_ok (bs (encG s))
    rw [seal_of (encG_lt s) (encG_len g)] at cs
    have hgl := encG_len g
    have hgl : (encL (hd6 s)).length + (encT (ls s.data)).length + (encLL (endsL s.claims)).length ≤ 65536 := by simpa [encG, List.length_append, Nat.add_assoc] using hgl
    have e3 : s.claims.take s.claims.length = s.claims := List.take_length
    refine Sat.go (Eq.refl _) (NS.call (cl.le (LeL.cons (LeA.sl hele.symm fun i hi j hj => by show rowL nC (endsL (s.claims.take s.claims.length)) i j = _; rw [e3]) LeL.nil)) rfl ?_)
    refine Sat.go (Eq.refl _) (NS.need (decide_eq_true (by rw [bs_len, bs_len]; omega)) ?_)
    refine Sat.go (Eq.refl _) (NS.need (decide_eq_true (by rw [← bs_append, bs_len, bs_len, List.length_append]; omega)) ?_)
    refine Sat.go (Eq.refl _) (NS.call (cs.le (LeL.cons (LeA.of (congrArg A.str (by show bs (encL (hd6 s)) ++ bs (encT (ls s.data)) ++ bs (encLL (endsL s.claims)) = bs (encG s); rw [← bs_append, ← bs_append]; rfl))) LeL.nil)) rfl ?_)
    exact Sat.go (Eq.refl _) (NS.ret rfl rfl (str_le (by unfold encGM; rw [if_neg (by rw [h1]; simp)])))
  · refine Sat.go (Eq.refl _) ?_
    refine NS.loop (σ := { k : Nat // k ≤ 6 }) (fun k => [(1, .ptr 1 0), (6, .str (bs (encL ((hd6 s).take k.1)))), (7, .own 35), (8, .int .i64 k.1)]) (fun k => [(1, .box s.cells), (35, .row 3 1 6 (rowL nC (hd6 s)))]) (fun k => 6 - k.1) ⟨0, Nat.zero_le _⟩ ?_ ?_
    · refine weak_hd [] rfl ⟨rfl, ren_str rfl rfl, rfl, rfl, trivial⟩ ⟨⟨_, rfl, ren_seg _ _⟩, ren_row rfl rfl fun i hi j hj => ?_, trivial⟩ trivial (by kernel_rfl)
      have hj : j < 1 := hj
      obtain rfl : j = 0 := by omega
      match i, hi with
      | 0, _ => rfl
      | 1, _ => rfl
      | 2, _ => rfl
      | 3, _ => rfl
      | 4, _ => rfl
      | 5, _ => show A.int .i64 0 = A.int .i64 (bitI s.chk); rw [h2]; rfl
    rintro ⟨k, hk⟩
    have hl6 : (hd6 s).length = 6 := rfl
    have hel := encL_len (l := (hd6 s).take k) fun x hx => hin x (List.mem_of_mem_take hx)
    simp only [List.length_take] at hel
    refine Sat.go (Eq.refl _) (NS.ite (fun h => ?_) (fun h => ?_))
    · have h : k < 6 := by have h : (k : Int) < 6 := of_decide_eq_true h
                           omega
      have hx : inI ((hd6 s).getD k default) = true := memD (p := fun x => inI x = true) hin h
      have c2 := rInt_ok ((hd6 s).getD k default)
      rw [intM_ok hx] at c2
      have hxl := encI_len hx
      refine Sat.go (Eq.refl _) (NS.need (by simp; omega) ?_)
      refine Sat.go (Eq.refl _) (NS.yes (decide_eq_true (show k < 6 from h)) ?_)
      refine Sat.go (Eq.refl _) (NS.call (c2) rfl ?_)
      refine Sat.go (Eq.refl _) (NS.need (decide_eq_true (by rw [bs_len, bs_len]; show (encL ((hd6 s).take k)).length + (encI ((hd6 s).getD k default)).length ≤ _; omega)) ?_)
      refine Sat.go (Eq.refl _) (NS.next ⟨k + 1, by omega⟩ (by simp; omega) ?_)
      exact weak_hd [] rfl ⟨rfl, ren_str rfl (by show bs (encL ((hd6 s).take k)) ++ bs (encI ((hd6 s).getD k default)) = bs (encL ((hd6 s).take (k + 1))); rw [encL_snoc (hd6 s) k h, bs_append]), rfl, ren_int rfl (i64_k (k := k) (n := 6) (by omega) (by omega)), trivial⟩ ⟨⟨_, rfl, ren_seg _ _⟩, ren_row rfl rfl fun i hi j hj => rfl, trivial⟩ trivial (by kernel_rfl)
    have hk' : ¬ (k : Int) < 6 := of_decide_eq_false h
    obtain rfl : k = 6 := by omega
    refine Sat.go (Eq.refl _) (NS.leave rfl (Eq.refl _) ?_)
    have ct := rText_ok s.data
    rw [text_of (d := s.data) (by have := g.d; omega)] at ct
    refine Sat.go (Eq.refl _) (NS.call (ct) rfl ?_)
    have hc := (chkS_both g.c1).2
    have hen := ends_in g.c1
    have hele := endsL_len s.claims
    refine Sat.go (Eq.refl _) ?_
    refine NS.loop (σ := { k : Nat // k ≤ s.claims.length }) (fun k => [(1, .ptr 1 0), (6, .str (bs (encL (hd6 s)))), (11, .str (bs (encT (ls s.data)))), (13, .own 59), (14, .int .i64 k.1)]) (fun k => [(1, .box s.cells), (59, .row 3 1 (2 * k.1) (rowL nC (endsL (s.claims.take k.1))))]) (fun k => s.claims.length - k.1) ⟨0, Nat.zero_le _⟩ ?_ ?_
    · exact weak_hd [] rfl ⟨rfl, rfl, rfl, rfl, rfl, trivial⟩ ⟨⟨_, rfl, ren_seg _ _⟩, ren_row rfl rfl fun i hi j hj => absurd hi (Nat.not_lt_zero _), trivial⟩ trivial (by kernel_rfl)
    rintro ⟨k, hk⟩
    refine Sat.go (Eq.refl _) (NS.ite (fun h => ?_) (fun h => ?_))
    · have h : k < s.claims.length := by simpa using h
      refine Sat.go (Eq.refl _) (NS.chk (by kernel_rfl) ?_)
      refine Sat.go (Eq.refl _) (NS.need (by simp; omega) ?_)
      refine Sat.go (Eq.refl _) (NS.need (by simp; omega) ?_)
      refine Sat.go (Eq.refl _) (NS.need (decide_eq_true (by show (2 * k + 2) * _ ≤ _; simp only [maxRow]; omega)) ?_)
      refine Sat.go (Eq.refl _) (NS.next ⟨k + 1, by omega⟩ (by simp; omega) ?_)
      refine weak_hd [(59, 81)] rfl ⟨rfl, rfl, rfl, rfl, ren_int rfl (i64_k (k := k) (n := s.claims.length) (by omega) (by omega)), trivial⟩ ⟨⟨_, rfl, ren_seg _ _⟩, ?_, trivial⟩ trivial (by kernel_rfl)
      have e2 : (endsL (s.claims.take k)).length = 2 * k := by rw [endsL_len, List.length_take]; omega
      refine ren_row rfl (by show 2 * k + 2 = 2 * (k + 1); omega) fun i hi j hj => ?_
      have hi : i < 2 * (k + 1) := hi
      have hj : j < 1 := hj
      obtain rfl : j = 0 := by omega
      rw [show rowL nC (endsL (s.claims.take (⟨k + 1, by omega⟩ : { k : Nat // k ≤ s.claims.length }).1)) i 0 = rowL nC (endsL (s.claims.take k) ++ [(s.claims.getD k default).lo, (s.claims.getD k default).hi]) i 0 by rw [← endsL_snoc _ k h], ← rowL_append, e2]
      show (if i < 2 * k then _ else _) = _
      by_cases hik : i < 2 * k
      · rw [if_pos hik, if_pos hik]
      · rw [if_neg hik, if_neg hik]
        match i - 2 * k, (show i - 2 * k < 2 by omega) with
        | 0, _ => rfl
        | 1, _ => rfl
    have hk' : ¬ k < s.claims.length := by simpa using h
    obtain rfl : k = s.claims.length := by omega
    refine Sat.go (Eq.refl _) (NS.leave rfl (Eq.refl _) ?_)
    have cl := rList_ok (endsL s.claims)
    rw [list_of hen (by omega)] at cl
    have cs := rSeal_ok (bs (encG s))
    rw [seal_of (encG_lt s) (encG_len g)] at cs
    have hgl := encG_len g
    have hgl : (encL (hd6 s)).length + (encT (ls s.data)).length + (encLL (endsL s.claims)).length ≤ 65536 := by simpa [encG, List.length_append, Nat.add_assoc] using hgl
    have e3 : s.claims.take s.claims.length = s.claims := List.take_length
    refine Sat.go (Eq.refl _) (NS.call (cl.le (LeL.cons (LeA.sl hele.symm fun i hi j hj => by show rowL nC (endsL (s.claims.take s.claims.length)) i j = _; rw [e3]) LeL.nil)) rfl ?_)
    refine Sat.go (Eq.refl _) (NS.need (decide_eq_true (by rw [bs_len, bs_len]; omega)) ?_)
    refine Sat.go (Eq.refl _) (NS.need (decide_eq_true (by rw [← bs_append, bs_len, bs_len, List.length_append]; omega)) ?_)
    refine Sat.go (Eq.refl _) (NS.call (cs.le (LeL.cons (LeA.of (congrArg A.str (by show bs (encL (hd6 s)) ++ bs (encT (ls s.data)) ++ bs (encLL (endsL s.claims)) = bs (encG s); rw [← bs_append, ← bs_append]; rfl))) LeL.nil)) rfl ?_)
    exact Sat.go (Eq.refl _) (NS.ret rfl rfl (str_le (by unfold encGM; rw [if_neg (by rw [h1]; simp)])))
end Go.Proofs.Ytbpdbibnfmdpoaa
