/- SecurityStripped. -/
import Derived.Test.YtdhfgfkfejpfdaaKYB
set_option linter.unusedSimpArgs false
set_option linter.unusedSectionVars false
set_option linter.unusedVariables false
namespace Go.Proofs.Ytdhfgfkfejpfdaa
open Go.Sy Go.Mb
set_option maxRecDepth 100000
set_option linter.unusedVariables false
set_option maxHeartbeats 4000000

theorem zeroA_le : LeA (.agg [.int .i64 0, .int .i64 0, .int .i64 0, .int .i64 0, .int .i64 0, .int .i64 0, .int .i64 0, .int .i64 0, .int .i64 0, .int .i64 0, .nils, .str .empty]) (.agg (default : Bun).cells) :=
  LeA.agg (.cons (.refl _) (.cons (.refl _) (.cons (.refl _) (.cons (.refl _) (.cons (.refl _) (.cons (.refl _) (.cons (.refl _) (.cons (.refl _) (.cons (.refl _) (.cons (.refl _) (.cons (LeA.nil' rfl) (.cons (.refl _) .nil))))))))))))
theorem idxN_ok (l : List Int) (hl : l.length ≤ 1000000) (v : Int) : FnOK Try.prog 70 [slN l, .int .i64 v] (.int .i64 (idx (fun z => z == v) l), none) := by
  refine fn_ok CN rfl (by kernel_rfl) Try.func70 rfl ?_
  refine Sat.go (Eq.refl _) ?_
  refine NS.loop (σ := { k : Nat // k ≤ l.length ∧ ∀ i, i < k → (l.getD i default == v) = false }) (fun k => [(0, slN l), (1, .int .i64 v), (7, .int .i64 l.length), (8, .int .i64 k.1)]) (fun _ => []) (fun k => l.length - k.1) ⟨0, Nat.zero_le _, fun i hi => by omega⟩ ?_ ?_
  · exact weak_hd [] rfl ⟨rfl, rfl, rfl, rfl, trivial⟩ trivial trivial (by kernel_rfl)
  rintro ⟨k, hk, hn⟩
  refine Sat.go (Eq.refl _) (NS.ite (fun h => ?_) (fun h => ?_))
  · have h : k < l.length := by simpa using h
    repeat' (first | (refine Sat.go (Eq.refl _) (NS.chk (by kernel_rfl) ?_)) | (refine Sat.go (Eq.refl _) (NS.need (by simp; omega) ?_)))
    refine Sat.go (Eq.refl _) (NS.ite (fun h2 => ?_) (fun h2 => ?_))
    · have h2 : (l.getD k default == v) = true := by have h2 : (v == l.getD k default) = true := h2; rw [beq_iff_eq] at h2 ⊢; exact h2.symm
      exact Sat.go (Eq.refl _) (NS.leaveOut rfl (Eq.refl _) (NS.ret rfl rfl (LeA.of (congrArg (A.int .i64) ((idx_found (by omega) h2 hn).symm)))))
    · have h2 : (l.getD k default == v) = false := by have h2 : (v == l.getD k default) = false := h2; rw [beq_eq_false_iff_ne] at h2 ⊢; exact fun e => h2 e.symm
      refine Sat.go (Eq.refl _) (NS.next ⟨k + 1, by omega, fun i hi => ?_⟩ (by simp; omega) ?_)
      · by_cases hik : i = k
        · subst hik; exact h2
        · exact hn i (by omega)
      · exact weak_hd [] rfl ⟨rfl, rfl, rfl, ren_int rfl (i64_k (by omega) (by omega)), trivial⟩ trivial trivial (by kernel_rfl)
  · have h : ¬ k < l.length := by simpa using h
    refine Sat.go (Eq.refl _) (NS.leave rfl (Eq.refl _) ?_)
    exact Sat.go (Eq.refl _) (NS.ret rfl rfl (LeA.of (congrArg (A.int .i64) ((idx_none fun i hi => hn i (by omega)).symm))))
theorem idx_anyI (p : Int → Bool) (l : List Int) : decide (idx p l ≥ 0) = l.any p := by
  have h := idx_neg p l
  rw [Bool.eq_iff_iff, decide_eq_true_eq]
  constructor
  · intro h2
    rw [← Bool.not_eq_false]
    intro h3
    have := h.2 h3
    omega
  · intro h2
    by_cases h3 : idx p l < 0
    · have := h.1 h3
      rw [h2] at this; cases this
    · omega
theorem containsN_ok (l : List Int) (hl : l.length ≤ 1000000) (v : Int) : FnOK Try.prog 29 [slN l, .int .i64 v] (.bool (l.any (fun z => z == v)), none) := by
  refine fn_ok CN rfl (by kernel_rfl) Try.func29 rfl ?_
  refine Sat.go (Eq.refl _) (NS.call (idxN_ok l hl v) rfl ?_)
  exact Sat.go (Eq.refl _) (NS.ret rfl rfl (LeA.of (congrArg A.bool (idx_anyI _ _))))
theorem idxFN_ok (l : List Int) (hl : l.length ≤ 1000000) (f c : Nat) (el : Nat → A) (p : Int → Bool) (hc : ∀ x, FnOK Try.prog f [.int .i64 x, .ip c el] (.bool (p x), none)) : FnOK Try.prog 71 [slN l, .fn f [.ip c el]] (.int .i64 (idx p l), none) := by
  refine fn_ok CN rfl (by kernel_rfl) Try.func71 rfl ?_
  refine Sat.go (Eq.refl _) ?_
  refine NS.loop (σ := { k : Nat // k ≤ l.length ∧ ∀ i, i < k → p (l.getD i default) = false }) (fun k => [(0, slN l), (1, .fn f [.ip c el]), (7, .int .i64 l.length), (8, .int .i64 k.1)]) (fun _ => []) (fun k => l.length - k.1) ⟨0, Nat.zero_le _, fun i hi => by omega⟩ ?_ ?_
  · exact weak_hd [] rfl ⟨rfl, rfl, rfl, rfl, trivial⟩ trivial trivial (by kernel_rfl)
  rintro ⟨k, hk, hn⟩
  refine Sat.go (Eq.refl _) (NS.ite (fun h => ?_) (fun h => ?_))
  · have h : k < l.length := by simpa using h
    repeat' (first | (refine Sat.go (Eq.refl _) (NS.chk (by kernel_rfl) ?_)) | (refine Sat.go (Eq.refl _) (NS.need (by simp; omega) ?_)))
    refine Sat.go (Eq.refl _) (NS.call (hc (l.getD k default)) rfl ?_)
    refine Sat.go (Eq.refl _) (NS.ite (fun h2 => ?_) (fun h2 => ?_))
    · exact Sat.go (Eq.refl _) (NS.leaveOut rfl (Eq.refl _) (NS.ret rfl rfl (LeA.of (congrArg (A.int .i64) ((idx_found (by omega) h2 hn).symm)))))
    · refine Sat.go (Eq.refl _) (NS.next ⟨k + 1, by omega, fun i hi => ?_⟩ (by simp; omega) ?_)
      · by_cases hik : i = k
        · subst hik; exact h2
        · exact hn i (by omega)
      · exact weak_hd [] rfl ⟨rfl, rfl, rfl, ren_int rfl (i64_k (by omega) (by omega)), trivial⟩ trivial trivial (by kernel_rfl)
  · have h : ¬ k < l.length := by simpa using h
    refine Sat.go (Eq.refl _) (NS.leave rfl (Eq.refl _) ?_)
    exact Sat.go (Eq.refl _) (NS.ret rfl rfl (LeA.of (congrArg (A.int .i64) ((idx_none fun i hi => hn i (by omega)).symm))))
theorem cloneN_ok (l : List Int) (hl : l.length ≤ 1000000) : FnOK Try.prog 31 [slN l] (.own 0, some (.row 3 1 l.length (rowL nC l))) := by
  refine fn_ok CN rfl (by kernel_rfl) Try.func31 rfl ?_
  refine Sat.go (Eq.refl _) (NS.ite (fun h0 => ?_) (fun h0 => ?_))
  · refine Sat.go (Eq.refl _) (NS.both ?_ ?_)
    · exact Sat.go (Eq.refl _) (NS.retNil (by simpa using h0) rfl rfl)
    · refine Sat.go (Eq.refl _) (NS.need (decide_eq_true (by simp only [maxRow]; omega)) ?_)
      exact Sat.go (Eq.refl _) (NS.retRow 7 rfl rfl (LeA.refl _) ⟨rfl, rfl, by simp, fun i hi j hj => by simp⟩ fun _ _ _ _ => flatN _ _ _)
  · refine Sat.go (Eq.refl _) (NS.need (decide_eq_true (by simp only [maxRow]; omega)) ?_)
    exact Sat.go (Eq.refl _) (NS.retRow 7 rfl rfl (LeA.refl _) ⟨rfl, rfl, by simp, fun i hi j hj => by simp⟩ fun _ _ _ _ => flatN _ _ _)
theorem stripped1_ok (n z : Int) : FnOK Try.prog 32 [.int .i64 z, .ip 1 (getA [.int .i64 n])] (.bool (z == n), none) := by
  refine fn_ok CN rfl (by kernel_rfl) Try.func32 rfl ?_
  exact Sat.go (Eq.refl _) (NS.ret rfl rfl (LeA.refl _))
noncomputable def CDN : Cx := { E := EN, inl := [30], ok := EN_ok }
theorem securityStripped_ok (b : Bun) (n m : Int) (key : ByteArray) : FnOK Try.prog 7 [.agg b.cells, .int .i64 n, .int .i64 m, .str key] (.bool true, none) := by
  refine fn_ok CDN rfl (by kernel_rfl) Try.func7 rfl ?_
  refine Sat.go (Eq.refl _) (NS.call (greatL_ok b key) rfl ?_)
  refine Sat.go (Eq.refl _) (NS.ite (fun g1 => ?_) (fun g1 => ?_))
  · refine Sat.go (Eq.refl _) (NS.call (awake_ok) rfl ?_)
    exact Sat.go (Eq.refl _) (NS.ret rfl rfl (LeA.refl _))
  by_cases hp : (protM b n key).2 = 0
  · have hpp : protM b n key = ((protM b n key).1, 0) := by rw [← hp]
    have hg : GoodL b.l := goodL_of (protM_ok.1 hpp).1.ok.chk
    have c1 := strip_ok (protM b n key).1 n
    rw [strip_prot hpp] at c1
    refine Sat.go (Eq.refl _) (NS.call (protect_ok b n key) rfl ?_)
    refine Sat.go (Eq.refl _) (NS.yes (by show ((protM b n key).2 == 0) = true; rw [hp]; rfl) ?_)
    refine Sat.go (Eq.refl _) (NS.call (c1) rfl ?_)
    refine Sat.go (Eq.refl _) (NS.no (rfl) ?_)
    refine Sat.go (Eq.refl _) (NS.call (sameB_ok b (by have := hg.1; omega)) rfl ?_)
    refine Sat.go (Eq.refl _) (NS.no (rfl) ?_)
    refine Sat.go (Eq.refl _) (NS.call (strip_ok b n) rfl ?_)
    by_cases hs : (stripM b n).2 = 0
    · obtain ⟨ob, on, of, ox⟩ := stripM_ok.1 (show stripM b n = ((stripM b n).1, 0) by rw [← hs])
      obtain ⟨ok, sg, sd⟩ := strB_ok ob of
      rw [← ox] at ok sg sd
      have hvs : ∀ m, m ≠ n → verM (stripM b n).1 m key = verM b m key := fun m hm => by rw [ox]; exact ver_strip ob of hm
      have cs := signers_ok b
      rw [signers_of ob] at cs
      have ct := signers_ok (stripM b n).1
      rw [signers_of ok, sg, strF, nds_filter] at ct
      have cc := checkB_ok (stripM b n).1
      rw [ok.chk] at cc
      have hlen : (ndsI (sgB b)).length ≤ 16 := by unfold ndsI; rw [List.length_map]; exact ob.good.len
      have hany := nds_any (S := sgB b) (n := n)
      rw [of] at hany
      have hc := stripped1_ok n
      obtain ⟨p, hpdef⟩ : ∃ p : Int → Bool, (fun z : Int => z == n) = p := ⟨_, rfl⟩
      have hpz : ∀ z : Int, (z == n) = p z := fun z => congrFun hpdef z
      simp only [hpz] at hc
      rw [hpdef] at ct
      obtain ⟨L, hLdef⟩ : ∃ L, ndsI (sgB b) = L := ⟨_, rfl⟩
      rw [hLdef] at ct cs hlen hany
      have hkl : (keepG p L).length ≤ L.length := List.length_filter_le _ _
      refine Sat.go (Eq.refl _) (NS.no (by show ((stripM b n).2 != 0) = false; rw [hs]; rfl) ?_)
      refine Sat.go (Eq.refl _) (NS.call (cs) rfl ?_)
      refine Sat.go (Eq.refl _) (NS.call (ct) rfl ?_)
      refine Sat.go (Eq.refl _) (NS.no (rfl) ?_)
      refine Sat.go (Eq.refl _) (NS.no (rfl) ?_)
      refine Sat.go (Eq.refl _) (NS.call (containsN_ok L (by omega) n) rfl ?_)
      refine Sat.go (Eq.refl _) (NS.no (by rw [hany]; rfl) ?_)
      refine Sat.go (Eq.refl _) (NS.call (cloneN_ok L (by omega)) rfl ?_)
      refine Sat.go (Eq.refl _) (NS.call (idxFN_ok L (by omega) _ 1 (getA [.int .i64 n]) p hc) rfl ?_)
      rcases idx_cases p L with ⟨e, hno⟩ | ⟨k, hk, e, hpk, hnp⟩
      · exfalso
        rw [hpdef, List.any_eq_true] at hany
        obtain ⟨z, hz, e2⟩ := hany
        rw [hno z hz] at e2; cases e2
      refine Sat.go (Eq.refl _) (NS.no (by rw [e]; rw [beq_eq_false_iff_ne]; omega) ?_)
      obtain ⟨hi0, hl0⟩ := delG_start (p := p) hk hpk hnp
      refine Sat.go (Eq.refl _) ?_
      refine NS.loop (σ := { q : Nat × List Int // DelG p L q.2 q.1 }) (fun q => [(0, .own 85), (1, .fn 32 [.ptr 5 0]), (5, .int .i64 (keepG p (L.take q.1.1)).length), (6, .int .i64 q.1.1)]) (fun q => [(85, .row 3 1 q.1.2.length (rowL nC q.1.2))]) (fun q => L.length - q.1.1) ⟨(k + 1, L), hi0⟩ ?_ ?_
      · exact weak_hd [] rfl ⟨rfl, rfl, ren_int rfl (by rw [e]; show (k : Int) = ((keepG p (L.take (k + 1))).length : Int); rw [hl0]), ren_int rfl (by rw [e, wrap_i64 (by omega) (by omega)]; rfl), trivial⟩ ⟨ren_row rfl rfl fun _ _ _ _ => rfl, trivial⟩ (by repeat' (first | exact trivial | refine ⟨.inr rfl, ?_⟩ | refine ⟨.inl rfl, ?_⟩)) (by kernel_rfl)
      rintro ⟨⟨j, M⟩, hi⟩
      have hi : DelG p L M j := hi
      have hle := keepG_le p L j
      have hM := hi.1
      have hj := hi.2.1
      refine Sat.go (Eq.refl _) (NS.ite (fun a => ?_) (fun a => ?_))
      · have a : j < L.length := by have a : decide ((j : Int) < (M.length : Int)) = true := a; have := of_decide_eq_true a; omega
        have hMj := hi.2.2.2 j (Nat.le_refl _) a
        repeat' (first | (refine Sat.go (Eq.refl _) (NS.chk (by kernel_rfl) ?_)) | (refine Sat.go (Eq.refl _) (NS.need (by show decide (0 ≤ (j : Int) ∧ (j : Int) < (M.length : Int)) = true; exact decide_eq_true (by omega)) ?_)) | (refine Sat.go (Eq.refl _) (NS.need (by show decide (((j : Nat) : Int).toNat < M.length) = true; exact decide_eq_true (by omega)) ?_)))
        refine Sat.go (Eq.refl _) (NS.call (hc (M.getD j default)) rfl ?_)
        refine Sat.go (Eq.refl _) (NS.ite (fun h3 => ?_) (fun h3 => ?_))
        · have hpj : p (L.getD j default) = false := by rw [← hMj]; exact not_t h3
          have hnx := delG_keep hi a hpj
          repeat' (first | (refine Sat.go (Eq.refl _) (NS.chk (by kernel_rfl) ?_)) | (refine Sat.go (Eq.refl _) (NS.need (by show decide (0 ≤ ((keepG p (L.take j)).length : Int) ∧ ((keepG p (L.take j)).length : Int) < (M.length : Int)) = true; exact decide_eq_true (by omega)) ?_)) | (refine Sat.go (Eq.refl _) (NS.need (by show decide ((((keepG p (L.take j)).length : Nat) : Int).toNat < M.length) = true; exact decide_eq_true (by omega)) ?_)))
          refine Sat.go (Eq.refl _) (NS.next ⟨(j + 1, M.set (keepG p (L.take j)).length (L.getD j default)), hnx⟩ (by show L.length - (j + 1) < L.length - j; omega) ?_)
          refine weak_hd [] rfl ⟨rfl, rfl, ren_int rfl ?_, ren_int rfl (i64_k (k := j) (n := L.length) a (by omega)), trivial⟩ ⟨ren_row rfl (by simp) (fun q hq jj hjj => ?_), trivial⟩ (by repeat' (first | exact trivial | refine ⟨.inr rfl, ?_⟩ | refine ⟨.inl rfl, ?_⟩)) (by kernel_rfl)
          · show IntKind.i64.wrap (((keepG p (L.take j)).length : Int) + 1) = ((keepG p (L.take (j + 1))).length : Int)
            rw [wrap_i64 (by omega) (by omega), keepG_snoc a, hpj]; simp
          · have hrs := row_setG (cells := nC) (c := 1) M (keepG p (L.take j)).length (M.getD j default) (by omega) q jj hjj
            have hset : M.set (keepG p (L.take j)).length (M.getD j default) = M.set (keepG p (L.take j)).length (L.getD j default) := by rw [hMj]
            show _ = rowL nC (M.set (keepG p (L.take j)).length (L.getD j default)) q jj
            rw [← hset]
            exact hrs
        · have hpj : p (L.getD j default) = true := by rw [← hMj]; exact not_f h3
          obtain ⟨hnx, hsame⟩ := delG_drop hi a hpj
          refine Sat.go (Eq.refl _) (NS.next ⟨(j + 1, M), hnx⟩ (by show L.length - (j + 1) < L.length - j; omega) ?_)
          exact weak_hd [] rfl ⟨rfl, rfl, ren_int rfl (by show ((keepG p (L.take j)).length : Int) = ((keepG p (L.take (j + 1))).length : Int); rw [hsame]), ren_int rfl (i64_k (k := j) (n := L.length) a (by omega)), trivial⟩ ⟨ren_row rfl rfl (fun _ _ _ _ => rfl), trivial⟩ (by repeat' (first | exact trivial | refine ⟨.inr rfl, ?_⟩ | refine ⟨.inl rfl, ?_⟩)) (by kernel_rfl)
      have a : j = L.length := by have a : decide ((j : Int) < (M.length : Int)) = false := a; have := of_decide_eq_false a; omega
      subst a
      have hend := delG_end hi
      have hlt := keepG_lt hk hpk
      have hkk : (keepG p (L.take L.length)).length = (keepG p L).length := by rw [List.take_length]
      refine Sat.go (Eq.refl _) (NS.leave rfl (Eq.refl _) ?_)
      refine Sat.go (Eq.refl _) (NS.need (decide_eq_true ⟨by omega, by show ((keepG p (L.take L.length)).length : Int) ≤ (M.length : Int); omega, by show (M.length : Int) ≤ (M.length : Int); omega⟩) ?_)
      refine Sat.go (Eq.refl _) (NS.need (decide_eq_true (by show 0 < ((M.length : Int) - ((keepG p (L.take L.length)).length : Int)).toNat; omega)) ?_)
      refine Sat.go (Eq.refl _) (NS.need (decide_eq_true (by show (0 : Int) ≤ 0 ∧ (0 : Int) ≤ ((keepG p (L.take L.length)).length : Int) ∧ ((keepG p (L.take L.length)).length : Int) ≤ (M.length : Int); omega)) ?_)
      have hv1 : (((keepG p (L.take L.length)).length : Int) - 0).toNat = (keepG p L).length := by rw [hkk]; omega
      have hv2 : ∀ i, i < (((keepG p (L.take L.length)).length : Int) - 0).toNat → ∀ jj, jj < 1 → ∀ a : A, (if ((keepG p (L.take L.length)).length : Int).toNat ≤ (0 : Int).toNat + i ∧ (0 : Int).toNat + i < ((keepG p (L.take L.length)).length : Int).toNat + ((M.length : Int) - ((keepG p (L.take L.length)).length : Int)).toNat then a else rowL nC M ((0 : Int).toNat + i) jj) = rowL nC (keepG p L) i jj := by
        intro i hi jj hjj a
        rw [if_neg (by omega), show (0 : Int).toNat + i = i by omega]
        unfold rowL
        rw [hend i (by omega)]
      refine Sat.go (Eq.refl _) (NS.call ((equalN_ok (keepG p L) (by omega)).le (LeL.cons (LeA.refl _) (LeL.cons (LeA.sl hv1 fun i hi jj hjj => hv2 i hi jj hjj _) LeL.nil))) rfl ?_)
      refine Sat.go (Eq.refl _) (NS.no (rfl) ?_)
      refine Sat.go (Eq.refl _) (NS.call (cc) rfl ?_)
      refine Sat.go (Eq.refl _) (NS.no (rfl) ?_)
      refine Sat.go (Eq.refl _) (NS.chk (by kernel_rfl) ?_)
      refine Sat.go (Eq.refl _) (NS.ite (fun hmn => ?_) (fun hmn => ?_))
      · refine Sat.go (Eq.refl _) (NS.call (awake_ok) rfl ?_)
        exact Sat.go (Eq.refl _) (NS.ret rfl rfl (LeA.refl _))
      have hmn : m ≠ n := by have hmn : (m == n) = false := hmn; simpa using hmn
      have cv := verify_ok (stripM b n).1 m key
      rw [hvs m hmn] at cv
      refine Sat.go (Eq.refl _) (NS.call (cv) rfl ?_)
      refine Sat.go (Eq.refl _) (NS.call (verify_ok b m key) rfl ?_)
      refine Sat.go (Eq.refl _) (NS.yes (by simp) ?_)
      refine Sat.go (Eq.refl _) (NS.call (awake_ok) rfl ?_)
      exact Sat.go (Eq.refl _) (NS.ret rfl rfl (LeA.refl _))
    · have cz := strip_ok b n
      refine Sat.go (Eq.refl _) (NS.yes (by show ((stripM b n).2 != 0) = true; simpa using hs) ?_)
      have hd := stripM_fst hs
      refine Sat.go (Eq.refl _) (NS.call ((sameB_ok default (by decide)).le (LeL.cons (LeA.of (by show A.agg (stripM b n).1.cells = _; rw [hd])) (LeL.cons zeroA_le LeL.nil))) rfl ?_)
      refine Sat.go (Eq.refl _) (NS.yes (rfl) ?_)
      refine Sat.go (Eq.refl _) (NS.call (awake_ok) rfl ?_)
      exact Sat.go (Eq.refl _) (NS.ret rfl rfl (LeA.refl _))
  · refine Sat.go (Eq.refl _) (NS.call (protect_ok b n key) rfl ?_)
    refine Sat.go (Eq.refl _) (NS.no (by show ((protM b n key).2 == 0) = false; simpa using hp) ?_)
    refine Sat.go (Eq.refl _) (NS.call (strip_ok b n) rfl ?_)
    by_cases hs : (stripM b n).2 = 0
    · obtain ⟨ob, on, of, ox⟩ := stripM_ok.1 (show stripM b n = ((stripM b n).1, 0) by rw [← hs])
      obtain ⟨ok, sg, sd⟩ := strB_ok ob of
      rw [← ox] at ok sg sd
      have hvs : ∀ m, m ≠ n → verM (stripM b n).1 m key = verM b m key := fun m hm => by rw [ox]; exact ver_strip ob of hm
      have cs := signers_ok b
      rw [signers_of ob] at cs
      have ct := signers_ok (stripM b n).1
      rw [signers_of ok, sg, strF, nds_filter] at ct
      have cc := checkB_ok (stripM b n).1
      rw [ok.chk] at cc
      have hlen : (ndsI (sgB b)).length ≤ 16 := by unfold ndsI; rw [List.length_map]; exact ob.good.len
      have hany := nds_any (S := sgB b) (n := n)
      rw [of] at hany
      have hc := stripped1_ok n
      obtain ⟨p, hpdef⟩ : ∃ p : Int → Bool, (fun z : Int => z == n) = p := ⟨_, rfl⟩
      have hpz : ∀ z : Int, (z == n) = p z := fun z => congrFun hpdef z
      simp only [hpz] at hc
      rw [hpdef] at ct
      obtain ⟨L, hLdef⟩ : ∃ L, ndsI (sgB b) = L := ⟨_, rfl⟩
      rw [hLdef] at ct cs hlen hany
      have hkl : (keepG p L).length ≤ L.length := List.length_filter_le _ _
      refine Sat.go (Eq.refl _) (NS.no (by show ((stripM b n).2 != 0) = false; rw [hs]; rfl) ?_)
      refine Sat.go (Eq.refl _) (NS.call (cs) rfl ?_)
      refine Sat.go (Eq.refl _) (NS.call (ct) rfl ?_)
      refine Sat.go (Eq.refl _) (NS.no (rfl) ?_)
      refine Sat.go (Eq.refl _) (NS.no (rfl) ?_)
      refine Sat.go (Eq.refl _) (NS.call (containsN_ok L (by omega) n) rfl ?_)
      refine Sat.go (Eq.refl _) (NS.no (by rw [hany]; rfl) ?_)
      refine Sat.go (Eq.refl _) (NS.call (cloneN_ok L (by omega)) rfl ?_)
      refine Sat.go (Eq.refl _) (NS.call (idxFN_ok L (by omega) _ 1 (getA [.int .i64 n]) p hc) rfl ?_)
      rcases idx_cases p L with ⟨e, hno⟩ | ⟨k, hk, e, hpk, hnp⟩
      · exfalso
        rw [hpdef, List.any_eq_true] at hany
        obtain ⟨z, hz, e2⟩ := hany
        rw [hno z hz] at e2; cases e2
      refine Sat.go (Eq.refl _) (NS.no (by rw [e]; rw [beq_eq_false_iff_ne]; omega) ?_)
      obtain ⟨hi0, hl0⟩ := delG_start (p := p) hk hpk hnp
      refine Sat.go (Eq.refl _) ?_
      refine NS.loop (σ := { q : Nat × List Int // DelG p L q.2 q.1 }) (fun q => [(0, .own 85), (1, .fn 32 [.ptr 5 0]), (5, .int .i64 (keepG p (L.take q.1.1)).length), (6, .int .i64 q.1.1)]) (fun q => [(85, .row 3 1 q.1.2.length (rowL nC q.1.2))]) (fun q => L.length - q.1.1) ⟨(k + 1, L), hi0⟩ ?_ ?_
      · exact weak_hd [] rfl ⟨rfl, rfl, ren_int rfl (by rw [e]; show (k : Int) = ((keepG p (L.take (k + 1))).length : Int); rw [hl0]), ren_int rfl (by rw [e, wrap_i64 (by omega) (by omega)]; rfl), trivial⟩ ⟨ren_row rfl rfl fun _ _ _ _ => rfl, trivial⟩ (by repeat' (first | exact trivial | refine ⟨.inr rfl, ?_⟩ | refine ⟨.inl rfl, ?_⟩)) (by kernel_rfl)
      rintro ⟨⟨j, M⟩, hi⟩
      have hi : DelG p L M j := hi
      have hle := keepG_le p L j
      have hM := hi.1
      have hj := hi.2.1
      refine Sat.go (Eq.refl _) (NS.ite (fun a => ?_) (fun a => ?_))
      · have a : j < L.length := by have a : decide ((j : Int) < (M.length : Int)) = true := a; have := of_decide_eq_true a; omega
        have hMj := hi.2.2.2 j (Nat.le_refl _) a
        repeat' (first | (refine Sat.go (Eq.refl _) (NS.chk (by kernel_rfl) ?_)) | (refine Sat.go (Eq.refl _) (NS.need (by show decide (0 ≤ (j : Int) ∧ (j : Int) < (M.length : Int)) = true; exact decide_eq_true (by omega)) ?_)) | (refine Sat.go (Eq.refl _) (NS.need (by show decide (((j : Nat) : Int).toNat < M.length) = true; exact decide_eq_true (by omega)) ?_)))
        refine Sat.go (Eq.refl _) (NS.call (hc (M.getD j default)) rfl ?_)
        refine Sat.go (Eq.refl _) (NS.ite (fun h3 => ?_) (fun h3 => ?_))
        · have hpj : p (L.getD j default) = false := by rw [← hMj]; exact not_t h3
          have hnx := delG_keep hi a hpj
          repeat' (first | (refine Sat.go (Eq.refl _) (NS.chk (by kernel_rfl) ?_)) | (refine Sat.go (Eq.refl _) (NS.need (by show decide (0 ≤ ((keepG p (L.take j)).length : Int) ∧ ((keepG p (L.take j)).length : Int) < (M.length : Int)) = true; exact decide_eq_true (by omega)) ?_)) | (refine Sat.go (Eq.refl _) (NS.need (by show decide ((((keepG p (L.take j)).length : Nat) : Int).toNat < M.length) = true; exact decide_eq_true (by omega)) ?_)))
          refine Sat.go (Eq.refl _) (NS.next ⟨(j + 1, M.set (keepG p (L.take j)).length (L.getD j default)), hnx⟩ (by show L.length - (j + 1) < L.length - j; omega) ?_)
          refine weak_hd [] rfl ⟨rfl, rfl, ren_int rfl ?_, ren_int rfl (i64_k (k := j) (n := L.length) a (by omega)), trivial⟩ ⟨ren_row rfl (by simp) (fun q hq jj hjj => ?_), trivial⟩ (by repeat' (first | exact trivial | refine ⟨.inr rfl, ?_⟩ | refine ⟨.inl rfl, ?_⟩)) (by kernel_rfl)
          · show IntKind.i64.wrap (((keepG p (L.take j)).length : Int) + 1) = ((keepG p (L.take (j + 1))).length : Int)
            rw [wrap_i64 (by omega) (by omega), keepG_snoc a, hpj]; simp
          · have hrs := row_setG (cells := nC) (c := 1) M (keepG p (L.take j)).length (M.getD j default) (by omega) q jj hjj
            have hset : M.set (keepG p (L.take j)).length (M.getD j default) = M.set (keepG p (L.take j)).length (L.getD j default) := by rw [hMj]
            show _ = rowL nC (M.set (keepG p (L.take j)).length (L.getD j default)) q jj
            rw [← hset]
            exact hrs
        · have hpj : p (L.getD j default) = true := by rw [← hMj]; exact not_f h3
          obtain ⟨hnx, hsame⟩ := delG_drop hi a hpj
          refine Sat.go (Eq.refl _) (NS.next ⟨(j + 1, M), hnx⟩ (by show L.length - (j + 1) < L.length - j; omega) ?_)
          exact weak_hd [] rfl ⟨rfl, rfl, ren_int rfl (by show ((keepG p (L.take j)).length : Int) = ((keepG p (L.take (j + 1))).length : Int); rw [hsame]), ren_int rfl (i64_k (k := j) (n := L.length) a (by omega)), trivial⟩ ⟨ren_row rfl rfl (fun _ _ _ _ => rfl), trivial⟩ (by repeat' (first | exact trivial | refine ⟨.inr rfl, ?_⟩ | refine ⟨.inl rfl, ?_⟩)) (by kernel_rfl)
      have a : j = L.length := by have a : decide ((j : Int) < (M.length : Int)) = false := a; have := of_decide_eq_false a; omega
      subst a
      have hend := delG_end hi
      have hlt := keepG_lt hk hpk
      have hkk : (keepG p (L.take L.length)).length = (keepG p L).length := by rw [List.take_length]
      refine Sat.go (Eq.refl _) (NS.leave rfl (Eq.refl _) ?_)
      refine Sat.go (Eq.refl _) (NS.need (decide_eq_true ⟨by omega, by show ((keepG p (L.take L.length)).length : Int) ≤ (M.length : Int); omega, by show (M.length : Int) ≤ (M.length : Int); omega⟩) ?_)
      refine Sat.go (Eq.refl _) (NS.need (decide_eq_true (by show 0 < ((M.length : Int) - ((keepG p (L.take L.length)).length : Int)).toNat; omega)) ?_)
      refine Sat.go (Eq.refl _) (NS.need (decide_eq_true (by show (0 : Int) ≤ 0 ∧ (0 : Int) ≤ ((keepG p (L.take L.length)).length : Int) ∧ ((keepG p (L.take L.length)).length : Int) ≤ (M.length : Int); omega)) ?_)
      have hv1 : (((keepG p (L.take L.length)).length : Int) - 0).toNat = (keepG p L).length := by rw [hkk]; omega
      have hv2 : ∀ i, i < (((keepG p (L.take L.length)).length : Int) - 0).toNat → ∀ jj, jj < 1 → ∀ a : A, (if ((keepG p (L.take L.length)).length : Int).toNat ≤ (0 : Int).toNat + i ∧ (0 : Int).toNat + i < ((keepG p (L.take L.length)).length : Int).toNat + ((M.length : Int) - ((keepG p (L.take L.length)).length : Int)).toNat then a else rowL nC M ((0 : Int).toNat + i) jj) = rowL nC (keepG p L) i jj := by
        intro i hi jj hjj a
        rw [if_neg (by omega), show (0 : Int).toNat + i = i by omega]
        unfold rowL
        rw [hend i (by omega)]
      refine Sat.go (Eq.refl _) (NS.call ((equalN_ok (keepG p L) (by omega)).le (LeL.cons (LeA.refl _) (LeL.cons (LeA.sl hv1 fun i hi jj hjj => hv2 i hi jj hjj _) LeL.nil))) rfl ?_)
      refine Sat.go (Eq.refl _) (NS.no (rfl) ?_)
      refine Sat.go (Eq.refl _) (NS.call (cc) rfl ?_)
      refine Sat.go (Eq.refl _) (NS.no (rfl) ?_)
      refine Sat.go (Eq.refl _) (NS.chk (by kernel_rfl) ?_)
      refine Sat.go (Eq.refl _) (NS.ite (fun hmn => ?_) (fun hmn => ?_))
      · refine Sat.go (Eq.refl _) (NS.call (awake_ok) rfl ?_)
        exact Sat.go (Eq.refl _) (NS.ret rfl rfl (LeA.refl _))
      have hmn : m ≠ n := by have hmn : (m == n) = false := hmn; simpa using hmn
      have cv := verify_ok (stripM b n).1 m key
      rw [hvs m hmn] at cv
      refine Sat.go (Eq.refl _) (NS.call (cv) rfl ?_)
      refine Sat.go (Eq.refl _) (NS.call (verify_ok b m key) rfl ?_)
      refine Sat.go (Eq.refl _) (NS.yes (by simp) ?_)
      refine Sat.go (Eq.refl _) (NS.call (awake_ok) rfl ?_)
      exact Sat.go (Eq.refl _) (NS.ret rfl rfl (LeA.refl _))
    · have cz := strip_ok b n
      refine Sat.go (Eq.refl _) (NS.yes (by show ((stripM b n).2 != 0) = true; simpa using hs) ?_)
      have hd := stripM_fst hs
      refine Sat.go (Eq.refl _) (NS.call ((sameB_ok default (by decide)).le (LeL.cons (LeA.of (by show A.agg (stripM b n).1.cells = _; rw [hd])) (LeL.cons zeroA_le LeL.nil))) rfl ?_)
      refine Sat.go (Eq.refl _) (NS.yes (rfl) ?_)
      refine Sat.go (Eq.refl _) (NS.call (awake_ok) rfl ?_)
      exact Sat.go (Eq.refl _) (NS.ret rfl rfl (LeA.refl _))
end Go.Proofs.Ytdhfgfkfejpfdaa
