/- The contract of Order. -/
import Derived.Test.YtkgaaaidmaddnaaOB
import Derived.Test.YtkgaaaidmaddnaaOC
set_option linter.unusedSimpArgs false
set_option linter.unusedSectionVars false
set_option linter.unusedVariables false
namespace Go.Proofs.Ytkgaaaidmaddnaa
open Go.Sy Go.Mb
set_option maxRecDepth 100000
set_option linter.unusedVariables false
set_option maxHeartbeats 1000000

noncomputable def CS : Cx := { E := EN, inl := [67, 95, 112], ok := EN_ok }
def ltD (d : Dur) (a b : Int) : Bool := decide (cmpItm (d.items.getD a.toNat default) (d.items.getD b.toNat default) < 0)
def fillL (k n : Nat) : List Int := upto 0 k ++ List.replicate (n - k) 0
theorem fillL_len {k n : Nat} (h : k ≤ n) : (fillL k n).length = n := by simp [fillL, upto_len]; omega
theorem fillL_step {k n : Nat} (h : k < n) : (fillL k n).set k (k : Int) = fillL (k + 1) n := by
  have hu : upto 0 (k + 1) = upto 0 k ++ [(k : Int)] := by
    unfold upto
    rw [show k + 1 - 0 = (k - 0) + 1 by omega, List.range_succ]
    simp
  unfold fillL
  rw [hu, show n - k = (n - (k + 1)) + 1 by omega, List.replicate_succ]
  rw [List.set_append_right _ _ (by rw [upto_len]; omega), upto_len]
  simp
theorem fillL_all (n : Nat) : fillL n n = upto 0 n := by simp [fillL]
def insL (lt : Int → Int → Bool) (i n : Nat) : List Int := if i ≤ n then ordR lt i ++ upto i n else ordR lt n
theorem insL_len (lt : Int → Int → Bool) (i n : Nat) : (insL lt i n).length = n := by
  unfold insL
  split
  · simp [ordR_len, upto_len]; omega
  · exact ordR_len lt n
theorem upto_mem {k n : Nat} {x : Int} (h : x ∈ upto k n) : 0 ≤ x ∧ x < n := by
  unfold upto at h
  simp only [List.mem_map, List.mem_range] at h
  obtain ⟨i, hi, rfl⟩ := h
  omega
theorem insL_mem (lt : Int → Int → Bool) (i n : Nat) : ∀ x ∈ insL lt i n, 0 ≤ x ∧ x < n := by
  intro x hx
  unfold insL at hx
  split at hx
  · rename_i h
    rcases List.mem_append.1 hx with hx | hx
    · have := ordR_mem lt i x hx; omega
    · exact upto_mem hx
  · exact ordR_mem lt n x hx
theorem insL_start (lt : Int → Int → Bool) (n : Nat) : insL lt 1 n = upto 0 n := by
  unfold insL
  split
  · rename_i h
    rw [upto_cons (k := 0) (n := n) (by omega)]; rfl
  · have : n = 0 := by omega
    subst this; rfl
theorem insL_step (lt : Int → Int → Bool) {i n : Nat} (h : i < n) : sink lt i (insL lt i n) = insL lt (i + 1) n := by
  unfold insL
  rw [if_pos (by omega), if_pos (by omega), ord_step lt h]
theorem insL_end (lt : Int → Int → Bool) {i n : Nat} (h : n ≤ i) : insL lt i n = ordR lt n := by
  unfold insL
  split
  · have : i = n := by omega
    subst this
    rw [upto_end (Nat.le_refl _)]; simp
  · rfl
theorem memD {L : List Int} {p : Int → Prop} (h : ∀ x ∈ L, p x) {j : Nat} (hj : j < L.length) : p (L.getD j default) := by
  rw [getD_lt hj]; exact h _ (List.getElem_mem _)
theorem getD_setN (L : List Int) (i : Nat) (x : Int) (q : Nat) (hi : i < L.length) : (L.set i x).getD q default = if q = i then x else L.getD q default := by
  simp only [List.getD, List.getElem?_set]
  by_cases h : q = i
  · subst h; simp [hi]
  · rw [if_neg h, if_neg (fun e => h e.symm)]
theorem rowN_set (L : List Int) (i : Nat) (x : Int) (hi : i < L.length) (q j : Nat) (hj : j < 1) : (if q = i ∧ 0 ≤ j ∧ j < 0 + 1 then getA [A.int .i64 x] (j - 0) else rowL nC L q j) = rowL nC (L.set i x) q j := by
  unfold rowL
  rw [getD_setN _ _ _ _ hi]
  by_cases h : q = i
  · rw [if_pos ⟨h, by omega, by omega⟩, if_pos h]; rfl
  · rw [if_neg (by omega), if_neg h]
theorem flatN (l : List Int) (i j : Nat) : flat 3 (rowL nC l i j) = true := flat_getA rfl j
theorem order1_okI (d : Dur) (x y : Int) (hx : 0 ≤ x ∧ x < d.items.length) (hy : 0 ≤ y ∧ y < d.items.length) : FnOK Try.prog 68 [.int .i64 x, .int .i64 y, .ip 2 (getA d.cells)] (.int .i64 (cmpItm (d.items.getD x.toNat default) (d.items.getD y.toNat default)), none) := by
  have h := order1_ok d x.toNat y.toNat (by omega) (by omega)
  rw [Int.toNat_of_nonneg hx.1, Int.toNat_of_nonneg hy.1] at h
  exact h
theorem order_ok (d : Dur) (h1 : d.items.length ≤ 19) : FnOK Try.prog 41 [.agg d.cells] (.own 0, some (.row 3 1 d.items.length (rowL nC (ordR (ltD d) d.items.length)))) := by
  refine fn_ok CS rfl (by kernel_rfl) Try.func41 rfl ?_
  refine Sat.go (Eq.refl _) (NS.need (decide_eq_true (by simp only [maxRow]; omega)) ?_)
  refine Sat.go (Eq.refl _) ?_
  refine NS.loop (σ := { k : Nat // k ≤ d.items.length }) (fun k => [(1, .ptr 1 0), (2, .nils), (3, .own 8), (10, .int .i64 d.items.length), (11, .int .i64 k.1)]) (fun k => [(1, .box d.cells), (8, .row 3 1 d.items.length (rowL nC (fillL k.1 d.items.length)))]) (fun k => d.items.length - k.1) ⟨0, Nat.zero_le _⟩ ?_ ?_
  · refine weak_hd [] rfl ⟨rfl, rfl, rfl, rfl, rfl, trivial⟩ ⟨⟨_, rfl, _, _, rfl, rfl, _, _, rfl, rfl, rfl⟩, ren_row rfl rfl fun i hi j hj => ?_, trivial⟩ trivial (by kernel_rfl)
    obtain rfl : j = 0 := by omega
    have e0 : (fillL 0 d.items.length).getD i default = 0 := by
      unfold fillL
      rw [upto_end (Nat.le_refl _)]
      simp [List.getD, hi]
    show A.int .i64 0 = A.int .i64 ((fillL 0 d.items.length).getD i default)
    rw [e0]
  · rintro ⟨k, hk⟩
    refine Sat.go (Eq.refl _) (NS.ite (fun h => ?_) (fun h => ?_))
    · simp at h
      refine Sat.go (Eq.refl _) (NS.need (by simp; omega) ?_)
      refine Sat.go (Eq.refl _) (NS.need (by simp; omega) ?_)
      refine Sat.go (Eq.refl _) (NS.next ⟨k + 1, by omega⟩ (by simp; omega) ?_)
      refine weak_hd [] rfl ⟨rfl, rfl, rfl, rfl, ren_int rfl (i64_k (k := k) (n := d.items.length) (by omega) (by omega)), trivial⟩ ⟨⟨_, rfl, _, _, rfl, rfl, _, _, rfl, rfl, rfl⟩, ren_row rfl rfl fun i hi j hj => ?_, trivial⟩ trivial (by kernel_rfl)
      have hs := rowN_set (fillL k d.items.length) k k (by rw [fillL_len hk]; omega) i j hj
      rw [fillL_step h] at hs
      exact hs
    · simp at h
      obtain rfl : k = d.items.length := by omega
      refine Sat.go (Eq.refl _) (NS.leave rfl (Eq.refl _) ?_)
      rw [fillL_all]
      generalize hlt : ltD d = lt
      refine Sat.go (Eq.refl _) ?_
      refine NS.loop (σ := Unit) (fun _ => [(0, .own 8), (1, .int .i64 d.items.length), (2, .fn 68 [.ptr 1 0]), (6, .int .i64 20), (7, .int .i64 0), (8, .int .i64 20)]) (fun _ => []) (fun _ => 0) () ?_ ?_
      · exact weak_hd [] rfl ⟨rfl, rfl, rfl, rfl, rfl, rfl, trivial⟩ trivial (by repeat' (first | exact trivial | refine ⟨.inr rfl, ?_⟩ | refine ⟨.inl rfl, ?_⟩)) (by kernel_rfl)
      intro _
      refine Sat.go (Eq.refl _) (NS.no (by simp; omega) ?_)
      refine Sat.go (Eq.refl _) (NS.leave rfl (Eq.refl _) ?_)
      refine Sat.go (Eq.refl _) ?_
      refine NS.loop (σ := { i : Nat // 1 ≤ i ∧ (i ≤ d.items.length ∨ i = 1) }) (fun i => [(0, .own 8), (1, .int .i64 0), (2, .int .i64 d.items.length), (3, .fn 68 [.ptr 1 0]), (8, .int .i64 i.1)]) (fun i => [(8, .row 3 1 d.items.length (rowL nC (insL lt i.1 d.items.length)))]) (fun i => d.items.length - i.1) ⟨1, Nat.le_refl _, .inr rfl⟩ ?_ ?_
      · refine weak_hd [] rfl ⟨rfl, rfl, rfl, rfl, ren_int rfl rfl, trivial⟩ ⟨ren_row rfl rfl fun i hi j hj => ?_, trivial⟩ (by repeat' (first | exact trivial | refine ⟨.inr rfl, ?_⟩ | refine ⟨.inl rfl, ?_⟩)) (by kernel_rfl)
        show _ = rowL nC (insL lt 1 d.items.length) i j
        rw [insL_start]
      rintro ⟨i, hi1, hi2⟩
      refine Sat.go (Eq.refl _) (NS.ite (fun h => ?_) (fun h => ?_))
      · simp at h
        refine Sat.go (Eq.refl _) ?_
        refine NS.loop (σ := { p : Nat × List Int // p.1 ≤ i ∧ p.2.length = d.items.length ∧ (∀ x ∈ p.2, 0 ≤ x ∧ x < d.items.length) ∧ sink lt p.1 p.2 = insL lt (i + 1) d.items.length }) (fun p => [(0, .own 8), (1, .int .i64 0), (2, .int .i64 d.items.length), (3, .fn 68 [.ptr 1 0]), (8, .int .i64 i), (9, .int .i64 p.1.1)]) (fun p => [(8, .row 3 1 d.items.length (rowL nC p.1.2))]) (fun p => p.1.1) ⟨(i, insL lt i d.items.length), Nat.le_refl _, insL_len lt i _, insL_mem lt i _, insL_step lt h⟩ ?_ ?_
        · exact weak_hd [] rfl ⟨rfl, rfl, rfl, rfl, rfl, rfl, trivial⟩ ⟨ren_row rfl rfl fun i hi j hj => rfl, trivial⟩ (by repeat' (first | exact trivial | refine ⟨.inr rfl, ?_⟩ | refine ⟨.inl rfl, ?_⟩)) (by kernel_rfl)
        rintro ⟨⟨j, L⟩, hj, hL, hm, hs⟩
        simp only at hj hL hm hs
        refine Sat.go (Eq.refl _) (NS.chk (by kernel_rfl) ?_)
        refine Sat.go (Eq.refl _) (NS.ite (fun h2 => ?_) (fun h2 => ?_))
        · obtain ⟨m, rfl⟩ : ∃ m, j = m + 1 := by
            simp at h2
            exact ⟨j - 1, by omega⟩
          have e1 : IntKind.i64.wrap (((m + 1 : Nat) : Int) - 1) = (m : Int) := by rw [wrap_i64 (by omega) (by omega)]; omega
          refine Sat.go (Eq.refl _) (NS.need (by simp; omega) ?_)
          refine Sat.go (Eq.refl _) (NS.need (by simp; omega) ?_)
          refine Sat.go (Eq.refl _) (NS.need (by rw [e1]; simp; omega) ?_)
          rw [e1]
          refine Sat.go (Eq.refl _) (NS.need (by simp; omega) ?_)
          refine Sat.go (Eq.refl _) (NS.call (order1_okI d (L.getD (m + 1) default) (L.getD m default) (memD hm (by omega)) (memD hm (by omega))) rfl ?_)
          refine Sat.go (Eq.refl _) (NS.ite (fun h3 => ?_) (fun h3 => ?_))
          · have h3' : lt (L.getD (m + 1) default) (L.getD m default) = true := by rw [← hlt]; exact h3
            refine Sat.go (Eq.refl _) (NS.chk (by kernel_rfl) ?_)
            refine Sat.go (Eq.refl _) (NS.need (by rw [e1]; simp; omega) ?_)
            rw [e1]
            refine Sat.go (Eq.refl _) (NS.need (by simp; omega) ?_)
            refine Sat.go (Eq.refl _) (NS.need (by simp; omega) ?_)
            refine Sat.go (Eq.refl _) (NS.need (by simp; omega) ?_)
            refine Sat.go (Eq.refl _) (NS.need (by simp; omega) ?_)
            refine Sat.go (Eq.refl _) (NS.need (by simp; omega) ?_)
            refine Sat.go (Eq.refl _) (NS.need (by simp; omega) ?_)
            refine Sat.go (Eq.refl _) (NS.need (by simp; omega) ?_)
            refine Sat.go (Eq.refl _) (NS.next ⟨(m, swp L m), by simp only; omega, by simp only; rw [swp_len]; exact hL, swp_mem (by omega) hm, ?_⟩ (by simp) ?_)
            · rw [← hs, sink, if_pos h3']
            · refine weak_hd [] rfl ⟨rfl, rfl, rfl, rfl, rfl, ren_int rfl e1, trivial⟩ ⟨ren_row rfl rfl fun q hq jj hjj => ?_, trivial⟩ (by repeat' (first | exact trivial | refine ⟨.inr rfl, ?_⟩ | refine ⟨.inl rfl, ?_⟩)) (by kernel_rfl)
              have r1 := rowN_set L (m + 1) (L.getD m default) (by omega) q jj hjj
              have r2 := rowN_set (L.set (m + 1) (L.getD m default)) m (L.getD (m + 1) default) (by simp; omega) q jj hjj
              show _ = rowL nC (swp L m) q jj
              unfold swp
              rw [← r2, ← r1]
              rfl
          · have h3' : lt (L.getD (m + 1) default) (L.getD m default) = false := by rw [← hlt]; exact h3
            have hs2 : L = insL lt (i + 1) d.items.length := by rw [← hs, sink, if_neg (by rw [h3']; simp)]
            subst hs2
            refine Sat.go (Eq.refl _) (NS.leave rfl (Eq.refl _) ?_)
            refine Sat.go (Eq.refl _) (NS.next ⟨i + 1, by omega, .inl h⟩ (by simp; omega) ?_)
            exact weak_hd [] rfl ⟨rfl, rfl, rfl, rfl, ren_int rfl (i64_k (k := i) (n := d.items.length) (by omega) (by omega)), trivial⟩ ⟨ren_row rfl rfl fun q hq jj hjj => rfl, trivial⟩ (by repeat' (first | exact trivial | refine ⟨.inr rfl, ?_⟩ | refine ⟨.inl rfl, ?_⟩)) (by kernel_rfl)
        · obtain rfl : j = 0 := by simp at h2; exact h2
          have hs2 : L = insL lt (i + 1) d.items.length := hs
          subst hs2
          refine Sat.go (Eq.refl _) (NS.leave rfl (Eq.refl _) ?_)
          refine Sat.go (Eq.refl _) (NS.next ⟨i + 1, by omega, .inl h⟩ (by simp; omega) ?_)
          exact weak_hd [] rfl ⟨rfl, rfl, rfl, rfl, ren_int rfl (i64_k (k := i) (n := d.items.length) (by omega) (by omega)), trivial⟩ ⟨ren_row rfl rfl fun q hq jj hjj => rfl, trivial⟩ (by repeat' (first | exact trivial | refine ⟨.inr rfl, ?_⟩ | refine ⟨.inl rfl, ?_⟩)) (by kernel_rfl)
      · simp at h
        refine Sat.go (Eq.refl _) (NS.leave rfl (Eq.refl _) ?_)
        rw [insL_end lt h]
        refine Sat.go (Eq.refl _) ?_
        refine NS.loop (σ := Unit) (fun _ => [(1, .int .i64 d.items.length), (6, .int .i64 20)]) (fun _ => []) (fun _ => 0) () ?_ ?_
        · exact weak_hd [] rfl ⟨rfl, rfl, trivial⟩ trivial (by repeat' (first | exact trivial | refine ⟨.inr rfl, ?_⟩ | refine ⟨.inl rfl, ?_⟩)) (by kernel_rfl)
        intro _
        refine Sat.go (Eq.refl _) (NS.no (by simp; omega) ?_)
        refine Sat.go (Eq.refl _) (NS.leave rfl (Eq.refl _) ?_)
        exact Sat.go (Eq.refl _) (NS.retRow 8 rfl rfl (LeA.refl _) ⟨rfl, rfl, rfl, fun _ _ _ _ => rfl⟩ fun _ _ _ _ => flatN _ _ _)
end Go.Proofs.Ytkgaaaidmaddnaa
