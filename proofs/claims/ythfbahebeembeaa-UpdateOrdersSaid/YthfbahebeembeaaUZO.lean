/- The laws UpdateJoin, UpdateExchange, UpdateOrders. -/
import Derived.Test.YthfbahebeembeaaUZN
import Derived.Test.YthfbahebeembeaaLYR
import Derived.Test.YthfbahebeembeaaSyRev
set_option linter.unusedSimpArgs false
set_option linter.unusedSectionVars false
set_option linter.unusedVariables false
namespace Go.Mb
open Go.Sy
set_option linter.unusedVariables false
theorem same_ref {A B : His} (h : A = B) : (A.nodes == B.nodes && sameBy Chg.eqv A.l B.l) = true := by subst h; exact same_refl A
theorem has_t {l : List Chg} {x : Chg} (h : x ∈ l) : (l.any fun y => Chg.eqv x y) = true := List.any_eq_true.2 ⟨x, h, Chg.eqv_iff.2 rfl⟩
theorem J_known {P Q : List Chg} (hP : Part 0 P) (hQ : Part 1 Q) {a b : Nat} (ha : a ≤ P.length) (hb : b ≤ Q.length) (hs : P.length + Q.length ≤ 1000) : (if chkHi ⟨4, J P Q a b⟩ != 0 then [] else vecL (His.mk 4 (J P Q a b)).nodes.toNat (His.mk 4 (J P Q a b)).l) = [(a : Int), (b : Int), 0, 0] ∧ (if chkHi ⟨4, J P Q a b⟩ != 0 then (1 : Int) else 0) = 0 := by
  rw [J_check hP hQ a b hs, if_neg (by simp), if_neg (by simp)]
  exact ⟨J_vec hP hQ ha hb, rfl⟩
theorem four {p : Nat → Prop} (h0 : p 0) (h1 : p 1) (h2 : p 2) (h3 : p 3) : ∀ k, k < 4 → p k
  | 0, _ => h0
  | 1, _ => h1
  | 2, _ => h2
  | 3, _ => h3
end Go.Mb
namespace Go.Proofs.Ythfbahebeembeaa
open Go.Sy Go.Mb
set_option maxRecDepth 100000
set_option linter.unusedVariables false
set_option maxHeartbeats 4000000
noncomputable def EJ : Env := { P := Try.prog, eqT := EN.eqT, frz := [47, 82] }
theorem EJ_ok : EqOK EJ := EN_ok
noncomputable def CJ : Cx := { E := EJ, inl := [], ok := EJ_ok }
theorem concat_sl (ls : List (List Chg)) (h1 : ls.length ≤ 1000) (h2 : ls.flatten.length ≤ 1000000) : FnOK Try.prog 47 [slLC ls] (slChg ls.flatten, none) := (concat_row ls h1 h2).frz
theorem reverse_mu (zs : List Chg) (hsz : zs.length < 4611686018427387904) : FnMu Try.prog 46 [.own 0] (.row 52 11 zs.length (rowL Chg.cells zs)) (fun ob r => ob = .row 52 11 zs.length (rowL Chg.cells zs.reverse) ∧ r = .tup []) :=
  reverseF_mu Try.lyReverse (by kernel_rfl) liesChg Try.isAgg52 Try.sizeOf52 zs _ hsz
theorem updateJoin_ok (x : Scr) (hacts : ∀ y ∈ x.acts, y < 256) : FnOK Try.prog 10 [.agg x.cells] (.bool true, none) := by
  refine fn_ok CJ rfl (by kernel_rfl) Try.func10 rfl ?_
  refine Sat.go (Eq.refl _) (NS.call (sgreat_ok x) rfl ?_)
  refine Sat.go (Eq.refl _) (NS.ite (fun h0 => ?_) (fun h0 => ?_))
  · refine Sat.go (Eq.refl _) (NS.call (awake_ok) rfl ?_)
    exact Sat.go (Eq.refl _) (NS.ret rfl rfl (LeA.refl _))
  have h0 : (decide ((x.acts.length : Int) > 16) || decide ((x.cts.length : Int) > 8)) = false := h0
  rw [Bool.or_eq_false_iff, decide_eq_false_iff_not, decide_eq_false_iff_not] at h0
  have hl : x.acts.length ≤ 16 := by omega
  have cplay := play_ok x hacts hl
  obtain ⟨P, Q, a, b, hL, ha, hb, hP, hQ, hs⟩ := inv_all x x.acts.length (by omega)
  rw [hL] at cplay
  have hs : P.length + Q.length ≤ 16 := by omega
  have lA := J_len (P := P) (Q := Q) P.length b
  have lB := J_len (P := P) (Q := Q) a Q.length
  have lF := J_len (P := P) (Q := Q) P.length Q.length
  have sA : ∀ z ∈ J P Q P.length b, z ∈ J P Q P.length Q.length := fun z hz => by
    rw [J_mem] at hz ⊢
    rcases hz with ⟨k, h1, h2, h3⟩ | ⟨k, h1, h2, h3⟩
    · exact .inl ⟨k, h1, h2, h3⟩
    · exact .inr ⟨k, by omega, h2, h3⟩
  have sB : ∀ z ∈ J P Q a Q.length, z ∈ J P Q P.length Q.length := fun z hz => by
    rw [J_mem] at hz ⊢
    rcases hz with ⟨k, h1, h2, h3⟩ | ⟨k, h1, h2, h3⟩
    · exact .inl ⟨k, by omega, h2, h3⟩
    · exact .inr ⟨k, h1, h2, h3⟩
  have sF : ∀ z ∈ J P Q P.length Q.length, z ∈ J P Q P.length b ∨ z ∈ J P Q a Q.length := fun z hz => by
    rw [J_mem] at hz
    rw [J_mem, J_mem]
    rcases hz with ⟨k, h1, h2, h3⟩ | ⟨k, h1, h2, h3⟩
    · exact .inl (.inl ⟨k, h1, h2, h3⟩)
    · exact .inr (.inr ⟨k, h1, h2, h3⟩)
  have m1 := merge_ok ⟨4, J P Q P.length b⟩ (J P Q a Q.length) (by show (J P Q P.length b).length ≤ _; omega) (by omega)
  rw [J_merge hP hQ (m := P.length) (n := Q.length) (by omega) sA sB sF] at m1
  have m2 := merge_ok ⟨4, J P Q a Q.length⟩ (J P Q P.length b) (by show (J P Q a Q.length).length ≤ _; omega) (by omega)
  rw [J_merge hP hQ (m := P.length) (n := Q.length) (by omega) sB sA fun z hz => (sF z hz).symm] at m2
  have hfl : [J P Q P.length b, J P Q a Q.length, J P Q P.length Q.length].flatten = J P Q P.length b ++ (J P Q a Q.length ++ J P Q P.length Q.length) := by simp
  have hfl2 : [J P Q P.length b, J P Q a Q.length].flatten = J P Q P.length b ++ J P Q a Q.length := by simp
  have c1 := concat_sl [J P Q P.length b, J P Q a Q.length, J P Q P.length Q.length] (by simp) (by rw [hfl]; simp only [List.length_append]; omega)
  rw [hfl] at c1
  have c2 := concat_sl [J P Q P.length b, J P Q a Q.length] (by simp) (by rw [hfl2]; simp only [List.length_append]; omega)
  rw [hfl2] at c2
  have m3 := merge_ok ⟨4, J P Q P.length Q.length⟩ (J P Q P.length b ++ (J P Q a Q.length ++ J P Q P.length Q.length)) (by show (J P Q P.length Q.length).length ≤ _; omega) (by simp only [List.length_append]; omega)
  rw [J_merge hP hQ (m := P.length) (n := Q.length) (by omega) (fun z hz => hz) (fun z hz => by
    rcases List.mem_append.1 hz with hz | hz
    · exact sA z hz
    · rcases List.mem_append.1 hz with hz | hz
      · exact sB z hz
      · exact hz) (fun z hz => .inl hz)] at m3
  have hsl : (J P Q P.length b ++ J P Q a Q.length).length ≤ 1000 := by simp only [List.length_append]; omega
  refine Sat.go (Eq.refl _) (NS.call (cplay) rfl ?_)
  refine Sat.go (Eq.refl _) (NS.call (m1) rfl ?_)
  refine Sat.go (Eq.refl _) (NS.call (m2) rfl ?_)
  refine Sat.go (Eq.refl _) (NS.chk (by kernel_rfl) ?_)
  refine Sat.go (Eq.refl _) (NS.call (c1.le (LeL.cons (LeA.sl rfl fun i hi j hj => by match i, hi, j, hj with | 0, _, 0, _ => rfl | 1, _, 0, _ => rfl | 2, _, 0, _ => rfl) LeL.nil)) rfl ?_)
  refine Sat.go (Eq.refl _) (NS.call (m3) rfl ?_)
  repeat' (first | (refine Sat.go (Eq.refl _) (NS.no (rfl) ?_)))
  refine Sat.go (Eq.refl _) (NS.call (same_ok ⟨4, J P Q P.length Q.length⟩ ⟨4, J P Q P.length Q.length⟩ (by show (J P Q P.length Q.length).length ≤ _; omega)) rfl ?_)
  refine Sat.go (Eq.refl _) (NS.no (by rw [same_refl]; rfl) ?_)
  refine Sat.go (Eq.refl _) (NS.call (same_ok ⟨4, J P Q P.length Q.length⟩ ⟨4, J P Q P.length Q.length⟩ (by show (J P Q P.length Q.length).length ≤ _; omega)) rfl ?_)
  refine Sat.go (Eq.refl _) (NS.no (by rw [same_refl]; rfl) ?_)
  refine Sat.go (Eq.refl _) (NS.call (c2.le (LeL.cons (LeA.sl rfl fun i hi j hj => by match i, hi, j, hj with | 0, _, 0, _ => rfl | 1, _, 0, _ => rfl) LeL.nil)) rfl ?_)
  refine Sat.go (Eq.refl _) ?_
  refine NS.loop (σ := { k : Nat // k ≤ (J P Q P.length b ++ J P Q a Q.length).length }) (fun k => [(3, .ptr 3 0), (4, .ptr 4 0), (6, .ptr 6 0), (83, slChg (J P Q P.length b ++ J P Q a Q.length)), (84, .int .i64 (J P Q P.length b ++ J P Q a Q.length).length), (85, .int .i64 k.1)]) (fun k => [(3, .box (His.cells ⟨4, J P Q P.length b⟩)), (4, .box (His.cells ⟨4, J P Q a Q.length⟩)), (6, .box (His.cells ⟨4, J P Q P.length Q.length⟩))]) (fun k => (J P Q P.length b ++ J P Q a Q.length).length - k.1) ⟨0, Nat.zero_le _⟩ ?_ ?_
  · exact weak_hd [] rfl ⟨rfl, rfl, rfl, rfl, rfl, rfl, trivial⟩ ⟨⟨_, rfl, renHis _ _⟩, ⟨_, rfl, renHis _ _⟩, ⟨_, rfl, renHis _ _⟩, trivial⟩ trivial (by kernel_rfl)
  rintro ⟨k, hk⟩
  refine Sat.go (Eq.refl _) (NS.ite (fun c => ?_) (fun c => ?_))
  · have c : k < (J P Q P.length b ++ J P Q a Q.length).length := Int.ofNat_lt.1 (of_decide_eq_true c)
    have hm : (J P Q P.length b ++ J P Q a Q.length).getD k default ∈ J P Q P.length Q.length := by
      have : (J P Q P.length b ++ J P Q a Q.length).getD k default ∈ J P Q P.length b ++ J P Q a Q.length := by rw [getD_lt c]; exact List.getElem_mem _
      rcases List.mem_append.1 this with h | h
      · exact sA _ h
      · exact sB _ h
    refine Sat.go (Eq.refl _) (NS.need (decide_eq_true ⟨by omega, by show (k : Int) < _; omega⟩) ?_)
    refine Sat.go (Eq.refl _) (NS.call (hasX_ok (J P Q P.length Q.length) ((J P Q P.length b ++ J P Q a Q.length).getD k default) (by omega)) rfl ?_)
    refine Sat.go (Eq.refl _) (NS.no (by rw [has_t hm]; rfl) ?_)
    refine Sat.go (Eq.refl _) (NS.next ⟨k + 1, c⟩ (by show _ - (k + 1) < _ - k; omega) ?_)
    exact weak_hd [] rfl ⟨rfl, rfl, rfl, rfl, rfl, ren_int rfl (i64_k (k := k) c (by omega)), trivial⟩ ⟨⟨_, rfl, renHis _ _⟩, ⟨_, rfl, renHis _ _⟩, ⟨_, rfl, renHis _ _⟩, trivial⟩ trivial (by kernel_rfl)
  refine Sat.go (Eq.refl _) (NS.leave rfl (Eq.refl _) ?_)
  refine Sat.go (Eq.refl _) ?_
  refine NS.loop (σ := { k : Nat // k ≤ (J P Q P.length Q.length).length }) (fun k => [(3, .ptr 3 0), (4, .ptr 4 0), (96, slChg (J P Q P.length Q.length)), (97, .int .i64 (J P Q P.length Q.length).length), (98, .int .i64 k.1)]) (fun k => [(3, .box (His.cells ⟨4, J P Q P.length b⟩)), (4, .box (His.cells ⟨4, J P Q a Q.length⟩))]) (fun k => (J P Q P.length Q.length).length - k.1) ⟨0, Nat.zero_le _⟩ ?_ ?_
  · exact weak_hd [] rfl ⟨rfl, rfl, rfl, rfl, rfl, trivial⟩ ⟨⟨_, rfl, renHis _ _⟩, ⟨_, rfl, renHis _ _⟩, trivial⟩ trivial (by kernel_rfl)
  rintro ⟨k, hk⟩
  refine Sat.go (Eq.refl _) (NS.ite (fun d => ?_) (fun d => ?_))
  · have d : k < (J P Q P.length Q.length).length := by simpa using d
    have hm := sF ((J P Q P.length Q.length).getD k default) (by rw [getD_lt d]; exact List.getElem_mem _)
    refine Sat.go (Eq.refl _) (NS.need (by simp; omega) ?_)
    refine Sat.go (Eq.refl _) (NS.call (hasX_ok (J P Q P.length b) ((J P Q P.length Q.length).getD k default) (by omega)) rfl ?_)
    refine Sat.go (Eq.refl _) (NS.ite (fun e => ?_) (fun e => ?_))
    · have e : (!(J P Q P.length b).any fun y => Chg.eqv ((J P Q P.length Q.length).getD k default) y) = true := e
      have hm2 : (J P Q P.length Q.length).getD k default ∈ J P Q a Q.length := by
        rcases hm with h | h
        · rw [has_t h] at e; cases e
        · exact h
      refine Sat.go (Eq.refl _) (NS.call (hasX_ok (J P Q a Q.length) ((J P Q P.length Q.length).getD k default) (by omega)) rfl ?_)
      refine Sat.go (Eq.refl _) (NS.no (by rw [has_t hm2]; rfl) ?_)
      refine Sat.go (Eq.refl _) (NS.next ⟨k + 1, d⟩ (by simp; omega) ?_)
      exact weak_hd [] rfl ⟨rfl, rfl, rfl, rfl, ren_int rfl (i64_k (k := k) d (by omega)), trivial⟩ ⟨⟨_, rfl, renHis _ _⟩, ⟨_, rfl, renHis _ _⟩, trivial⟩ trivial (by kernel_rfl)
    · refine Sat.go (Eq.refl _) (NS.next ⟨k + 1, d⟩ (by simp; omega) ?_)
      exact weak_hd [] rfl ⟨rfl, rfl, rfl, rfl, ren_int rfl (i64_k (k := k) d (by omega)), trivial⟩ ⟨⟨_, rfl, renHis _ _⟩, ⟨_, rfl, renHis _ _⟩, trivial⟩ trivial (by kernel_rfl)
  · refine Sat.go (Eq.refl _) (NS.leave rfl (Eq.refl _) ?_)
    refine Sat.go (Eq.refl _) (NS.call (awake_ok) rfl ?_)
    exact Sat.go (Eq.refl _) (NS.ret rfl rfl (LeA.refl _))
theorem updateExchange_ok (x : Scr) (hacts : ∀ y ∈ x.acts, y < 256) : FnOK Try.prog 8 [.agg x.cells] (.bool true, none) := by
  refine fn_ok CN rfl (by kernel_rfl) Try.func8 rfl ?_
  refine Sat.go (Eq.refl _) (NS.call (sgreat_ok x) rfl ?_)
  refine Sat.go (Eq.refl _) (NS.ite (fun h0 => ?_) (fun h0 => ?_))
  · refine Sat.go (Eq.refl _) (NS.call (awake_ok) rfl ?_)
    exact Sat.go (Eq.refl _) (NS.ret rfl rfl (LeA.refl _))
  have h0 : (decide ((x.acts.length : Int) > 16) || decide ((x.cts.length : Int) > 8)) = false := h0
  rw [Bool.or_eq_false_iff, decide_eq_false_iff_not, decide_eq_false_iff_not] at h0
  have hl : x.acts.length ≤ 16 := by omega
  have cplay := play_ok x hacts hl
  obtain ⟨P, Q, a, b, hL, ha, hb, hP, hQ, hs⟩ := inv_all x x.acts.length (by omega)
  rw [hL] at cplay
  have hs : P.length + Q.length ≤ 16 := by omega
  have lA := J_len (P := P) (Q := Q) P.length b
  have lB := J_len (P := P) (Q := Q) a Q.length
  have lF := J_len (P := P) (Q := Q) P.length Q.length
  have sA : ∀ z ∈ J P Q P.length b, z ∈ J P Q P.length Q.length := fun z hz => by
    rw [J_mem] at hz ⊢
    rcases hz with ⟨k, h1, h2, h3⟩ | ⟨k, h1, h2, h3⟩
    · exact .inl ⟨k, h1, h2, h3⟩
    · exact .inr ⟨k, by omega, h2, h3⟩
  have sB : ∀ z ∈ J P Q a Q.length, z ∈ J P Q P.length Q.length := fun z hz => by
    rw [J_mem] at hz ⊢
    rcases hz with ⟨k, h1, h2, h3⟩ | ⟨k, h1, h2, h3⟩
    · exact .inl ⟨k, by omega, h2, h3⟩
    · exact .inr ⟨k, h1, h2, h3⟩
  have sF : ∀ z ∈ J P Q P.length Q.length, z ∈ J P Q P.length b ∨ z ∈ J P Q a Q.length := fun z hz => by
    rw [J_mem] at hz
    rw [J_mem, J_mem]
    rcases hz with ⟨k, h1, h2, h3⟩ | ⟨k, h1, h2, h3⟩
    · exact .inl (.inl ⟨k, h1, h2, h3⟩)
    · exact .inr (.inr ⟨k, h1, h2, h3⟩)
  have k1 := knownV_ok ⟨4, J P Q P.length b⟩ (by show (J P Q P.length b).length ≤ _; omega)
  obtain ⟨e1, e2⟩ := J_known hP hQ (Nat.le_refl P.length) hb (by omega)
  rw [e1, e2] at k1
  have k2 := knownV_ok ⟨4, J P Q a Q.length⟩ (by show (J P Q a Q.length).length ≤ _; omega)
  obtain ⟨e1, e2⟩ := J_known hP hQ ha (Nat.le_refl Q.length) (by omega)
  rw [e1, e2] at k2
  have k3 := knownV_ok ⟨4, J P Q P.length Q.length⟩ (by show (J P Q P.length Q.length).length ≤ _; omega)
  obtain ⟨e1, e2⟩ := J_known hP hQ (Nat.le_refl P.length) (Nat.le_refl Q.length) (by omega)
  rw [e1, e2] at k3
  have f1 := List.length_filter_le (unkB [(P.length : Int), (b : Int), 0, 0]) (J P Q a Q.length)
  have f2 := List.length_filter_le (unkB [(a : Int), (Q.length : Int), 0, 0]) (J P Q P.length b)
  have x1 := J_exch hP hQ (a := P.length) (b := b) (a' := a) (b' := Q.length) (by omega) (Nat.le_refl _) hb
  rw [show max P.length a = P.length by omega, show max b Q.length = Q.length by omega] at x1
  have x2 := J_exch hP hQ (a := a) (b := Q.length) (a' := P.length) (b' := b) (by omega) ha (Nat.le_refl _)
  rw [show max a P.length = P.length by omega, show max Q.length b = Q.length by omega] at x2
  have s1 := missing_ok ⟨4, J P Q a Q.length⟩ [(P.length : Int), (b : Int), 0, 0] (by show (J P Q a Q.length).length ≤ _; omega) (by simp)
  have j1 := J_miss hP hQ (a := P.length) (b := b) a Q.length (by omega) (Nat.le_refl _) hb
  rw [J_vec hP hQ (Nat.le_refl _) hb] at j1
  rw [j1] at s1
  have s2 := missing_ok ⟨4, J P Q P.length b⟩ [(a : Int), (Q.length : Int), 0, 0] (by show (J P Q P.length b).length ≤ _; omega) (by simp)
  have j2 := J_miss hP hQ (a := a) (b := Q.length) P.length b (by omega) ha (Nat.le_refl _)
  rw [J_vec hP hQ ha (Nat.le_refl _)] at j2
  rw [j2] at s2
  have m1 := merge_ok ⟨4, J P Q P.length b⟩ ((J P Q a Q.length).filter (unkB [(P.length : Int), (b : Int), 0, 0])) (by show (J P Q P.length b).length ≤ _; omega) (by omega)
  rw [x1] at m1
  have m2 := merge_ok ⟨4, J P Q a Q.length⟩ ((J P Q P.length b).filter (unkB [(a : Int), (Q.length : Int), 0, 0])) (by show (J P Q a Q.length).length ≤ _; omega) (by omega)
  rw [x2] at m2
  refine Sat.go (Eq.refl _) (NS.call (cplay) rfl ?_)
  refine Sat.go (Eq.refl _) (NS.call (k1) rfl ?_)
  refine Sat.go (Eq.refl _) (NS.call (k2) rfl ?_)
  refine Sat.go (Eq.refl _) (NS.call (s1) rfl ?_)
  refine Sat.go (Eq.refl _) (NS.call (s2) rfl ?_)
  refine Sat.go (Eq.refl _) (NS.call (m1) rfl ?_)
  refine Sat.go (Eq.refl _) (NS.call (m2) rfl ?_)
  refine Sat.go (Eq.refl _) (NS.call (k3) rfl ?_)
  repeat' (first | (refine Sat.go (Eq.refl _) (NS.no (rfl) ?_)))
  refine Sat.go (Eq.refl _) (NS.call (same_ok ⟨4, J P Q P.length Q.length⟩ ⟨4, J P Q P.length Q.length⟩ (by show (J P Q P.length Q.length).length ≤ _; omega)) rfl ?_)
  refine Sat.go (Eq.refl _) (NS.no (by rw [same_refl]; rfl) ?_)
  repeat' (first | (refine Sat.go (Eq.refl _) (NS.no (rfl) ?_)))
  refine Sat.go (Eq.refl _) ?_
  refine NS.loop (σ := { k : Nat // k ≤ 4 }) (fun k => [(6, slN [(P.length : Int), (b : Int), 0, 0]), (8, slN [(a : Int), (Q.length : Int), 0, 0]), (14, .ptr 14 0), (16, .ptr 16 0), (18, slN [(P.length : Int), (Q.length : Int), 0, 0]), (124, .int .i64 4), (125, .int .i64 k.1)]) (fun k => [(14, .box (His.cells ⟨4, J P Q P.length Q.length⟩)), (16, .box (His.cells ⟨4, J P Q P.length Q.length⟩))]) (fun k => 4 - k.1) ⟨0, Nat.zero_le _⟩ ?_ ?_
  · exact weak_hd [] rfl ⟨rfl, rfl, rfl, rfl, rfl, rfl, rfl, trivial⟩ ⟨⟨_, rfl, renHis _ _⟩, ⟨_, rfl, renHis _ _⟩, trivial⟩ trivial (by kernel_rfl)
  rintro ⟨k, hk⟩
  refine Sat.go (Eq.refl _) (NS.ite (fun c => ?_) (fun c => ?_))
  · have c : k < 4 := by have c : (k : Int) < 4 := of_decide_eq_true c
                         omega
    repeat' (first | (refine Sat.go (Eq.refl _) (NS.chk (by kernel_rfl) ?_)) | (refine Sat.go (Eq.refl _) (NS.need (decide_eq_true ⟨by omega, by show (k : Int) < 4; omega⟩) ?_)))
    refine Sat.go (Eq.refl _) (NS.no (by show (([(P.length : Int), (Q.length : Int), 0, 0] : List Int).getD k default != (if ([(a : Int), (Q.length : Int), 0, 0] : List Int).getD k default > ([(P.length : Int), (b : Int), 0, 0] : List Int).getD k default then ([(a : Int), (Q.length : Int), 0, 0] : List Int).getD k default else ([(P.length : Int), (b : Int), 0, 0] : List Int).getD k default)) = false; rw [bne_eq_false_iff_eq]; revert k; exact fun k _ _ hk => four (p := fun k => ([(P.length : Int), (Q.length : Int), 0, 0] : List Int).getD k default = (if ([(a : Int), (Q.length : Int), 0, 0] : List Int).getD k default > ([(P.length : Int), (b : Int), 0, 0] : List Int).getD k default then ([(a : Int), (Q.length : Int), 0, 0] : List Int).getD k default else ([(P.length : Int), (b : Int), 0, 0] : List Int).getD k default)) (by show (P.length : Int) = if (a : Int) > (P.length : Int) then (a : Int) else (P.length : Int); rw [if_neg (by omega)]) (by show (Q.length : Int) = if (Q.length : Int) > (b : Int) then (Q.length : Int) else (b : Int); split <;> omega) rfl rfl k hk) ?_)
    refine Sat.go (Eq.refl _) (NS.next ⟨k + 1, c⟩ (by show 4 - (k + 1) < 4 - k; omega) ?_)
    exact weak_hd [] rfl ⟨rfl, rfl, rfl, rfl, rfl, rfl, ren_int rfl (i64_k (k := k) c (by omega)), trivial⟩ ⟨⟨_, rfl, renHis _ _⟩, ⟨_, rfl, renHis _ _⟩, trivial⟩ trivial (by kernel_rfl)
  · refine Sat.go (Eq.refl _) (NS.leave rfl (Eq.refl _) ?_)
    refine Sat.go (Eq.refl _) (NS.call (contacts_ok ⟨4, J P Q P.length Q.length⟩ (by show (J P Q P.length Q.length).length ≤ _; omega)) rfl ?_)
    refine Sat.go (Eq.refl _) (NS.call (contacts_ok ⟨4, J P Q P.length Q.length⟩ (by show (J P Q P.length Q.length).length ≤ _; omega)) rfl ?_)
    have hcl := consM_len ⟨4, J P Q P.length Q.length⟩
    have hcl : (consM ⟨4, J P Q P.length Q.length⟩).1.length ≤ (J P Q P.length Q.length).length := hcl
    refine Sat.go (Eq.refl _) (NS.yes (by simp) ?_)
    refine Sat.go (Eq.refl _) (NS.call (equalK_ok (consM ⟨4, J P Q P.length Q.length⟩).1 (consM ⟨4, J P Q P.length Q.length⟩).1 (by omega)) rfl ?_)
    refine Sat.go (Eq.refl _) (NS.yes ((sameBy_iff ctc_iff).2 rfl) ?_)
    refine Sat.go (Eq.refl _) (NS.call (awake_ok) rfl ?_)
    exact Sat.go (Eq.refl _) (NS.ret rfl rfl (LeA.refl _))
noncomputable def ER : Env := { P := Try.prog, eqT := EN.eqT, mu := [46], frz := [78] }
theorem ER_ok : EqOK ER := EN_ok
noncomputable def CRv : Cx := { E := ER, inl := [], ok := ER_ok }
theorem updateOrders_ok (x : Scr) (hacts : ∀ y ∈ x.acts, y < 256) (t : Nat) (ht : t < 256) : FnOK Try.prog 9 [.agg x.cells, .int .u8 t] (.bool true, none) := by
  refine fn_ok CRv rfl (by kernel_rfl) Try.func9 rfl ?_
  refine Sat.go (Eq.refl _) (NS.call (sgreat_ok x) rfl ?_)
  refine Sat.go (Eq.refl _) (NS.ite (fun h0 => ?_) (fun h0 => ?_))
  · refine Sat.go (Eq.refl _) (NS.call (awake_ok) rfl ?_)
    exact Sat.go (Eq.refl _) (NS.ret rfl rfl (LeA.refl _))
  have h0 : (decide ((x.acts.length : Int) > 16) || decide ((x.cts.length : Int) > 8)) = false := h0
  rw [Bool.or_eq_false_iff, decide_eq_false_iff_not, decide_eq_false_iff_not] at h0
  have hl : x.acts.length ≤ 16 := by omega
  have cplay := play_ok x hacts hl
  obtain ⟨P, Q, a, b, hL, ha, hb, hP, hQ, hs⟩ := inv_all x x.acts.length (by omega)
  rw [hL] at cplay
  have hs : P.length + Q.length ≤ 16 := by omega
  have lA := J_len (P := P) (Q := Q) P.length b
  have lB := J_len (P := P) (Q := Q) a Q.length
  have lF := J_len (P := P) (Q := Q) P.length Q.length
  have sA : ∀ z ∈ J P Q P.length b, z ∈ J P Q P.length Q.length := fun z hz => by
    rw [J_mem] at hz ⊢
    rcases hz with ⟨k, h1, h2, h3⟩ | ⟨k, h1, h2, h3⟩
    · exact .inl ⟨k, h1, h2, h3⟩
    · exact .inr ⟨k, by omega, h2, h3⟩
  have sB : ∀ z ∈ J P Q a Q.length, z ∈ J P Q P.length Q.length := fun z hz => by
    rw [J_mem] at hz ⊢
    rcases hz with ⟨k, h1, h2, h3⟩ | ⟨k, h1, h2, h3⟩
    · exact .inl ⟨k, by omega, h2, h3⟩
    · exact .inr ⟨k, h1, h2, h3⟩
  have sF : ∀ z ∈ J P Q P.length Q.length, z ∈ J P Q P.length b ∨ z ∈ J P Q a Q.length := fun z hz => by
    rw [J_mem] at hz
    rw [J_mem, J_mem]
    rcases hz with ⟨k, h1, h2, h3⟩ | ⟨k, h1, h2, h3⟩
    · exact .inl (.inl ⟨k, h1, h2, h3⟩)
    · exact .inr (.inr ⟨k, h1, h2, h3⟩)
  have m1 := merge_ok ⟨4, J P Q P.length b⟩ (J P Q a Q.length) (by show (J P Q P.length b).length ≤ _; omega) (by omega)
  rw [J_merge hP hQ (m := P.length) (n := Q.length) (by omega) sA sB sF] at m1
  have n1 := new_ok 4
  rw [show newM 4 = (⟨4, []⟩, 0) by kernel_rfl] at n1
  have k1 := check_ok ⟨4, J P Q P.length b⟩
  rw [J_check hP hQ _ _ (by omega)] at k1
  have k2 := check_ok ⟨4, J P Q a Q.length⟩
  rw [J_check hP hQ _ _ (by omega)] at k2
  have k3 := check_ok ⟨4, J P Q P.length Q.length⟩
  rw [J_check hP hQ _ _ (by omega)] at k3
  have gF := J_good hP hQ P.length Q.length
  generalize hF : J P Q P.length Q.length = F at *
  refine Sat.go (Eq.refl _) (NS.call (cplay) rfl ?_)
  refine Sat.go (Eq.refl _) (NS.call (m1) rfl ?_)
  refine Sat.go (Eq.refl _) (NS.call (n1) rfl ?_)
  repeat' (first | (refine Sat.go (Eq.refl _) (NS.no (rfl) ?_)))
  refine Sat.go (Eq.refl _) (NS.call (k1) rfl ?_)
  refine Sat.go (Eq.refl _) (NS.no (rfl) ?_)
  refine Sat.go (Eq.refl _) (NS.call (k2) rfl ?_)
  refine Sat.go (Eq.refl _) (NS.no (rfl) ?_)
  refine Sat.go (Eq.refl _) (NS.call (k3) rfl ?_)
  refine Sat.go (Eq.refl _) (NS.no (rfl) ?_)
  refine Sat.go (Eq.refl _) (NS.call (clone_ok F (by omega)) rfl ?_)
  refine Sat.go (Eq.refl _) (NS.mut 63 (Eq.refl _) rfl (reverse_mu F (by omega)) rfl ?_)
  rintro ob rr ⟨rfl, rfl⟩
  refine Sat.wkO (Eq.refl _) (Eq.refl _) (weak_freeze 12 63 rfl rfl) ?_
  have ew : IntKind.i64.wrap ((F.length : Int) + 1) = ((F.length + 1 : Nat) : Int) := by rw [wrap_i64 (by omega) (by omega)]; omega
  have et : (IntKind.i64.wrap (t : Int)).tmod (IntKind.i64.wrap ((F.length : Int) + 1)) = ((t % (F.length + 1) : Nat) : Int) := by
    rw [ew, i64_n t ht, Int.tmod_eq_emod_of_nonneg (by omega)]
    exact (Int.natCast_emod _ _).symm
  have hmod : t % (F.length + 1) < F.length + 1 := Nat.mod_lt _ (by omega)
  have et2 : ((IntKind.i64.wrap (t : Int)).tmod (IntKind.i64.wrap ((F.length : Int) + 1))).toNat = t % (F.length + 1) := by rw [et]; exact Int.toNat_natCast _
  generalize t % (F.length + 1) = q at *
  have hrl : F.reverse.length = F.length := List.length_reverse
  have hfl : [F.reverse.drop q, F.reverse.take q].flatten = F.reverse.drop q ++ F.reverse.take q := by simp
  have hll : (F.reverse.drop q ++ F.reverse.take q).length ≤ 1000 := by rw [List.length_append, List.length_drop, List.length_take, hrl]; omega
  have c1 := concat_sl [F.reverse.drop q, F.reverse.take q] (by simp) (by rw [hfl]; omega)
  rw [hfl] at c1
  have m2 := merge_ok ⟨4, []⟩ (F.reverse.drop q ++ F.reverse.take q) (by simp) (by omega)
  have hmem : ∀ z, z ∈ F.reverse.drop q ++ F.reverse.take q ↔ z ∈ F := fun z => by
    have e := List.take_append_drop q F.reverse
    rw [List.mem_append, or_comm, ← List.mem_append, e, List.mem_reverse]
  rw [merge_eq (by omega) (by omega) ⟨fun k hk => (by cases hk), fun k hk => (by cases hk)⟩ gF (by simp) (by omega) fun z => by rw [hmem]; simp] at m2
  have p0 : LeA (A.sl 11 ((F.length : Int) - ((IntKind.i64.wrap (t : Int)).tmod (IntKind.i64.wrap ((F.length : Int) + 1)))).toNat (fun i => rowL Chg.cells F.reverse (((IntKind.i64.wrap (t : Int)).tmod (IntKind.i64.wrap ((F.length : Int) + 1))).toNat + i))) (slChg (F.reverse.drop q)) := LeA.sl (by rw [et, List.length_drop, hrl]; omega) fun i hi j hj => by
    rw [et2]
    unfold rowL List.getD
    rw [List.getElem?_drop]
  have p1 : LeA (A.sl 11 (((IntKind.i64.wrap (t : Int)).tmod (IntKind.i64.wrap ((F.length : Int) + 1))) - ((0 : Nat) : Int)).toNat (fun i => rowL Chg.cells F.reverse (((0 : Nat) : Int).toNat + i))) (slChg (F.reverse.take q)) := LeA.sl (by rw [et, List.length_take, hrl]; omega) fun i hi j hj => by
    rw [et] at hi
    unfold rowL List.getD
    rw [List.getElem?_take_of_lt (by omega), show ((0 : Nat) : Int).toNat + i = i by simp]
  refine Sat.go (Eq.refl _) (NS.need (by rw [ew, bne_iff_ne]; omega) ?_)
  refine Sat.go (Eq.refl _) (NS.chk (by kernel_rfl) ?_)
  repeat' (first | (refine Sat.go (Eq.refl _) (NS.need (by (try dsimp only); simp only [et, decide_eq_true_eq]; omega) ?_)))
  refine Sat.go (Eq.refl _) (NS.call (c1.le (LeL.cons (LeA.slLe rfl fun i hi j hj => by match i, hi, j, hj with | 0, _, 0, _ => exact p0 | 1, _, 0, _ => exact p1) LeL.nil)) rfl ?_)
  refine Sat.go (Eq.refl _) (NS.call (m2) rfl ?_)
  refine Sat.go (Eq.refl _) (NS.yes (rfl) ?_)
  refine Sat.go (Eq.refl _) (NS.call (same_ok ⟨4, F⟩ ⟨4, F⟩ (by show F.length ≤ _; omega)) rfl ?_)
  refine Sat.go (Eq.refl _) (NS.yes (same_refl _) ?_)
  refine Sat.go (Eq.refl _) (NS.call (awake_ok) rfl ?_)
  exact Sat.go (Eq.refl _) (NS.ret rfl rfl (LeA.refl _))
end Go.Proofs.Ythfbahebeembeaa
