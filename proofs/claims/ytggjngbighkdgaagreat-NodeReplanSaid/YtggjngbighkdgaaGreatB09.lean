import Derived.Test.YtggjngbighkdgaaGreatB08
set_option linter.unusedSimpArgs false
set_option linter.unusedSectionVars false
set_option linter.unusedVariables false
namespace Go.Mb
open Go.Sy
def fstA : Option (Jrec × Nat) → A
 | none => .tup [.agg Jrec.zero.cells, .int .i64 0, .bool false]
 | some (r, n) => .tup [.agg r.cells, .int .i64 (n : Nat), .bool true]
def rdP (L : List Nat) : Nat → Nat
 | 0 => 0
 | k + 1 => rdP L k + (rdI (L.drop (rdP L k))).2.1
def gt (i k : Nat) (a : Int) : Int := bif Nat.blt i k then a else 0
theorem kind_cases (z : Int) : (z = 1 ∧ (z == 1) = true ∧ (z == 3) = false ∧ (z == 4) = false) ∨ (z = 3 ∧ (z == 1) = false ∧ (z == 3) = true ∧ (z == 4) = false) ∨ (z = 4 ∧ (z == 1) = false ∧ (z == 3) = false ∧ (z == 4) = true) ∨ ((z ≠ 1 ∧ z ≠ 3 ∧ z ≠ 4) ∧ (z == 1) = false ∧ (z == 3) = false ∧ (z == 4) = false) := by
 simp only [beq_iff_eq, beq_eq_false_iff_ne, ne_eq]; omega
theorem rdNs_add (a b : Nat) : ∀ M, rdNs (a + b) M = match rdNs a M with
  | none => none
  | some (m, r) => match rdNs b r with
   | none => none
   | some (m', r') => some (m ++ m', r') := by
 induction a with
 | zero => intro M; rw [Nat.zero_add, rdNs]; simp only; split <;> simp_all
 | succ a ih =>
  intro M
  rw [show a + 1 + b = (a + b) + 1 by omega, rdNs, rdNs]
  split
  ·rfl
  ·rw [ih]
   cases rdNs a (M.drop (rdI M).2.1) with
   | none => rfl
   | some p =>
    obtain ⟨m, r⟩ := p
    simp only
    cases rdNs b r with
    | none => rfl
    | some p => rfl
theorem parR_S {L M : List Nat} {m : List Int} (h : rdNs 2 L = some (m, M)) (hs : stoK (m.getD 0 0) = true) : parR L = parS (m.getD 0 0) (m.getD 1 0) M := by unfold parR; rw [h]; simp only; rw [if_pos hs]
theorem parR_I {L M : List Nat} {m : List Int} (h : rdNs 2 L = some (m, M)) (hs : stoK (m.getD 0 0) = false) (hk : (m.getD 0 0 == 2 || m.getD 0 0 == 4) = true) : parR L = parI (m.getD 0 0) (m.getD 1 0) M := by unfold parR; rw [h]; simp only; rw [if_neg (by rw [hs]; simp), if_pos hk]
theorem parR_x {L M : List Nat} {m : List Int} (h : rdNs 2 L = some (m, M)) (hs : stoK (m.getD 0 0) = false) (hk : (m.getD 0 0 == 2 || m.getD 0 0 == 4) = false) : parR L = none := by unfold parR; rw [h]; simp only; rw [if_neg (by rw [hs]; simp), if_neg (by rw [hk]; simp)]
theorem parS_bad1 {k t : Int} {M : List Nat} (h : rdNs 1 M = none) : parS k t M = none := by
 unfold parS
 rw [show (10 : Nat) = 1 + 9 from rfl, rdNs_add, h]
theorem parS_bad2 {k t : Int} {M M2 : List Nat} {m : List Int} (h : rdNs 1 M = some (m, M2)) (h2 : rdNs 5 M2 = none) : parS k t M = none := by
 unfold parS
 rw [show (10 : Nat) = 1 + (5 + 4) from rfl, rdNs_add, h]
 simp only
 rw [rdNs_add, h2]
theorem parS_bad3 {k t : Int} {M M2 M3 : List Nat} {m m2 : List Int} (h : rdNs 1 M = some (m, M2)) (h2 : rdNs 5 M2 = some (m2, M3)) (h3 : rdNs 4 M3 = none) : parS k t M = none := by
 unfold parS
 rw [show (10 : Nat) = 1 + (5 + 4) from rfl, rdNs_add, h]
 simp only
 rw [rdNs_add, h2]
 simp only
 rw [h3]
theorem parS_ok {k t : Int} {M M2 M3 M4 : List Nat} {m m2 m3 : List Int} (h : rdNs 1 M = some (m, M2)) (h2 : rdNs 5 M2 = some (m2, M3)) (h3 : rdNs 4 M3 = some (m3, M4)) : parS k t M = if (rdT M4).2.2 != 0 || ((rdT M4).2.1 != M4.length || !((m ++ (m2 ++ m3)).getD 9 0 == 0 || (m ++ (m2 ++ m3)).getD 9 0 == 1)) then none else
  okR ⟨k, ⟨(m ++ (m2 ++ m3)).getD 0 0, nidOf ((m ++ (m2 ++ m3)).drop 1), (m ++ (m2 ++ m3)).getD 6 0, (m ++ (m2 ++ m3)).getD 7 0, (m ++ (m2 ++ m3)).getD 8 0, (m ++ (m2 ++ m3)).getD 9 0 == 1, bs (rdT M4).1⟩, .zero, 0, t⟩ := by
 have e : rdNs 10 M = some (m ++ (m2 ++ m3), M4) := by
  rw [show (10 : Nat) = 1 + (5 + 4) from rfl, rdNs_add, h]
  simp only
  rw [rdNs_add, h2]
  simp only
  rw [h3]
 unfold parS
 rw [e]
theorem okR_none {r : Jrec} (h : ¬ recErr r = 0) : okR r = none := by unfold okR; rw [if_neg (by simpa using h)]
theorem bs_empty {M : List Nat} (h : bs M = .empty) : M = [] := by
 have := congrArg ByteArray.size h
 rw [bs_len] at this
 exact List.length_eq_zero_iff.1 this
theorem parI_bad1 {k t : Int} {M : List Nat} (hk : (k == 4) = true) (h : rdNs 5 M = none) : parI k t M = none := by
 unfold parI
 rw [if_pos hk, show (6 : Nat) = 5 + 1 from rfl, rdNs_add, h]
theorem parI_bad2 {k t : Int} {M M2 : List Nat} {m : List Int} (hk : (k == 4) = true) (h : rdNs 5 M = some (m, M2)) (h2 : rdNs 1 M2 = none) : parI k t M = none := by
 unfold parI
 rw [if_pos hk, show (6 : Nat) = 5 + 1 from rfl, rdNs_add, h]
 simp only
 rw [h2]
theorem recErr_kind8 {r : Jrec} (h : r.kind ≠ 1 ∧ r.kind ≠ 3 ∧ r.kind ≠ 4) (h2 : r.kind ≠ 2) : ¬ recErr r = 0 := by
 intro hr
 rcases recErr_zero.1 hr with g | g
 ·rcases g.kind with e | e
  ·exact h.1 e
  ·exact h.2.1 e
 ·rcases g.kind with e | e
  ·exact h2 e
  ·exact h.2.2 e
theorem parI_x {L M : List Nat} {m : List Int} (h : rdNs 2 L = some (m, M)) (hz : m.getD 0 0 ≠ 1 ∧ m.getD 0 0 ≠ 3 ∧ m.getD 0 0 ≠ 4) (hb : rdNs 5 M = none) : parR L = none := by
 have hs : stoK (m.getD 0 0) = false := by unfold stoK; simp only [Bool.or_eq_false_iff, beq_eq_false_iff_ne, ne_eq]; exact ⟨hz.1, hz.2.1⟩
 cases h2 : (m.getD 0 0 == 2 || m.getD 0 0 == 4) with
 | true =>
  rw [parR_I h hs h2]
  unfold parI
  rw [if_neg (by simpa using hz.2.2), hb]
 | false => exact parR_x h hs h2
theorem parI_2 {L M M2 : List Nat} {m m2 : List Int} (h : rdNs 2 L = some (m, M)) (hz : m.getD 0 0 ≠ 1 ∧ m.getD 0 0 ≠ 3 ∧ m.getD 0 0 ≠ 4) (h5 : rdNs 5 M = some (m2, M2)) : parR L = if M2.isEmpty = true then okR ⟨m.getD 0 0, .zero, ⟨m2.getD 0 0, m2.getD 1 0, m2.getD 2 0, m2.getD 3 0, m2.getD 4 0⟩, 0, m.getD 1 0⟩ else none := by
 have hs : stoK (m.getD 0 0) = false := by unfold stoK; simp only [Bool.or_eq_false_iff, beq_eq_false_iff_ne, ne_eq]; exact ⟨hz.1, hz.2.1⟩
 have h4 : ¬ (m.getD 0 0 == 4) = true := by simpa using hz.2.2
 cases h2 : (m.getD 0 0 == 2 || m.getD 0 0 == 4) with
 | true =>
  rw [parR_I h hs h2]
  unfold parI
  rw [if_neg h4, h5]
  simp only
  rw [if_neg h4]; rfl
 | false =>
  rw [parR_x h hs h2]
  have hk : m.getD 0 0 ≠ 2 := by intro e; rw [e] at h2; cases h2
  rw [okR_none (recErr_kind8 hz hk)]
  split <;> rfl
theorem parI_4 {k t : Int} {M M2 M3 : List Nat} {m m2 : List Int} (hk : (k == 4) = true) (h : rdNs 5 M = some (m, M2)) (h2 : rdNs 1 M2 = some (m2, M3)) : parI k t M = if M3.isEmpty = true then okR ⟨k, .zero, nidOf (m ++ m2), (m ++ m2).getD 5 0, t⟩ else none := by
 unfold parI
 rw [if_pos hk, show (6 : Nat) = 5 + 1 from rfl, rdNs_add, h]
 simp only
 rw [h2]
 simp only
 rw [if_pos hk]
def rdV (L : List Nat) (k : Nat) : Int := (rdI (L.drop (rdP L k))).1
def rdE (L : List Nat) (k : Nat) : Int := (rdI (L.drop (rdP L k))).2.2
theorem rdP_succ (L : List Nat) : ∀ k, rdP L (k + 1) = (rdI L).2.1 + rdP (L.drop (rdI L).2.1) k
 | 0 => by simp [rdP]
 | k + 1 => by rw [rdP, rdP_succ L k, rdP, List.drop_drop]; omega
theorem rdV_succ (L : List Nat) (k : Nat) : rdV L (k + 1) = rdV (L.drop (rdI L).2.1) k := by unfold rdV; rw [rdP_succ, List.drop_drop]
theorem rdE_succ (L : List Nat) (k : Nat) : rdE L (k + 1) = rdE (L.drop (rdI L).2.1) k := by unfold rdE; rw [rdP_succ, List.drop_drop]
theorem rdNs_all : ∀ {n : Nat} {L : List Nat}, (∀ i, i < n → rdE L i = 0) → rdNs n L = some ((List.range n).map (rdV L), L.drop (rdP L n))
 | 0, L, _ => by simp [rdNs, rdP]
 | n + 1, L, h => by
  have h0 : (rdI L).2.2 = 0 := h 0 (by omega)
  rw [rdNs, if_neg (by rw [h0]; decide), rdNs_all (n := n) fun i hi => by rw [← rdE_succ]; exact h (i + 1) (by omega)]
  simp only
  congr 2
  ·rw [List.range_succ_eq_map, List.map_cons, List.map_map]
   refine (congrArg (fun t => rdV L 0 :: t) (List.map_congr_left fun i _ => ?_)).symm
   exact rdV_succ L i
  ·rw [List.drop_drop, ← rdP_succ]
theorem rdNs_bad : ∀ {n i : Nat} {L : List Nat}, i < n → rdE L i ≠ 0 → rdNs n L = none
 | 0, i, L, h, _ => absurd h (Nat.not_lt_zero _)
 | n + 1, 0, L, _, h => by rw [rdNs, if_pos (by have h : (rdI L).2.2 ≠ 0 := h; simpa using h)]
 | n + 1, i + 1, L, h, he => by
  rw [rdNs]
  split
  ·rfl
  ·rw [rdNs_bad (n := n) (i := i) (by omega) (by rw [← rdE_succ]; exact he)]
theorem rdI_len {L : List Nat} (hL : ∀ x ∈ L, x < 256) : (rdI L).2.1 ≤ L.length := by
 rcases rdI_cases L with ⟨n, k, h⟩ | ⟨e, _, h⟩
 ·rw [h]; exact (rdI_ok hL h).2.2.1
 ·rw [h]; exact Nat.zero_le _
theorem cut_bs {M : List Nat} (hM : ∀ x ∈ M, x < 256) (k : Nat) : (bs M).extract (k : Int).toNat ((bs M).size : Int).toNat = bs (M.drop k) := by
 apply ls_inj
 rw [ls_extract, ls_bs hM, ls_bs (fun x hx => hM x (List.mem_of_mem_drop hx)), take_all (by rw [bs_len]; simp)]
 congr 1
theorem emp_f {M : List Nat} (h : M = []) : (!((bs M).toList == (⟨#[]⟩ : ByteArray).toList)) = false := by rw [h]; simp [bs]
theorem emp_t {M : List Nat} (h : M ≠ []) : (!((bs M).toList == (⟨#[]⟩ : ByteArray).toList)) = true := by
 rw [Bool.not_eq_true', beq_eq_false_iff_ne, ne_eq, ba_inj]
 exact fun e => h (bs_empty e)
theorem rdT_in {l : List Nat} (hl : ∀ x ∈ l, x < 256) : (rdT l).2.1 ≤ l.length := by
 rcases lenI_cases l with ⟨n, k, hk⟩ | ⟨e, he, hk⟩
 ·obtain ⟨h1, h2, h3⟩ := lenI_ok hk
  by_cases hs : ((l.length - k : Nat) : Int) < n
  ·rw [rdT_short hk hs]; exact Nat.zero_le _
  ·rw [rdT_ok hk hs]
   have := (rdI_ok hl h1).2.2.1
   show k + n.toNat ≤ _
   omega
 ·rw [rdT_err hk he]; exact Nat.zero_le _
theorem cu_bad {z : Int} (h : z < 0 ∨ z > 1) : (!(z == 0 || z == 1)) = true := by
 simp only [Bool.not_eq_true', Bool.or_eq_false_iff, beq_eq_false_iff_ne, ne_eq]; omega
theorem cu_good {z : Int} (h : 0 ≤ z ∧ z ≤ 1) : (!(z == 0 || z == 1)) = false := by
 simp only [Bool.not_eq_false', Bool.or_eq_true, beq_iff_eq]; omega
theorem if_text {l : List Nat} {n : Nat} {a : Option Jrec} (h : n ≤ l.length) : (if (false || (n != l.length || false)) = true then none else a) = if (l.drop n).isEmpty = true then a else none := by
 by_cases e : n = l.length
 ·rw [if_neg (by simp [e]), if_pos (by simp [e])]
 ·rw [if_pos (by simpa using e), if_neg (by simp only [List.isEmpty_iff, List.drop_eq_nil_iff]; omega)]
theorem parR_S' {L M : List Nat} {V : Nat → Int} (h : rdNs 2 L = some ((List.range 2).map V, M)) (hs : stoK (V 0) = true) : parR L = parS (V 0) (V 1) M := parR_S h hs
theorem parR_I' {L M : List Nat} {V : Nat → Int} (h : rdNs 2 L = some ((List.range 2).map V, M)) (hs : stoK (V 0) = false) (hk : (V 0 == 2 || V 0 == 4) = true) : parR L = parI (V 0) (V 1) M := parR_I h hs hk
theorem parI_x' {L M : List Nat} {V : Nat → Int} (h : rdNs 2 L = some ((List.range 2).map V, M)) (hz : V 0 ≠ 1 ∧ V 0 ≠ 3 ∧ V 0 ≠ 4) (hb : rdNs 5 M = none) : parR L = none := parI_x h hz hb
theorem parI_2' {L M M2 : List Nat} {V V1 : Nat → Int} (h : rdNs 2 L = some ((List.range 2).map V, M)) (hz : V 0 ≠ 1 ∧ V 0 ≠ 3 ∧ V 0 ≠ 4) (h5 : rdNs 5 M = some ((List.range 5).map V1, M2)) : parR L = if M2.isEmpty = true then okR ⟨V 0, .zero, ⟨V1 0, V1 1, V1 2, V1 3, V1 4⟩, 0, V 1⟩ else none := by
 rw [show (List.range 2).map V = [V 0, V 1] from rfl] at h
 rw [show (List.range 5).map V1 = [V1 0, V1 1, V1 2, V1 3, V1 4] from rfl] at h5
 have e := parI_2 h hz h5
 simp only [List.getD_cons_zero, List.getD_cons_succ] at e
 exact e
theorem parI_4' {k t : Int} {M M2 M3 : List Nat} {V1 V2 : Nat → Int} (hk : (k == 4) = true) (h : rdNs 5 M = some ((List.range 5).map V1, M2)) (h2 : rdNs 1 M2 = some ((List.range 1).map V2, M3)) : parI k t M = if M3.isEmpty = true then okR ⟨k, .zero, ⟨V1 0, V1 1, V1 2, V1 3, V1 4⟩, V2 0, t⟩ else none := by
 rw [show (List.range 5).map V1 = [V1 0, V1 1, V1 2, V1 3, V1 4] from rfl] at h
 rw [show (List.range 1).map V2 = [V2 0] from rfl] at h2
 have e := parI_4 hk h h2 (t := t)
 simp only [List.cons_append, List.nil_append, nidOf, List.getD_cons_zero, List.getD_cons_succ] at e
 exact e
theorem parS_ok' {k t : Int} {M M2 M3 M4 : List Nat} {V1 V2 V3 : Nat → Int} (h : rdNs 1 M = some ((List.range 1).map V1, M2)) (h2 : rdNs 5 M2 = some ((List.range 5).map V2, M3)) (h3 : rdNs 4 M3 = some ((List.range 4).map V3, M4)) : parS k t M = if (rdT M4).2.2 != 0 || ((rdT M4).2.1 != M4.length || !(V3 3 == 0 || V3 3 == 1)) then none else
  okR ⟨k, ⟨V1 0, ⟨V2 0, V2 1, V2 2, V2 3, V2 4⟩, V3 0, V3 1, V3 2, V3 3 == 1, bs (rdT M4).1⟩, .zero, 0, t⟩ := by
 rw [show (List.range 1).map V1 = [V1 0] from rfl] at h
 rw [show (List.range 5).map V2 = [V2 0, V2 1, V2 2, V2 3, V2 4] from rfl] at h2
 rw [show (List.range 4).map V3 = [V3 0, V3 1, V3 2, V3 3] from rfl] at h3
 have e := parS_ok h h2 h3 (k := k) (t := t)
 simp only [List.cons_append, List.nil_append, nidOf, List.drop_succ_cons, List.drop_zero, List.getD_cons_zero, List.getD_cons_succ] at e
 exact e
end Go.Mb
namespace Go.Proofs.YtggjngbighkdgaaGreat
open Go.Sy Go.Mb
set_option maxRecDepth 100000
set_option maxHeartbeats 40000000
noncomputable def CRd : Cx := { E := EN, inl := [127, 188], ok := EN_ok }
theorem first_ok (s : ByteArray) (hs : s.size ≤ 100000) : FnOK Tryz.prog 77 [.str s] (fstA (fstJ (ls s)), none) := by
 have hlt := ls_lt s
 refine fn_ok CRd rfl (by kernel_rfl) Tryz.func77 rfl ?_
 refine Sat.go (Eq.refl _) (NS.call (open_ok s (by omega)) rfl ?_)
 by_cases he : (opL (ls s)).2.2 = 0
 ·refine Sat.go (Eq.refl _) (NS.no (by show ((opL (ls s)).2.2 != 0) = false; rw [he]; rfl) ?_)
  obtain ⟨L, hL⟩ : ∃ L, (opL (ls s)).1 = L := ⟨_, rfl⟩
  rw [hL]
  have hLx : ∀ x ∈ L, x < 256 := by rw [← hL]; exact opL_lt hlt
  have hLl : L.length ≤ 65536 := by rw [← hL]; exact (opL_len _).2
  have hF : fstJ (ls s) = match parR L with
   | none => none
   | some r => some (r, (opL (ls s)).2.1) := by unfold fstJ; rw [if_neg (by rw [he]; decide), hL]; cases parR L <;> rfl
  have hx_L : (∀ x ∈ L, x < 256) ∧ L.length ≤ 65536 := ⟨hLx, hLl⟩
  have hR : ∀ M : List Nat, ((∀ x ∈ M, x < 256) ∧ M.length ≤ 65536) → ∀ j, FnOK Tryz.prog 186 [.str (bs (M.drop (rdP M j)))] (.tup [.int .i64 (rdV M j), .int .i64 ((rdI (M.drop (rdP M j))).2.1 : Nat), .int .i64 (rdE M j)], none) := fun M hM j => by
   have c := readInt_ok (bs (M.drop (rdP M j))) (by rw [bs_len, List.length_drop]; omega)
   rw [ls_bs (fun x hx => hM.1 x (List.mem_of_mem_drop hx))] at c
   exact c
  have hRI : ∀ M : List Nat, ((∀ x ∈ M, x < 256) ∧ M.length ≤ 65536) → ∀ q, FnOK Tryz.prog 186 [.str (bs (M.drop q))] (.tup [.int .i64 (rdI (M.drop q)).1, .int .i64 ((rdI (M.drop q)).2.1 : Nat), .int .i64 (rdI (M.drop q)).2.2], none) := fun M hM q => by
   have c := readInt_ok (bs (M.drop q)) (by rw [bs_len, List.length_drop]; omega)
   rw [ls_bs (fun x hx => hM.1 x (List.mem_of_mem_drop hx))] at c
   exact c
  have hS : ∀ M : List Nat, ((∀ x ∈ M, x < 256) ∧ M.length ≤ 65536) → ∀ j, decide ((0 : Int) ≤ ((rdI (M.drop (rdP M j))).2.1 : Nat) ∧ (((rdI (M.drop (rdP M j))).2.1 : Nat) : Int) ≤ ((bs (M.drop (rdP M j))).size : Int) ∧ ((bs (M.drop (rdP M j))).size : Int) ≤ ((bs (M.drop (rdP M j))).size : Int)) = true := fun M hM j => by
   have h1 := rdI_len (L := M.drop (rdP M j)) fun x hx => hM.1 x (List.mem_of_mem_drop hx)
   rw [bs_len]
   exact decide_eq_true (by omega)
  have hC : ∀ M : List Nat, ((∀ x ∈ M, x < 256) ∧ M.length ≤ 65536) → ∀ j, (bs (M.drop (rdP M j))).extract (((rdI (M.drop (rdP M j))).2.1 : Nat) : Int).toNat ((bs (M.drop (rdP M j))).size : Int).toNat = bs (M.drop (rdP M (j + 1))) := fun M hM j => by
   rw [cut_bs (fun x hx => hM.1 x (List.mem_of_mem_drop hx)), List.drop_drop]; rfl
  have hRT : ∀ M : List Nat, ((∀ x ∈ M, x < 256) ∧ M.length ≤ 65536) → ∀ q, FnOK Tryz.prog 189 [.str (bs (M.drop q))] (.tup [.str (bs (rdT (M.drop q)).1), .int .i64 ((rdT (M.drop q)).2.1 : Nat), .int .i64 (rdT (M.drop q)).2.2], none) := fun M hM q => by
   have c := readText_ok (bs (M.drop q)) (by rw [bs_len, List.length_drop]; omega)
   rw [ls_bs (fun x hx => hM.1 x (List.mem_of_mem_drop hx))] at c
   exact c
  have hkc := kind_cases
  have hAll : ∀ (n : Nat) (M : List Nat), (∀ i, i < n → rdE M i = 0) → rdNs n M = some ((List.range n).map (rdV M), M.drop (rdP M n)) := fun n M h => rdNs_all h
  obtain ⟨V, hV⟩ : ∃ V : List Nat → Nat → Int, V = rdV := ⟨_, rfl⟩
  simp only [← hV] at hR hAll
  clear hV
  -- WALK BEGINS
  refine Sat.go (Eq.refl _) ?_
  refine NS.loop (σ := { k : Nat // k ≤ 2 ∧ ∀ i, i < k → rdE L i = 0 }) (fun k => [(0, .ptr 21 0), (9, .ov 56 1 0 2), (10, .int .i64 2), (11, .int .i64 k.1)]) (fun k => [(21, .box [.str (bs (L.drop (rdP L k.1))), .bool false]), (46, .box [.int .i64 (gt 0 k.1 (V L 0)), .int .i64 0, .int .i64 0, .int .i64 0, .int .i64 0, .int .i64 0, .int .i64 0, .int .i64 0, .int .i64 0, .int .i64 0, .bool false, .str .empty, .int .i64 0, .int .i64 0, .int .i64 0, .int .i64 0, .int .i64 0, .int .i64 0, .int .i64 (gt 1 k.1 (V L 1))])]) (fun k => 2 - k.1) ⟨0, by omega, fun i hi => absurd hi (Nat.not_lt_zero _)⟩ ?_ ?_
  ·exact weak_hd [] rfl ⟨rfl, rfl, rfl, rfl, trivial⟩ ⟨⟨_, rfl, _, _, rfl, rfl, _, _, rfl, .inl rfl, rfl⟩, ⟨_, rfl, _, _, rfl, rfl, _, _, rfl, rfl, _, _, rfl, rfl, _, _, rfl, rfl, _, _, rfl, rfl, _, _, rfl, rfl, _, _, rfl, rfl, _, _, rfl, rfl, _, _, rfl, rfl, _, _, rfl, rfl, _, _, rfl, .inl rfl, _, _, rfl, rfl, _, _, rfl, rfl, _, _, rfl, rfl, _, _, rfl, rfl, _, _, rfl, rfl, _, _, rfl, rfl, _, _, rfl, rfl, _, _, rfl, rfl, rfl⟩, trivial⟩ (Pre_cut (by kernel_rfl)) (by kernel_rfl)
  rintro ⟨k, kl, kE⟩
  have kE : ∀ i, i < k → rdE L i = 0 := kE
  have kl : k ≤ 2 := kl
  refine Sat.go (Eq.refl _) (NS.ite (fun ka => ?_) (fun ka => ?_))
  ·have ka : k < 2 := by have ka : decide ((k : Int) < 2) = true := ka; have := of_decide_eq_true ka; omega
   rcases (by omega : k = 0 ∨ k = 1) with rfl | rfl
   ·refine Sat.go (Eq.refl _) (NS.need (by kernel_rfl) ?_)
    refine Sat.go (Eq.refl _) (NS.call (hR L hx_L 0) rfl ?_)
    refine Sat.go (Eq.refl _) (NS.no (rfl) ?_)
    refine Sat.go (Eq.refl _) (NS.ite (fun ke => ?_) (fun ke => ?_))
    ·have ke : rdE L 0 ≠ 0 := by have ke : (rdE L 0 != 0) = true := ke; simpa using ke
     have kB : rdNs 2 L = none := rdNs_bad (by decide) ke
     refine Sat.go (Eq.refl _) (NS.leave rfl (Eq.refl _) ?_)
     have hpn : parR L = none := by unfold parR; rw [kB]
     have hkq_1 : ((gt 0 0 (V L 0) : Int) == 1) = false := rfl
     have hkq_3 : ((gt 0 0 (V L 0) : Int) == 3) = false := rfl
     have hkq_4 : ((gt 0 0 (V L 0) : Int) == 4) = false := rfl
     refine Sat.go (Eq.refl _) (NS.no (by show ((gt 0 0 (V L 0) : Int) == 1) = false; exact hkq_1) ?_)
     refine Sat.go (Eq.refl _) (NS.no (by show ((gt 0 0 (V L 0) : Int) == 3) = false; exact hkq_3) ?_)
     refine Sat.go (Eq.refl _) (NS.chk (by kernel_rfl) ?_)
     refine Sat.go (Eq.refl _) ?_
     refine NS.loop (σ := Unit) (fun _ => [(0, .ptr 21 0), (9, .ov 91 1 0 5), (10, .int .i64 5), (11, .int .i64 0)]) (fun _ => []) (fun _ => 0) () ?_ ?_
     ·exact weak_hd [] rfl ⟨rfl, rfl, rfl, rfl, trivial⟩ trivial (Pre_cut (by kernel_rfl)) (by kernel_rfl)
     rintro ⟨⟩
     refine Sat.go (Eq.refl _) (NS.yes (rfl) ?_)
     refine Sat.go (Eq.refl _) (NS.need (by kernel_rfl) ?_)
     refine Sat.go (Eq.refl _) (NS.call (hRI L hx_L _) rfl ?_)
     refine Sat.go (Eq.refl _) (NS.leave rfl (Eq.refl _) ?_)
     refine Sat.go (Eq.refl _) (NS.no (by show ((gt 0 0 (V L 0) : Int) == 4) = false; exact hkq_4) ?_)
     refine Sat.go (Eq.refl _) (NS.no (by show ((gt 0 0 (V L 0) : Int) == 3) = false; exact hkq_3) ?_)
     rw [hF, hpn]
     exact Sat.go (Eq.refl _) (NS.ret rfl rfl (LeA.refl _))
    ·have ke : rdE L 0 = 0 := by have ke : (rdE L 0 != 0) = false := ke; simpa using ke
     refine Sat.go (Eq.refl _) (NS.need (hS L hx_L 0) ?_)
     refine Sat.go (Eq.refl _) (NS.next ⟨0 + 1, by omega, fun i hi => by rcases Nat.lt_succ_iff_lt_or_eq.1 hi with h | h; exact kE i h; rw [h]; exact ke⟩ (by show 2 - (0 + 1) < 2 - 0; omega) ?_)
     exact weak_hd [] rfl ⟨rfl, rfl, rfl, rfl, trivial⟩ ⟨⟨_, rfl, _, _, rfl, ren_str rfl (hC L hx_L 0), _, _, rfl, .inl rfl, rfl⟩, ⟨_, rfl, _, _, rfl, rfl, _, _, rfl, rfl, _, _, rfl, rfl, _, _, rfl, rfl, _, _, rfl, rfl, _, _, rfl, rfl, _, _, rfl, rfl, _, _, rfl, rfl, _, _, rfl, rfl, _, _, rfl, rfl, _, _, rfl, .inl rfl, _, _, rfl, rfl, _, _, rfl, rfl, _, _, rfl, rfl, _, _, rfl, rfl, _, _, rfl, rfl, _, _, rfl, rfl, _, _, rfl, rfl, _, _, rfl, rfl, rfl⟩, trivial⟩ (Pre_cut (by kernel_rfl)) (by kernel_rfl)
   ·refine Sat.go (Eq.refl _) (NS.need (by kernel_rfl) ?_)
    refine Sat.go (Eq.refl _) (NS.call (hR L hx_L 1) rfl ?_)
    refine Sat.go (Eq.refl _) (NS.no (rfl) ?_)
    refine Sat.go (Eq.refl _) (NS.ite (fun ke => ?_) (fun ke => ?_))
    ·have ke : rdE L 1 ≠ 0 := by have ke : (rdE L 1 != 0) = true := ke; simpa using ke
     have kB : rdNs 2 L = none := rdNs_bad (by decide) ke
     refine Sat.go (Eq.refl _) (NS.leave rfl (Eq.refl _) ?_)
     have hpn : parR L = none := by unfold parR; rw [kB]
     rcases hkc (V L 0) with ⟨hkz, hkq_1, hkq_3, hkq_4⟩ | ⟨hkz, hkq_1, hkq_3, hkq_4⟩ | ⟨hkz, hkq_1, hkq_3, hkq_4⟩ | ⟨hkz, hkq_1, hkq_3, hkq_4⟩
     ·refine Sat.go (Eq.refl _) (NS.yes (by show ((gt 0 1 (V L 0) : Int) == 1) = true; exact hkq_1) ?_)
      refine Sat.go (Eq.refl _) ?_
      refine NS.loop (σ := Unit) (fun _ => [(0, .ptr 21 0), (9, .ov 73 1 0 1), (10, .int .i64 1), (11, .int .i64 0)]) (fun _ => []) (fun _ => 0) () ?_ ?_
      ·exact weak_hd [] rfl ⟨rfl, rfl, rfl, rfl, trivial⟩ trivial (Pre_cut (by kernel_rfl)) (by kernel_rfl)
      rintro ⟨⟩
      refine Sat.go (Eq.refl _) (NS.yes (rfl) ?_)
      refine Sat.go (Eq.refl _) (NS.need (by kernel_rfl) ?_)
      refine Sat.go (Eq.refl _) (NS.call (hRI L hx_L _) rfl ?_)
      refine Sat.go (Eq.refl _) (NS.leave rfl (Eq.refl _) ?_)
      refine Sat.go (Eq.refl _) (NS.chk (by kernel_rfl) ?_)
      refine Sat.go (Eq.refl _) ?_
      refine NS.loop (σ := Unit) (fun _ => [(0, .ptr 21 0), (9, .ov 91 1 0 5), (10, .int .i64 5), (11, .int .i64 0)]) (fun _ => []) (fun _ => 0) () ?_ ?_
      ·exact weak_hd [] rfl ⟨rfl, rfl, rfl, rfl, trivial⟩ trivial (Pre_cut (by kernel_rfl)) (by kernel_rfl)
      rintro ⟨⟩
      refine Sat.go (Eq.refl _) (NS.yes (rfl) ?_)
      refine Sat.go (Eq.refl _) (NS.need (by kernel_rfl) ?_)
      refine Sat.go (Eq.refl _) (NS.call (hRI L hx_L _) rfl ?_)
      refine Sat.go (Eq.refl _) (NS.leave rfl (Eq.refl _) ?_)
      refine Sat.go (Eq.refl _) (NS.no (by show ((gt 0 1 (V L 0) : Int) == 4) = false; exact hkq_4) ?_)
      refine Sat.go (Eq.refl _) ?_
      refine NS.loop (σ := Unit) (fun _ => [(0, .ptr 21 0), (9, .ov 108 1 0 4), (10, .int .i64 4), (11, .int .i64 0)]) (fun _ => []) (fun _ => 0) () ?_ ?_
      ·exact weak_hd [] rfl ⟨rfl, rfl, rfl, rfl, trivial⟩ trivial (Pre_cut (by kernel_rfl)) (by kernel_rfl)
      rintro ⟨⟩
      refine Sat.go (Eq.refl _) (NS.yes (rfl) ?_)
      refine Sat.go (Eq.refl _) (NS.need (by kernel_rfl) ?_)
      refine Sat.go (Eq.refl _) (NS.call (hRI L hx_L _) rfl ?_)
      refine Sat.go (Eq.refl _) (NS.leave rfl (Eq.refl _) ?_)
      refine Sat.go (Eq.refl _) (NS.call (hRT L hx_L _) rfl ?_)
      rw [hF, hpn]
      exact Sat.go (Eq.refl _) (NS.ret rfl rfl (LeA.refl _))
     ·refine Sat.go (Eq.refl _) (NS.no (by show ((gt 0 1 (V L 0) : Int) == 1) = false; exact hkq_1) ?_)
      refine Sat.go (Eq.refl _) (NS.yes (by show ((gt 0 1 (V L 0) : Int) == 3) = true; exact hkq_3) ?_)
      refine Sat.go (Eq.refl _) ?_
      refine NS.loop (σ := Unit) (fun _ => [(0, .ptr 21 0), (9, .ov 73 1 0 1), (10, .int .i64 1), (11, .int .i64 0)]) (fun _ => []) (fun _ => 0) () ?_ ?_
      ·exact weak_hd [] rfl ⟨rfl, rfl, rfl, rfl, trivial⟩ trivial (Pre_cut (by kernel_rfl)) (by kernel_rfl)
      rintro ⟨⟩
      refine Sat.go (Eq.refl _) (NS.yes (rfl) ?_)
      refine Sat.go (Eq.refl _) (NS.need (by kernel_rfl) ?_)
      refine Sat.go (Eq.refl _) (NS.call (hRI L hx_L _) rfl ?_)
      refine Sat.go (Eq.refl _) (NS.leave rfl (Eq.refl _) ?_)
      refine Sat.go (Eq.refl _) (NS.chk (by kernel_rfl) ?_)
      refine Sat.go (Eq.refl _) ?_
      refine NS.loop (σ := Unit) (fun _ => [(0, .ptr 21 0), (9, .ov 91 1 0 5), (10, .int .i64 5), (11, .int .i64 0)]) (fun _ => []) (fun _ => 0) () ?_ ?_
      ·exact weak_hd [] rfl ⟨rfl, rfl, rfl, rfl, trivial⟩ trivial (Pre_cut (by kernel_rfl)) (by kernel_rfl)
      rintro ⟨⟩
      refine Sat.go (Eq.refl _) (NS.yes (rfl) ?_)
      refine Sat.go (Eq.refl _) (NS.need (by kernel_rfl) ?_)
      refine Sat.go (Eq.refl _) (NS.call (hRI L hx_L _) rfl ?_)
      refine Sat.go (Eq.refl _) (NS.leave rfl (Eq.refl _) ?_)
      refine Sat.go (Eq.refl _) (NS.no (by show ((gt 0 1 (V L 0) : Int) == 4) = false; exact hkq_4) ?_)
      refine Sat.go (Eq.refl _) (NS.yes (by show ((gt 0 1 (V L 0) : Int) == 3) = true; exact hkq_3) ?_)
      refine Sat.go (Eq.refl _) ?_
      refine NS.loop (σ := Unit) (fun _ => [(0, .ptr 21 0), (9, .ov 108 1 0 4), (10, .int .i64 4), (11, .int .i64 0)]) (fun _ => []) (fun _ => 0) () ?_ ?_
      ·exact weak_hd [] rfl ⟨rfl, rfl, rfl, rfl, trivial⟩ trivial (Pre_cut (by kernel_rfl)) (by kernel_rfl)
      rintro ⟨⟩
      refine Sat.go (Eq.refl _) (NS.yes (rfl) ?_)
      refine Sat.go (Eq.refl _) (NS.need (by kernel_rfl) ?_)
      refine Sat.go (Eq.refl _) (NS.call (hRI L hx_L _) rfl ?_)
      refine Sat.go (Eq.refl _) (NS.leave rfl (Eq.refl _) ?_)
      refine Sat.go (Eq.refl _) (NS.call (hRT L hx_L _) rfl ?_)
      rw [hF, hpn]
      exact Sat.go (Eq.refl _) (NS.ret rfl rfl (LeA.refl _))
     ·refine Sat.go (Eq.refl _) (NS.no (by show ((gt 0 1 (V L 0) : Int) == 1) = false; exact hkq_1) ?_)
      refine Sat.go (Eq.refl _) (NS.no (by show ((gt 0 1 (V L 0) : Int) == 3) = false; exact hkq_3) ?_)
      refine Sat.go (Eq.refl _) (NS.chk (by kernel_rfl) ?_)
      refine Sat.go (Eq.refl _) ?_
      refine NS.loop (σ := Unit) (fun _ => [(0, .ptr 21 0), (9, .ov 91 1 0 5), (10, .int .i64 5), (11, .int .i64 0)]) (fun _ => []) (fun _ => 0) () ?_ ?_
      ·exact weak_hd [] rfl ⟨rfl, rfl, rfl, rfl, trivial⟩ trivial (Pre_cut (by kernel_rfl)) (by kernel_rfl)
      rintro ⟨⟩
      refine Sat.go (Eq.refl _) (NS.yes (rfl) ?_)
      refine Sat.go (Eq.refl _) (NS.need (by kernel_rfl) ?_)
      refine Sat.go (Eq.refl _) (NS.call (hRI L hx_L _) rfl ?_)
      refine Sat.go (Eq.refl _) (NS.leave rfl (Eq.refl _) ?_)
      refine Sat.go (Eq.refl _) (NS.yes (by show ((gt 0 1 (V L 0) : Int) == 4) = true; exact hkq_4) ?_)
      refine Sat.go (Eq.refl _) ?_
      refine NS.loop (σ := Unit) (fun _ => [(0, .ptr 21 0), (9, .ov 98 1 0 1), (10, .int .i64 1), (11, .int .i64 0)]) (fun _ => []) (fun _ => 0) () ?_ ?_
      ·exact weak_hd [] rfl ⟨rfl, rfl, rfl, rfl, trivial⟩ trivial (Pre_cut (by kernel_rfl)) (by kernel_rfl)
      rintro ⟨⟩
      refine Sat.go (Eq.refl _) (NS.yes (rfl) ?_)
      refine Sat.go (Eq.refl _) (NS.need (by kernel_rfl) ?_)
      refine Sat.go (Eq.refl _) (NS.call (hRI L hx_L _) rfl ?_)
      refine Sat.go (Eq.refl _) (NS.leave rfl (Eq.refl _) ?_)
      refine Sat.go (Eq.refl _) (NS.no (by show ((gt 0 1 (V L 0) : Int) == 3) = false; exact hkq_3) ?_)
      rw [hF, hpn]
      exact Sat.go (Eq.refl _) (NS.ret rfl rfl (LeA.refl _))
     ·refine Sat.go (Eq.refl _) (NS.no (by show ((gt 0 1 (V L 0) : Int) == 1) = false; exact hkq_1) ?_)
      refine Sat.go (Eq.refl _) (NS.no (by show ((gt 0 1 (V L 0) : Int) == 3) = false; exact hkq_3) ?_)
      refine Sat.go (Eq.refl _) (NS.chk (by kernel_rfl) ?_)
      refine Sat.go (Eq.refl _) ?_
      refine NS.loop (σ := Unit) (fun _ => [(0, .ptr 21 0), (9, .ov 91 1 0 5), (10, .int .i64 5), (11, .int .i64 0)]) (fun _ => []) (fun _ => 0) () ?_ ?_
      ·exact weak_hd [] rfl ⟨rfl, rfl, rfl, rfl, trivial⟩ trivial (Pre_cut (by kernel_rfl)) (by kernel_rfl)
      rintro ⟨⟩
      refine Sat.go (Eq.refl _) (NS.yes (rfl) ?_)
      refine Sat.go (Eq.refl _) (NS.need (by kernel_rfl) ?_)
      refine Sat.go (Eq.refl _) (NS.call (hRI L hx_L _) rfl ?_)
      refine Sat.go (Eq.refl _) (NS.leave rfl (Eq.refl _) ?_)
      refine Sat.go (Eq.refl _) (NS.no (by show ((gt 0 1 (V L 0) : Int) == 4) = false; exact hkq_4) ?_)
      refine Sat.go (Eq.refl _) (NS.no (by show ((gt 0 1 (V L 0) : Int) == 3) = false; exact hkq_3) ?_)
      rw [hF, hpn]
      exact Sat.go (Eq.refl _) (NS.ret rfl rfl (LeA.refl _))
    ·have ke : rdE L 1 = 0 := by have ke : (rdE L 1 != 0) = false := ke; simpa using ke
     refine Sat.go (Eq.refl _) (NS.need (hS L hx_L 1) ?_)
     refine Sat.go (Eq.refl _) (NS.next ⟨1 + 1, by omega, fun i hi => by rcases Nat.lt_succ_iff_lt_or_eq.1 hi with h | h; exact kE i h; rw [h]; exact ke⟩ (by show 2 - (1 + 1) < 2 - 1; omega) ?_)
     exact weak_hd [] rfl ⟨rfl, rfl, rfl, rfl, trivial⟩ ⟨⟨_, rfl, _, _, rfl, ren_str rfl (hC L hx_L 1), _, _, rfl, .inl rfl, rfl⟩, ⟨_, rfl, _, _, rfl, rfl, _, _, rfl, rfl, _, _, rfl, rfl, _, _, rfl, rfl, _, _, rfl, rfl, _, _, rfl, rfl, _, _, rfl, rfl, _, _, rfl, rfl, _, _, rfl, rfl, _, _, rfl, rfl, _, _, rfl, .inl rfl, _, _, rfl, rfl, _, _, rfl, rfl, _, _, rfl, rfl, _, _, rfl, rfl, _, _, rfl, rfl, _, _, rfl, rfl, _, _, rfl, rfl, _, _, rfl, rfl, rfl⟩, trivial⟩ (Pre_cut (by kernel_rfl)) (by kernel_rfl)
  have ka : k = 2 := by have ka : decide ((k : Int) < 2) = false := ka; have := of_decide_eq_false ka; omega
  subst ka
  refine Sat.go (Eq.refl _) (NS.leave rfl (Eq.refl _) ?_)
  have kN : rdNs 2 L = some ((List.range 2).map (V L), L.drop (rdP L 2)) := hAll _ _ kE
  obtain ⟨M1, hM1⟩ : ∃ M, L.drop (rdP L 2) = M := ⟨_, rfl⟩
  rw [hM1] at kN
  have hx_M1 : (∀ x ∈ M1, x < 256) ∧ M1.length ≤ 65536 := by rw [← hM1]; exact ⟨fun x hx => hx_L.1 x (List.mem_of_mem_drop hx), by rw [List.length_drop]; have := hx_L.2; omega⟩
  have hy_M1 : bs (L.drop (rdP L 2)) = bs M1 := congrArg bs hM1
  rcases hkc (V L 0) with ⟨hkz, hkq_1, hkq_3, hkq_4⟩ | ⟨hkz, hkq_1, hkq_3, hkq_4⟩ | ⟨hkz, hkq_1, hkq_3, hkq_4⟩ | ⟨hkz, hkq_1, hkq_3, hkq_4⟩
  ·refine Sat.go (Eq.refl _) (NS.yes (by show ((gt 0 2 (V L 0) : Int) == 1) = true; exact hkq_1) ?_)
   have hpr : parR L = parS (V L 0) (V L 1) M1 := parR_S' kN (by show stoK (V L 0) = true; rw [hkz]; rfl)
   refine Sat.go (Eq.refl _) ?_
   refine NS.loop (σ := { k : Nat // k ≤ 1 ∧ ∀ i, i < k → rdE M1 i = 0 }) (fun k => [(0, .ptr 21 0), (9, .ov 73 1 0 1), (10, .int .i64 1), (11, .int .i64 k.1)]) (fun k => [(21, .box [.str (bs (M1.drop (rdP M1 k.1))), .bool false]), (46, .box [.int .i64 (V L 0), .int .i64 (gt 0 k.1 (V M1 0)), .int .i64 0, .int .i64 0, .int .i64 0, .int .i64 0, .int .i64 0, .int .i64 0, .int .i64 0, .int .i64 0, .bool false, .str .empty, .int .i64 0, .int .i64 0, .int .i64 0, .int .i64 0, .int .i64 0, .int .i64 0, .int .i64 (V L 1)])]) (fun k => 1 - k.1) ⟨0, by omega, fun i hi => absurd hi (Nat.not_lt_zero _)⟩ ?_ ?_
   ·exact weak_hd [] rfl ⟨rfl, rfl, rfl, rfl, trivial⟩ ⟨⟨_, rfl, _, _, rfl, ren_str rfl hy_M1, _, _, rfl, .inl rfl, rfl⟩, ⟨_, rfl, _, _, rfl, rfl, _, _, rfl, rfl, _, _, rfl, rfl, _, _, rfl, rfl, _, _, rfl, rfl, _, _, rfl, rfl, _, _, rfl, rfl, _, _, rfl, rfl, _, _, rfl, rfl, _, _, rfl, rfl, _, _, rfl, .inl rfl, _, _, rfl, rfl, _, _, rfl, rfl, _, _, rfl, rfl, _, _, rfl, rfl, _, _, rfl, rfl, _, _, rfl, rfl, _, _, rfl, rfl, _, _, rfl, rfl, rfl⟩, trivial⟩ (Pre_cut (by kernel_rfl)) (by kernel_rfl)
   rintro ⟨t, tl, tE⟩
   have tE : ∀ i, i < t → rdE M1 i = 0 := tE
   have tl : t ≤ 1 := tl
   refine Sat.go (Eq.refl _) (NS.ite (fun ta => ?_) (fun ta => ?_))
   ·have ta : t < 1 := by have ta : decide ((t : Int) < 1) = true := ta; have := of_decide_eq_true ta; omega
    obtain rfl : t = 0 := by omega
    refine Sat.go (Eq.refl _) (NS.need (by kernel_rfl) ?_)
    refine Sat.go (Eq.refl _) (NS.call (hR M1 hx_M1 0) rfl ?_)
    refine Sat.go (Eq.refl _) (NS.no (rfl) ?_)
    refine Sat.go (Eq.refl _) (NS.ite (fun te => ?_) (fun te => ?_))
    ·have te : rdE M1 0 ≠ 0 := by have te : (rdE M1 0 != 0) = true := te; simpa using te
     have tB : rdNs 1 M1 = none := rdNs_bad (by decide) te
     refine Sat.go (Eq.refl _) (NS.leave rfl (Eq.refl _) ?_)
     have hpn : parR L = none := by rw [hpr]; exact parS_bad1 tB
     refine Sat.go (Eq.refl _) (NS.chk (by kernel_rfl) ?_)
     refine Sat.go (Eq.refl _) ?_
     refine NS.loop (σ := Unit) (fun _ => [(0, .ptr 21 0), (9, .ov 91 1 0 5), (10, .int .i64 5), (11, .int .i64 0)]) (fun _ => []) (fun _ => 0) () ?_ ?_
     ·exact weak_hd [] rfl ⟨rfl, rfl, rfl, rfl, trivial⟩ trivial (Pre_cut (by kernel_rfl)) (by kernel_rfl)
     rintro ⟨⟩
     refine Sat.go (Eq.refl _) (NS.yes (rfl) ?_)
     refine Sat.go (Eq.refl _) (NS.need (by kernel_rfl) ?_)
     refine Sat.go (Eq.refl _) (NS.call (hRI M1 hx_M1 _) rfl ?_)
     refine Sat.go (Eq.refl _) (NS.leave rfl (Eq.refl _) ?_)
     refine Sat.go (Eq.refl _) (NS.no (by show ((gt 0 2 (V L 0) : Int) == 4) = false; exact hkq_4) ?_)
     refine Sat.go (Eq.refl _) ?_
     refine NS.loop (σ := Unit) (fun _ => [(0, .ptr 21 0), (9, .ov 108 1 0 4), (10, .int .i64 4), (11, .int .i64 0)]) (fun _ => []) (fun _ => 0) () ?_ ?_
     ·exact weak_hd [] rfl ⟨rfl, rfl, rfl, rfl, trivial⟩ trivial (Pre_cut (by kernel_rfl)) (by kernel_rfl)
     rintro ⟨⟩
     refine Sat.go (Eq.refl _) (NS.yes (rfl) ?_)
     refine Sat.go (Eq.refl _) (NS.need (by kernel_rfl) ?_)
     refine Sat.go (Eq.refl _) (NS.call (hRI M1 hx_M1 _) rfl ?_)
     refine Sat.go (Eq.refl _) (NS.leave rfl (Eq.refl _) ?_)
     refine Sat.go (Eq.refl _) (NS.call (hRT M1 hx_M1 _) rfl ?_)
     rw [hF, hpn]
     exact Sat.go (Eq.refl _) (NS.ret rfl rfl (LeA.refl _))
    ·have te : rdE M1 0 = 0 := by have te : (rdE M1 0 != 0) = false := te; simpa using te
     refine Sat.go (Eq.refl _) (NS.need (hS M1 hx_M1 0) ?_)
     refine Sat.go (Eq.refl _) (NS.next ⟨0 + 1, by omega, fun i hi => by rcases Nat.lt_succ_iff_lt_or_eq.1 hi with h | h; exact tE i h; rw [h]; exact te⟩ (by show 1 - (0 + 1) < 1 - 0; omega) ?_)
     exact weak_hd [] rfl ⟨rfl, rfl, rfl, rfl, trivial⟩ ⟨⟨_, rfl, _, _, rfl, ren_str rfl (hC M1 hx_M1 0), _, _, rfl, .inl rfl, rfl⟩, ⟨_, rfl, _, _, rfl, rfl, _, _, rfl, rfl, _, _, rfl, rfl, _, _, rfl, rfl, _, _, rfl, rfl, _, _, rfl, rfl, _, _, rfl, rfl, _, _, rfl, rfl, _, _, rfl, rfl, _, _, rfl, rfl, _, _, rfl, .inl rfl, _, _, rfl, rfl, _, _, rfl, rfl, _, _, rfl, rfl, _, _, rfl, rfl, _, _, rfl, rfl, _, _, rfl, rfl, _, _, rfl, rfl, _, _, rfl, rfl, rfl⟩, trivial⟩ (Pre_cut (by kernel_rfl)) (by kernel_rfl)
   have ta : t = 1 := by have ta : decide ((t : Int) < 1) = false := ta; have := of_decide_eq_false ta; omega
   subst ta
   refine Sat.go (Eq.refl _) (NS.leave rfl (Eq.refl _) ?_)
   have tN : rdNs 1 M1 = some ((List.range 1).map (V M1), M1.drop (rdP M1 1)) := hAll _ _ tE
   obtain ⟨M2, hM2⟩ : ∃ M, M1.drop (rdP M1 1) = M := ⟨_, rfl⟩
   rw [hM2] at tN
   have hx_M2 : (∀ x ∈ M2, x < 256) ∧ M2.length ≤ 65536 := by rw [← hM2]; exact ⟨fun x hx => hx_M1.1 x (List.mem_of_mem_drop hx), by rw [List.length_drop]; have := hx_M1.2; omega⟩
   have hy_M2 : bs (M1.drop (rdP M1 1)) = bs M2 := congrArg bs hM2
   refine Sat.go (Eq.refl _) (NS.chk (by kernel_rfl) ?_)
   refine Sat.go (Eq.refl _) ?_
   refine NS.loop (σ := { k : Nat // k ≤ 5 ∧ ∀ i, i < k → rdE M2 i = 0 }) (fun k => [(0, .ptr 21 0), (9, .ov 91 1 0 5), (10, .int .i64 5), (11, .int .i64 k.1)]) (fun k => [(21, .box [.str (bs (M2.drop (rdP M2 k.1))), .bool false]), (46, .box [.int .i64 (V L 0), .int .i64 (V M1 0), .int .i64 (gt 0 k.1 (V M2 0)), .int .i64 (gt 1 k.1 (V M2 1)), .int .i64 (gt 2 k.1 (V M2 2)), .int .i64 (gt 3 k.1 (V M2 3)), .int .i64 (gt 4 k.1 (V M2 4)), .int .i64 0, .int .i64 0, .int .i64 0, .bool false, .str .empty, .int .i64 0, .int .i64 0, .int .i64 0, .int .i64 0, .int .i64 0, .int .i64 0, .int .i64 (V L 1)])]) (fun k => 5 - k.1) ⟨0, by omega, fun i hi => absurd hi (Nat.not_lt_zero _)⟩ ?_ ?_
   ·exact weak_hd [] rfl ⟨rfl, rfl, rfl, rfl, trivial⟩ ⟨⟨_, rfl, _, _, rfl, ren_str rfl hy_M2, _, _, rfl, .inl rfl, rfl⟩, ⟨_, rfl, _, _, rfl, rfl, _, _, rfl, rfl, _, _, rfl, rfl, _, _, rfl, rfl, _, _, rfl, rfl, _, _, rfl, rfl, _, _, rfl, rfl, _, _, rfl, rfl, _, _, rfl, rfl, _, _, rfl, rfl, _, _, rfl, .inl rfl, _, _, rfl, rfl, _, _, rfl, rfl, _, _, rfl, rfl, _, _, rfl, rfl, _, _, rfl, rfl, _, _, rfl, rfl, _, _, rfl, rfl, _, _, rfl, rfl, rfl⟩, trivial⟩ (Pre_cut (by kernel_rfl)) (by kernel_rfl)
   rintro ⟨v, vl, vE⟩
   have vE : ∀ i, i < v → rdE M2 i = 0 := vE
   have vl : v ≤ 5 := vl
   refine Sat.go (Eq.refl _) (NS.ite (fun va => ?_) (fun va => ?_))
   ·have va : v < 5 := by have va : decide ((v : Int) < 5) = true := va; have := of_decide_eq_true va; omega
    rcases (by omega : v = 0 ∨ v = 1 ∨ v = 2 ∨ v = 3 ∨ v = 4) with rfl | rfl | rfl | rfl | rfl
    ·refine Sat.go (Eq.refl _) (NS.need (by kernel_rfl) ?_)
     refine Sat.go (Eq.refl _) (NS.call (hR M2 hx_M2 0) rfl ?_)
     refine Sat.go (Eq.refl _) (NS.no (rfl) ?_)
     refine Sat.go (Eq.refl _) (NS.ite (fun ve => ?_) (fun ve => ?_))
     ·have ve : rdE M2 0 ≠ 0 := by have ve : (rdE M2 0 != 0) = true := ve; simpa using ve
      have vB : rdNs 5 M2 = none := rdNs_bad (by decide) ve
      refine Sat.go (Eq.refl _) (NS.leave rfl (Eq.refl _) ?_)
      have hpn : parR L = none := by rw [hpr]; exact parS_bad2 tN vB
      refine Sat.go (Eq.refl _) (NS.no (by show ((gt 0 2 (V L 0) : Int) == 4) = false; exact hkq_4) ?_)
      refine Sat.go (Eq.refl _) ?_
      refine NS.loop (σ := Unit) (fun _ => [(0, .ptr 21 0), (9, .ov 108 1 0 4), (10, .int .i64 4), (11, .int .i64 0)]) (fun _ => []) (fun _ => 0) () ?_ ?_
      ·exact weak_hd [] rfl ⟨rfl, rfl, rfl, rfl, trivial⟩ trivial (Pre_cut (by kernel_rfl)) (by kernel_rfl)
      rintro ⟨⟩
      refine Sat.go (Eq.refl _) (NS.yes (rfl) ?_)
      refine Sat.go (Eq.refl _) (NS.need (by kernel_rfl) ?_)
      refine Sat.go (Eq.refl _) (NS.call (hRI M2 hx_M2 _) rfl ?_)
      refine Sat.go (Eq.refl _) (NS.leave rfl (Eq.refl _) ?_)
      refine Sat.go (Eq.refl _) (NS.call (hRT M2 hx_M2 _) rfl ?_)
      rw [hF, hpn]
      exact Sat.go (Eq.refl _) (NS.ret rfl rfl (LeA.refl _))
     ·have ve : rdE M2 0 = 0 := by have ve : (rdE M2 0 != 0) = false := ve; simpa using ve
      refine Sat.go (Eq.refl _) (NS.need (hS M2 hx_M2 0) ?_)
      refine Sat.go (Eq.refl _) (NS.next ⟨0 + 1, by omega, fun i hi => by rcases Nat.lt_succ_iff_lt_or_eq.1 hi with h | h; exact vE i h; rw [h]; exact ve⟩ (by show 5 - (0 + 1) < 5 - 0; omega) ?_)
      exact weak_hd [] rfl ⟨rfl, rfl, rfl, rfl, trivial⟩ ⟨⟨_, rfl, _, _, rfl, ren_str rfl (hC M2 hx_M2 0), _, _, rfl, .inl rfl, rfl⟩, ⟨_, rfl, _, _, rfl, rfl, _, _, rfl, rfl, _, _, rfl, rfl, _, _, rfl, rfl, _, _, rfl, rfl, _, _, rfl, rfl, _, _, rfl, rfl, _, _, rfl, rfl, _, _, rfl, rfl, _, _, rfl, rfl, _, _, rfl, .inl rfl, _, _, rfl, rfl, _, _, rfl, rfl, _, _, rfl, rfl, _, _, rfl, rfl, _, _, rfl, rfl, _, _, rfl, rfl, _, _, rfl, rfl, _, _, rfl, rfl, rfl⟩, trivial⟩ (Pre_cut (by kernel_rfl)) (by kernel_rfl)
    ·refine Sat.go (Eq.refl _) (NS.need (by kernel_rfl) ?_)
     refine Sat.go (Eq.refl _) (NS.call (hR M2 hx_M2 1) rfl ?_)
     refine Sat.go (Eq.refl _) (NS.no (rfl) ?_)
     refine Sat.go (Eq.refl _) (NS.ite (fun ve => ?_) (fun ve => ?_))
     ·have ve : rdE M2 1 ≠ 0 := by have ve : (rdE M2 1 != 0) = true := ve; simpa using ve
      have vB : rdNs 5 M2 = none := rdNs_bad (by decide) ve
      refine Sat.go (Eq.refl _) (NS.leave rfl (Eq.refl _) ?_)
      have hpn : parR L = none := by rw [hpr]; exact parS_bad2 tN vB
      refine Sat.go (Eq.refl _) (NS.no (by show ((gt 0 2 (V L 0) : Int) == 4) = false; exact hkq_4) ?_)
      refine Sat.go (Eq.refl _) ?_
      refine NS.loop (σ := Unit) (fun _ => [(0, .ptr 21 0), (9, .ov 108 1 0 4), (10, .int .i64 4), (11, .int .i64 0)]) (fun _ => []) (fun _ => 0) () ?_ ?_
      ·exact weak_hd [] rfl ⟨rfl, rfl, rfl, rfl, trivial⟩ trivial (Pre_cut (by kernel_rfl)) (by kernel_rfl)
      rintro ⟨⟩
      refine Sat.go (Eq.refl _) (NS.yes (rfl) ?_)
      refine Sat.go (Eq.refl _) (NS.need (by kernel_rfl) ?_)
      refine Sat.go (Eq.refl _) (NS.call (hRI M2 hx_M2 _) rfl ?_)
      refine Sat.go (Eq.refl _) (NS.leave rfl (Eq.refl _) ?_)
      refine Sat.go (Eq.refl _) (NS.call (hRT M2 hx_M2 _) rfl ?_)
      rw [hF, hpn]
      exact Sat.go (Eq.refl _) (NS.ret rfl rfl (LeA.refl _))
     ·have ve : rdE M2 1 = 0 := by have ve : (rdE M2 1 != 0) = false := ve; simpa using ve
      refine Sat.go (Eq.refl _) (NS.need (hS M2 hx_M2 1) ?_)
      refine Sat.go (Eq.refl _) (NS.next ⟨1 + 1, by omega, fun i hi => by rcases Nat.lt_succ_iff_lt_or_eq.1 hi with h | h; exact vE i h; rw [h]; exact ve⟩ (by show 5 - (1 + 1) < 5 - 1; omega) ?_)
      exact weak_hd [] rfl ⟨rfl, rfl, rfl, rfl, trivial⟩ ⟨⟨_, rfl, _, _, rfl, ren_str rfl (hC M2 hx_M2 1), _, _, rfl, .inl rfl, rfl⟩, ⟨_, rfl, _, _, rfl, rfl, _, _, rfl, rfl, _, _, rfl, rfl, _, _, rfl, rfl, _, _, rfl, rfl, _, _, rfl, rfl, _, _, rfl, rfl, _, _, rfl, rfl, _, _, rfl, rfl, _, _, rfl, rfl, _, _, rfl, .inl rfl, _, _, rfl, rfl, _, _, rfl, rfl, _, _, rfl, rfl, _, _, rfl, rfl, _, _, rfl, rfl, _, _, rfl, rfl, _, _, rfl, rfl, _, _, rfl, rfl, rfl⟩, trivial⟩ (Pre_cut (by kernel_rfl)) (by kernel_rfl)
    ·refine Sat.go (Eq.refl _) (NS.need (by kernel_rfl) ?_)
     refine Sat.go (Eq.refl _) (NS.call (hR M2 hx_M2 2) rfl ?_)
     refine Sat.go (Eq.refl _) (NS.no (rfl) ?_)
     refine Sat.go (Eq.refl _) (NS.ite (fun ve => ?_) (fun ve => ?_))
     ·have ve : rdE M2 2 ≠ 0 := by have ve : (rdE M2 2 != 0) = true := ve; simpa using ve
      have vB : rdNs 5 M2 = none := rdNs_bad (by decide) ve
      refine Sat.go (Eq.refl _) (NS.leave rfl (Eq.refl _) ?_)
      have hpn : parR L = none := by rw [hpr]; exact parS_bad2 tN vB
      refine Sat.go (Eq.refl _) (NS.no (by show ((gt 0 2 (V L 0) : Int) == 4) = false; exact hkq_4) ?_)
      refine Sat.go (Eq.refl _) ?_
      refine NS.loop (σ := Unit) (fun _ => [(0, .ptr 21 0), (9, .ov 108 1 0 4), (10, .int .i64 4), (11, .int .i64 0)]) (fun _ => []) (fun _ => 0) () ?_ ?_
      ·exact weak_hd [] rfl ⟨rfl, rfl, rfl, rfl, trivial⟩ trivial (Pre_cut (by kernel_rfl)) (by kernel_rfl)
      rintro ⟨⟩
      refine Sat.go (Eq.refl _) (NS.yes (rfl) ?_)
      refine Sat.go (Eq.refl _) (NS.need (by kernel_rfl) ?_)
      refine Sat.go (Eq.refl _) (NS.call (hRI M2 hx_M2 _) rfl ?_)
      refine Sat.go (Eq.refl _) (NS.leave rfl (Eq.refl _) ?_)
      refine Sat.go (Eq.refl _) (NS.call (hRT M2 hx_M2 _) rfl ?_)
      rw [hF, hpn]
      exact Sat.go (Eq.refl _) (NS.ret rfl rfl (LeA.refl _))
     ·have ve : rdE M2 2 = 0 := by have ve : (rdE M2 2 != 0) = false := ve; simpa using ve
      refine Sat.go (Eq.refl _) (NS.need (hS M2 hx_M2 2) ?_)
      refine Sat.go (Eq.refl _) (NS.next ⟨2 + 1, by omega, fun i hi => by rcases Nat.lt_succ_iff_lt_or_eq.1 hi with h | h; exact vE i h; rw [h]; exact ve⟩ (by show 5 - (2 + 1) < 5 - 2; omega) ?_)
      exact weak_hd [] rfl ⟨rfl, rfl, rfl, rfl, trivial⟩ ⟨⟨_, rfl, _, _, rfl, ren_str rfl (hC M2 hx_M2 2), _, _, rfl, .inl rfl, rfl⟩, ⟨_, rfl, _, _, rfl, rfl, _, _, rfl, rfl, _, _, rfl, rfl, _, _, rfl, rfl, _, _, rfl, rfl, _, _, rfl, rfl, _, _, rfl, rfl, _, _, rfl, rfl, _, _, rfl, rfl, _, _, rfl, rfl, _, _, rfl, .inl rfl, _, _, rfl, rfl, _, _, rfl, rfl, _, _, rfl, rfl, _, _, rfl, rfl, _, _, rfl, rfl, _, _, rfl, rfl, _, _, rfl, rfl, _, _, rfl, rfl, rfl⟩, trivial⟩ (Pre_cut (by kernel_rfl)) (by kernel_rfl)
    ·refine Sat.go (Eq.refl _) (NS.need (by kernel_rfl) ?_)
     refine Sat.go (Eq.refl _) (NS.call (hR M2 hx_M2 3) rfl ?_)
     refine Sat.go (Eq.refl _) (NS.no (rfl) ?_)
     refine Sat.go (Eq.refl _) (NS.ite (fun ve => ?_) (fun ve => ?_))
     ·have ve : rdE M2 3 ≠ 0 := by have ve : (rdE M2 3 != 0) = true := ve; simpa using ve
      have vB : rdNs 5 M2 = none := rdNs_bad (by decide) ve
      refine Sat.go (Eq.refl _) (NS.leave rfl (Eq.refl _) ?_)
      have hpn : parR L = none := by rw [hpr]; exact parS_bad2 tN vB
      refine Sat.go (Eq.refl _) (NS.no (by show ((gt 0 2 (V L 0) : Int) == 4) = false; exact hkq_4) ?_)
      refine Sat.go (Eq.refl _) ?_
      refine NS.loop (σ := Unit) (fun _ => [(0, .ptr 21 0), (9, .ov 108 1 0 4), (10, .int .i64 4), (11, .int .i64 0)]) (fun _ => []) (fun _ => 0) () ?_ ?_
      ·exact weak_hd [] rfl ⟨rfl, rfl, rfl, rfl, trivial⟩ trivial (Pre_cut (by kernel_rfl)) (by kernel_rfl)
      rintro ⟨⟩
      refine Sat.go (Eq.refl _) (NS.yes (rfl) ?_)
      refine Sat.go (Eq.refl _) (NS.need (by kernel_rfl) ?_)
      refine Sat.go (Eq.refl _) (NS.call (hRI M2 hx_M2 _) rfl ?_)
      refine Sat.go (Eq.refl _) (NS.leave rfl (Eq.refl _) ?_)
      refine Sat.go (Eq.refl _) (NS.call (hRT M2 hx_M2 _) rfl ?_)
      rw [hF, hpn]
      exact Sat.go (Eq.refl _) (NS.ret rfl rfl (LeA.refl _))
     ·have ve : rdE M2 3 = 0 := by have ve : (rdE M2 3 != 0) = false := ve; simpa using ve
      refine Sat.go (Eq.refl _) (NS.need (hS M2 hx_M2 3) ?_)
      refine Sat.go (Eq.refl _) (NS.next ⟨3 + 1, by omega, fun i hi => by rcases Nat.lt_succ_iff_lt_or_eq.1 hi with h | h; exact vE i h; rw [h]; exact ve⟩ (by show 5 - (3 + 1) < 5 - 3; omega) ?_)
      exact weak_hd [] rfl ⟨rfl, rfl, rfl, rfl, trivial⟩ ⟨⟨_, rfl, _, _, rfl, ren_str rfl (hC M2 hx_M2 3), _, _, rfl, .inl rfl, rfl⟩, ⟨_, rfl, _, _, rfl, rfl, _, _, rfl, rfl, _, _, rfl, rfl, _, _, rfl, rfl, _, _, rfl, rfl, _, _, rfl, rfl, _, _, rfl, rfl, _, _, rfl, rfl, _, _, rfl, rfl, _, _, rfl, rfl, _, _, rfl, .inl rfl, _, _, rfl, rfl, _, _, rfl, rfl, _, _, rfl, rfl, _, _, rfl, rfl, _, _, rfl, rfl, _, _, rfl, rfl, _, _, rfl, rfl, _, _, rfl, rfl, rfl⟩, trivial⟩ (Pre_cut (by kernel_rfl)) (by kernel_rfl)
    ·refine Sat.go (Eq.refl _) (NS.need (by kernel_rfl) ?_)
     refine Sat.go (Eq.refl _) (NS.call (hR M2 hx_M2 4) rfl ?_)
     refine Sat.go (Eq.refl _) (NS.no (rfl) ?_)
     refine Sat.go (Eq.refl _) (NS.ite (fun ve => ?_) (fun ve => ?_))
     ·have ve : rdE M2 4 ≠ 0 := by have ve : (rdE M2 4 != 0) = true := ve; simpa using ve
      have vB : rdNs 5 M2 = none := rdNs_bad (by decide) ve
      refine Sat.go (Eq.refl _) (NS.leave rfl (Eq.refl _) ?_)
      have hpn : parR L = none := by rw [hpr]; exact parS_bad2 tN vB
      refine Sat.go (Eq.refl _) (NS.no (by show ((gt 0 2 (V L 0) : Int) == 4) = false; exact hkq_4) ?_)
      refine Sat.go (Eq.refl _) ?_
      refine NS.loop (σ := Unit) (fun _ => [(0, .ptr 21 0), (9, .ov 108 1 0 4), (10, .int .i64 4), (11, .int .i64 0)]) (fun _ => []) (fun _ => 0) () ?_ ?_
      ·exact weak_hd [] rfl ⟨rfl, rfl, rfl, rfl, trivial⟩ trivial (Pre_cut (by kernel_rfl)) (by kernel_rfl)
      rintro ⟨⟩
      refine Sat.go (Eq.refl _) (NS.yes (rfl) ?_)
      refine Sat.go (Eq.refl _) (NS.need (by kernel_rfl) ?_)
      refine Sat.go (Eq.refl _) (NS.call (hRI M2 hx_M2 _) rfl ?_)
      refine Sat.go (Eq.refl _) (NS.leave rfl (Eq.refl _) ?_)
      refine Sat.go (Eq.refl _) (NS.call (hRT M2 hx_M2 _) rfl ?_)
      rw [hF, hpn]
      exact Sat.go (Eq.refl _) (NS.ret rfl rfl (LeA.refl _))
     ·have ve : rdE M2 4 = 0 := by have ve : (rdE M2 4 != 0) = false := ve; simpa using ve
      refine Sat.go (Eq.refl _) (NS.need (hS M2 hx_M2 4) ?_)
      refine Sat.go (Eq.refl _) (NS.next ⟨4 + 1, by omega, fun i hi => by rcases Nat.lt_succ_iff_lt_or_eq.1 hi with h | h; exact vE i h; rw [h]; exact ve⟩ (by show 5 - (4 + 1) < 5 - 4; omega) ?_)
      exact weak_hd [] rfl ⟨rfl, rfl, rfl, rfl, trivial⟩ ⟨⟨_, rfl, _, _, rfl, ren_str rfl (hC M2 hx_M2 4), _, _, rfl, .inl rfl, rfl⟩, ⟨_, rfl, _, _, rfl, rfl, _, _, rfl, rfl, _, _, rfl, rfl, _, _, rfl, rfl, _, _, rfl, rfl, _, _, rfl, rfl, _, _, rfl, rfl, _, _, rfl, rfl, _, _, rfl, rfl, _, _, rfl, rfl, _, _, rfl, .inl rfl, _, _, rfl, rfl, _, _, rfl, rfl, _, _, rfl, rfl, _, _, rfl, rfl, _, _, rfl, rfl, _, _, rfl, rfl, _, _, rfl, rfl, _, _, rfl, rfl, rfl⟩, trivial⟩ (Pre_cut (by kernel_rfl)) (by kernel_rfl)
   have va : v = 5 := by have va : decide ((v : Int) < 5) = false := va; have := of_decide_eq_false va; omega
   subst va
   refine Sat.go (Eq.refl _) (NS.leave rfl (Eq.refl _) ?_)
   have vN : rdNs 5 M2 = some ((List.range 5).map (V M2), M2.drop (rdP M2 5)) := hAll _ _ vE
   obtain ⟨M3, hM3⟩ : ∃ M, M2.drop (rdP M2 5) = M := ⟨_, rfl⟩
   rw [hM3] at vN
   have hx_M3 : (∀ x ∈ M3, x < 256) ∧ M3.length ≤ 65536 := by rw [← hM3]; exact ⟨fun x hx => hx_M2.1 x (List.mem_of_mem_drop hx), by rw [List.length_drop]; have := hx_M2.2; omega⟩
   have hy_M3 : bs (M2.drop (rdP M2 5)) = bs M3 := congrArg bs hM3
   refine Sat.go (Eq.refl _) (NS.no (by show ((gt 0 2 (V L 0) : Int) == 4) = false; exact hkq_4) ?_)
   refine Sat.go (Eq.refl _) ?_
   refine NS.loop (σ := { k : Nat // k ≤ 4 ∧ ∀ i, i < k → rdE M3 i = 0 }) (fun k => [(0, .ptr 21 0), (9, .ov 108 1 0 4), (10, .int .i64 4), (11, .int .i64 k.1)]) (fun k => [(21, .box [.str (bs (M3.drop (rdP M3 k.1))), .bool false]), (46, .box [.int .i64 (V L 0), .int .i64 (V M1 0), .int .i64 (V M2 0), .int .i64 (V M2 1), .int .i64 (V M2 2), .int .i64 (V M2 3), .int .i64 (V M2 4), .int .i64 (gt 0 k.1 (V M3 0)), .int .i64 (gt 1 k.1 (V M3 1)), .int .i64 (gt 2 k.1 (V M3 2)), .bool false, .str .empty, .int .i64 0, .int .i64 0, .int .i64 0, .int .i64 0, .int .i64 0, .int .i64 0, .int .i64 (V L 1)]), (49, .box [.int .i64 (gt 3 k.1 (V M3 3))])]) (fun k => 4 - k.1) ⟨0, by omega, fun i hi => absurd hi (Nat.not_lt_zero _)⟩ ?_ ?_
   ·exact weak_hd [] rfl ⟨rfl, rfl, rfl, rfl, trivial⟩ ⟨⟨_, rfl, _, _, rfl, ren_str rfl hy_M3, _, _, rfl, .inl rfl, rfl⟩, ⟨_, rfl, _, _, rfl, rfl, _, _, rfl, rfl, _, _, rfl, rfl, _, _, rfl, rfl, _, _, rfl, rfl, _, _, rfl, rfl, _, _, rfl, rfl, _, _, rfl, rfl, _, _, rfl, rfl, _, _, rfl, rfl, _, _, rfl, .inl rfl, _, _, rfl, rfl, _, _, rfl, rfl, _, _, rfl, rfl, _, _, rfl, rfl, _, _, rfl, rfl, _, _, rfl, rfl, _, _, rfl, rfl, _, _, rfl, rfl, rfl⟩, ⟨_, rfl, _, _, rfl, rfl, rfl⟩, trivial⟩ (Pre_cut (by kernel_rfl)) (by kernel_rfl)
   rintro ⟨w, wl, wE⟩
   have wE : ∀ i, i < w → rdE M3 i = 0 := wE
   have wl : w ≤ 4 := wl
   refine Sat.go (Eq.refl _) (NS.ite (fun wa => ?_) (fun wa => ?_))
   ·have wa : w < 4 := by have wa : decide ((w : Int) < 4) = true := wa; have := of_decide_eq_true wa; omega
    rcases (by omega : w = 0 ∨ w = 1 ∨ w = 2 ∨ w = 3) with rfl | rfl | rfl | rfl
    ·refine Sat.go (Eq.refl _) (NS.need (by kernel_rfl) ?_)
     refine Sat.go (Eq.refl _) (NS.call (hR M3 hx_M3 0) rfl ?_)
     refine Sat.go (Eq.refl _) (NS.no (rfl) ?_)
     refine Sat.go (Eq.refl _) (NS.ite (fun we => ?_) (fun we => ?_))
     ·have we : rdE M3 0 ≠ 0 := by have we : (rdE M3 0 != 0) = true := we; simpa using we
      have wB : rdNs 4 M3 = none := rdNs_bad (by decide) we
      refine Sat.go (Eq.refl _) (NS.leave rfl (Eq.refl _) ?_)
      have hpn : parR L = none := by rw [hpr]; exact parS_bad3 tN vN wB
      refine Sat.go (Eq.refl _) (NS.call (hRT M3 hx_M3 _) rfl ?_)
      rw [hF, hpn]
      exact Sat.go (Eq.refl _) (NS.ret rfl rfl (LeA.refl _))
     ·have we : rdE M3 0 = 0 := by have we : (rdE M3 0 != 0) = false := we; simpa using we
      refine Sat.go (Eq.refl _) (NS.need (hS M3 hx_M3 0) ?_)
      refine Sat.go (Eq.refl _) (NS.next ⟨0 + 1, by omega, fun i hi => by rcases Nat.lt_succ_iff_lt_or_eq.1 hi with h | h; exact wE i h; rw [h]; exact we⟩ (by show 4 - (0 + 1) < 4 - 0; omega) ?_)
      exact weak_hd [] rfl ⟨rfl, rfl, rfl, rfl, trivial⟩ ⟨⟨_, rfl, _, _, rfl, ren_str rfl (hC M3 hx_M3 0), _, _, rfl, .inl rfl, rfl⟩, ⟨_, rfl, _, _, rfl, rfl, _, _, rfl, rfl, _, _, rfl, rfl, _, _, rfl, rfl, _, _, rfl, rfl, _, _, rfl, rfl, _, _, rfl, rfl, _, _, rfl, rfl, _, _, rfl, rfl, _, _, rfl, rfl, _, _, rfl, .inl rfl, _, _, rfl, rfl, _, _, rfl, rfl, _, _, rfl, rfl, _, _, rfl, rfl, _, _, rfl, rfl, _, _, rfl, rfl, _, _, rfl, rfl, _, _, rfl, rfl, rfl⟩, ⟨_, rfl, _, _, rfl, rfl, rfl⟩, trivial⟩ (Pre_cut (by kernel_rfl)) (by kernel_rfl)
    ·refine Sat.go (Eq.refl _) (NS.need (by kernel_rfl) ?_)
     refine Sat.go (Eq.refl _) (NS.call (hR M3 hx_M3 1) rfl ?_)
     refine Sat.go (Eq.refl _) (NS.no (rfl) ?_)
     refine Sat.go (Eq.refl _) (NS.ite (fun we => ?_) (fun we => ?_))
     ·have we : rdE M3 1 ≠ 0 := by have we : (rdE M3 1 != 0) = true := we; simpa using we
      have wB : rdNs 4 M3 = none := rdNs_bad (by decide) we
      refine Sat.go (Eq.refl _) (NS.leave rfl (Eq.refl _) ?_)
      have hpn : parR L = none := by rw [hpr]; exact parS_bad3 tN vN wB
      refine Sat.go (Eq.refl _) (NS.call (hRT M3 hx_M3 _) rfl ?_)
      rw [hF, hpn]
      exact Sat.go (Eq.refl _) (NS.ret rfl rfl (LeA.refl _))
     ·have we : rdE M3 1 = 0 := by have we : (rdE M3 1 != 0) = false := we; simpa using we
      refine Sat.go (Eq.refl _) (NS.need (hS M3 hx_M3 1) ?_)
      refine Sat.go (Eq.refl _) (NS.next ⟨1 + 1, by omega, fun i hi => by rcases Nat.lt_succ_iff_lt_or_eq.1 hi with h | h; exact wE i h; rw [h]; exact we⟩ (by show 4 - (1 + 1) < 4 - 1; omega) ?_)
      exact weak_hd [] rfl ⟨rfl, rfl, rfl, rfl, trivial⟩ ⟨⟨_, rfl, _, _, rfl, ren_str rfl (hC M3 hx_M3 1), _, _, rfl, .inl rfl, rfl⟩, ⟨_, rfl, _, _, rfl, rfl, _, _, rfl, rfl, _, _, rfl, rfl, _, _, rfl, rfl, _, _, rfl, rfl, _, _, rfl, rfl, _, _, rfl, rfl, _, _, rfl, rfl, _, _, rfl, rfl, _, _, rfl, rfl, _, _, rfl, .inl rfl, _, _, rfl, rfl, _, _, rfl, rfl, _, _, rfl, rfl, _, _, rfl, rfl, _, _, rfl, rfl, _, _, rfl, rfl, _, _, rfl, rfl, _, _, rfl, rfl, rfl⟩, ⟨_, rfl, _, _, rfl, rfl, rfl⟩, trivial⟩ (Pre_cut (by kernel_rfl)) (by kernel_rfl)
    ·refine Sat.go (Eq.refl _) (NS.need (by kernel_rfl) ?_)
     refine Sat.go (Eq.refl _) (NS.call (hR M3 hx_M3 2) rfl ?_)
     refine Sat.go (Eq.refl _) (NS.no (rfl) ?_)
     refine Sat.go (Eq.refl _) (NS.ite (fun we => ?_) (fun we => ?_))
     ·have we : rdE M3 2 ≠ 0 := by have we : (rdE M3 2 != 0) = true := we; simpa using we
      have wB : rdNs 4 M3 = none := rdNs_bad (by decide) we
      refine Sat.go (Eq.refl _) (NS.leave rfl (Eq.refl _) ?_)
      have hpn : parR L = none := by rw [hpr]; exact parS_bad3 tN vN wB
      refine Sat.go (Eq.refl _) (NS.call (hRT M3 hx_M3 _) rfl ?_)
      rw [hF, hpn]
      exact Sat.go (Eq.refl _) (NS.ret rfl rfl (LeA.refl _))
     ·have we : rdE M3 2 = 0 := by have we : (rdE M3 2 != 0) = false := we; simpa using we
      refine Sat.go (Eq.refl _) (NS.need (hS M3 hx_M3 2) ?_)
      refine Sat.go (Eq.refl _) (NS.next ⟨2 + 1, by omega, fun i hi => by rcases Nat.lt_succ_iff_lt_or_eq.1 hi with h | h; exact wE i h; rw [h]; exact we⟩ (by show 4 - (2 + 1) < 4 - 2; omega) ?_)
      exact weak_hd [] rfl ⟨rfl, rfl, rfl, rfl, trivial⟩ ⟨⟨_, rfl, _, _, rfl, ren_str rfl (hC M3 hx_M3 2), _, _, rfl, .inl rfl, rfl⟩, ⟨_, rfl, _, _, rfl, rfl, _, _, rfl, rfl, _, _, rfl, rfl, _, _, rfl, rfl, _, _, rfl, rfl, _, _, rfl, rfl, _, _, rfl, rfl, _, _, rfl, rfl, _, _, rfl, rfl, _, _, rfl, rfl, _, _, rfl, .inl rfl, _, _, rfl, rfl, _, _, rfl, rfl, _, _, rfl, rfl, _, _, rfl, rfl, _, _, rfl, rfl, _, _, rfl, rfl, _, _, rfl, rfl, _, _, rfl, rfl, rfl⟩, ⟨_, rfl, _, _, rfl, rfl, rfl⟩, trivial⟩ (Pre_cut (by kernel_rfl)) (by kernel_rfl)
    ·refine Sat.go (Eq.refl _) (NS.need (by kernel_rfl) ?_)
     refine Sat.go (Eq.refl _) (NS.call (hR M3 hx_M3 3) rfl ?_)
     refine Sat.go (Eq.refl _) (NS.no (rfl) ?_)
     refine Sat.go (Eq.refl _) (NS.ite (fun we => ?_) (fun we => ?_))
     ·have we : rdE M3 3 ≠ 0 := by have we : (rdE M3 3 != 0) = true := we; simpa using we
      have wB : rdNs 4 M3 = none := rdNs_bad (by decide) we
      refine Sat.go (Eq.refl _) (NS.leave rfl (Eq.refl _) ?_)
      have hpn : parR L = none := by rw [hpr]; exact parS_bad3 tN vN wB
      refine Sat.go (Eq.refl _) (NS.call (hRT M3 hx_M3 _) rfl ?_)
      rw [hF, hpn]
      exact Sat.go (Eq.refl _) (NS.ret rfl rfl (LeA.refl _))
     ·have we : rdE M3 3 = 0 := by have we : (rdE M3 3 != 0) = false := we; simpa using we
      refine Sat.go (Eq.refl _) (NS.need (hS M3 hx_M3 3) ?_)
      refine Sat.go (Eq.refl _) (NS.next ⟨3 + 1, by omega, fun i hi => by rcases Nat.lt_succ_iff_lt_or_eq.1 hi with h | h; exact wE i h; rw [h]; exact we⟩ (by show 4 - (3 + 1) < 4 - 3; omega) ?_)
      exact weak_hd [] rfl ⟨rfl, rfl, rfl, rfl, trivial⟩ ⟨⟨_, rfl, _, _, rfl, ren_str rfl (hC M3 hx_M3 3), _, _, rfl, .inl rfl, rfl⟩, ⟨_, rfl, _, _, rfl, rfl, _, _, rfl, rfl, _, _, rfl, rfl, _, _, rfl, rfl, _, _, rfl, rfl, _, _, rfl, rfl, _, _, rfl, rfl, _, _, rfl, rfl, _, _, rfl, rfl, _, _, rfl, rfl, _, _, rfl, .inl rfl, _, _, rfl, rfl, _, _, rfl, rfl, _, _, rfl, rfl, _, _, rfl, rfl, _, _, rfl, rfl, _, _, rfl, rfl, _, _, rfl, rfl, _, _, rfl, rfl, rfl⟩, ⟨_, rfl, _, _, rfl, rfl, rfl⟩, trivial⟩ (Pre_cut (by kernel_rfl)) (by kernel_rfl)
   have wa : w = 4 := by have wa : decide ((w : Int) < 4) = false := wa; have := of_decide_eq_false wa; omega
   subst wa
   refine Sat.go (Eq.refl _) (NS.leave rfl (Eq.refl _) ?_)
   have wN : rdNs 4 M3 = some ((List.range 4).map (V M3), M3.drop (rdP M3 4)) := hAll _ _ wE
   obtain ⟨M4, hM4⟩ : ∃ M, M3.drop (rdP M3 4) = M := ⟨_, rfl⟩
   rw [hM4] at wN
   have hx_M4 : (∀ x ∈ M4, x < 256) ∧ M4.length ≤ 65536 := by rw [← hM4]; exact ⟨fun x hx => hx_M3.1 x (List.mem_of_mem_drop hx), by rw [List.length_drop]; have := hx_M3.2; omega⟩
   have hy_M4 : bs (M3.drop (rdP M3 4)) = bs M4 := congrArg bs hM4
   have hpo := hpr.trans (parS_ok' tN vN wN)
   have hRT4 : FnOK Tryz.prog 189 [.str (bs M4)] (.tup [.str (bs (rdT M4).1), .int .i64 ((rdT M4).2.1 : Nat), .int .i64 (rdT M4).2.2], none) := hRT M4 hx_M4 0
   refine Sat.go (Eq.refl _) (NS.call (hRT4.le (LeL.cons (LeA.of (congrArg A.str hy_M4)) LeL.nil)) rfl ?_)
   refine Sat.go (Eq.refl _) (NS.no (rfl) ?_)
   refine Sat.go (Eq.refl _) (NS.ite (fun te => ?_) (fun te => ?_))
   ·have te : ((rdT M4).2.2 != 0) = true := te
    rw [hF, hpo, if_pos (by rw [te]; rfl)]
    exact Sat.go (Eq.refl _) (NS.ret rfl rfl (LeA.refl _))
   have te : ((rdT M4).2.2 != 0) = false := te
   refine Sat.go (Eq.refl _) (NS.ite (fun c0 => ?_) (fun c0 => ?_))
   ·have c0 : V M3 3 < 0 := of_decide_eq_true c0
    rw [hF, hpo, if_pos (by rw [cu_bad (by omega)]; simp)]
    exact Sat.go (Eq.refl _) (NS.ret rfl rfl (LeA.refl _))
   have c0 : ¬ V M3 3 < 0 := of_decide_eq_false c0
   refine Sat.go (Eq.refl _) (NS.ite (fun c1 => ?_) (fun c1 => ?_))
   ·have c1 : V M3 3 > 1 := of_decide_eq_true c1
    rw [hF, hpo, if_pos (by rw [cu_bad (by omega)]; simp)]
    exact Sat.go (Eq.refl _) (NS.ret rfl rfl (LeA.refl _))
   have c1 : ¬ V M3 3 > 1 := of_decide_eq_false c1
   have cg : (!(V M3 3 == 0 || V M3 3 == 1)) = false := cu_good (by omega)
   have hri := rdT_in hx_M4.1
   refine Sat.go (Eq.refl _) (NS.need (by show decide ((0 : Int) ≤ ((rdT M4).2.1 : Nat) ∧ (((rdT M4).2.1 : Nat) : Int) ≤ ((bs (M3.drop (rdP M3 4))).size : Int) ∧ ((bs (M3.drop (rdP M3 4))).size : Int) ≤ ((bs (M3.drop (rdP M3 4))).size : Int)) = true; rw [hy_M4, bs_len]; exact decide_eq_true (by omega)) ?_)
   have hyz : (bs (M3.drop (rdP M3 4))).extract (((rdT M4).2.1 : Nat) : Int).toNat ((bs (M3.drop (rdP M3 4))).size : Int).toNat = bs (M4.drop (rdT M4).2.1) := by rw [hy_M4]; exact cut_bs hx_M4.1 _
   obtain ⟨rec, hrec⟩ : ∃ rec : Jrec, ⟨V L 0, ⟨V M1 0, ⟨V M2 0, V M2 1, V M2 2, V M2 3, V M2 4⟩, V M3 0, V M3 1, V M3 2, V M3 3 == 1, bs (rdT M4).1⟩, .zero, 0, V L 1⟩ = rec := ⟨_, rfl⟩
   have hcl : [A.int .i64 (V L 0), A.int .i64 (V M1 0), A.int .i64 (V M2 0), A.int .i64 (V M2 1), A.int .i64 (V M2 2), A.int .i64 (V M2 3), A.int .i64 (V M2 4), A.int .i64 (V M3 0), A.int .i64 (V M3 1), A.int .i64 (V M3 2), A.bool (V M3 3 == 1), A.str (bs (rdT M4).1), A.int .i64 0, A.int .i64 0, A.int .i64 0, A.int .i64 0, A.int .i64 0, A.int .i64 0, A.int .i64 (V L 1)] = rec.cells := by rw [← hrec]; rfl
   have hok : parR L = if (M4.drop (rdT M4).2.1).isEmpty then okR rec else none := by rw [hpo, ← hrec, te, cg]; exact if_text hri
   refine Sat.go (Eq.refl _) (NS.no (rfl) ?_)
   by_cases hz : M4.drop (rdT M4).2.1 = []
   ·refine Sat.go (Eq.refl _) (NS.no (by show (!(((bs (M3.drop (rdP M3 4))).extract (((rdT M4).2.1 : Nat) : Int).toNat ((bs (M3.drop (rdP M3 4))).size : Int).toNat).toList == (⟨#[]⟩ : ByteArray).toList)) = false; rw [hyz]; exact emp_f hz) ?_)
    refine Sat.go (Eq.refl _) (NS.call ((jCheck_ok rec).le (LeL.cons (LeA.of (congrArg A.agg hcl)) LeL.nil)) rfl ?_)
    by_cases hrc : recErr rec = 0
    ·refine Sat.go (Eq.refl _) (NS.no (by show (recErr rec != 0) = false; rw [hrc]; rfl) ?_)
     rw [hF, hok, if_pos (by rw [hz]; rfl), okR_some hrc]
     exact Sat.go (Eq.refl _) (NS.ret rfl rfl (LeA.tup3 (LeA.of (congrArg A.agg hcl)) (LeA.refl _) (LeA.kb true)))
    ·refine Sat.go (Eq.refl _) (NS.yes (by show (recErr rec != 0) = true; simpa using hrc) ?_)
     rw [hF, hok, if_pos (by rw [hz]; rfl), okR_none hrc]
     exact Sat.go (Eq.refl _) (NS.ret rfl rfl (LeA.refl _))
   ·refine Sat.go (Eq.refl _) (NS.yes (by show (!(((bs (M3.drop (rdP M3 4))).extract (((rdT M4).2.1 : Nat) : Int).toNat ((bs (M3.drop (rdP M3 4))).size : Int).toNat).toList == (⟨#[]⟩ : ByteArray).toList)) = true; rw [hyz]; exact emp_t hz) ?_)
    rw [hF, hok, if_neg (by intro h; exact hz (List.isEmpty_iff.1 h))]
    exact Sat.go (Eq.refl _) (NS.ret rfl rfl (LeA.refl _))
  ·refine Sat.go (Eq.refl _) (NS.no (by show ((gt 0 2 (V L 0) : Int) == 1) = false; exact hkq_1) ?_)
   refine Sat.go (Eq.refl _) (NS.yes (by show ((gt 0 2 (V L 0) : Int) == 3) = true; exact hkq_3) ?_)
   have hpr : parR L = parS (V L 0) (V L 1) M1 := parR_S' kN (by show stoK (V L 0) = true; rw [hkz]; rfl)
   refine Sat.go (Eq.refl _) ?_
   refine NS.loop (σ := { k : Nat // k ≤ 1 ∧ ∀ i, i < k → rdE M1 i = 0 }) (fun k => [(0, .ptr 21 0), (9, .ov 73 1 0 1), (10, .int .i64 1), (11, .int .i64 k.1)]) (fun k => [(21, .box [.str (bs (M1.drop (rdP M1 k.1))), .bool false]), (46, .box [.int .i64 (V L 0), .int .i64 (gt 0 k.1 (V M1 0)), .int .i64 0, .int .i64 0, .int .i64 0, .int .i64 0, .int .i64 0, .int .i64 0, .int .i64 0, .int .i64 0, .bool false, .str .empty, .int .i64 0, .int .i64 0, .int .i64 0, .int .i64 0, .int .i64 0, .int .i64 0, .int .i64 (V L 1)])]) (fun k => 1 - k.1) ⟨0, by omega, fun i hi => absurd hi (Nat.not_lt_zero _)⟩ ?_ ?_
   ·exact weak_hd [] rfl ⟨rfl, rfl, rfl, rfl, trivial⟩ ⟨⟨_, rfl, _, _, rfl, ren_str rfl hy_M1, _, _, rfl, .inl rfl, rfl⟩, ⟨_, rfl, _, _, rfl, rfl, _, _, rfl, rfl, _, _, rfl, rfl, _, _, rfl, rfl, _, _, rfl, rfl, _, _, rfl, rfl, _, _, rfl, rfl, _, _, rfl, rfl, _, _, rfl, rfl, _, _, rfl, rfl, _, _, rfl, .inl rfl, _, _, rfl, rfl, _, _, rfl, rfl, _, _, rfl, rfl, _, _, rfl, rfl, _, _, rfl, rfl, _, _, rfl, rfl, _, _, rfl, rfl, _, _, rfl, rfl, rfl⟩, trivial⟩ (Pre_cut (by kernel_rfl)) (by kernel_rfl)
   rintro ⟨t, tl, tE⟩
   have tE : ∀ i, i < t → rdE M1 i = 0 := tE
   have tl : t ≤ 1 := tl
   refine Sat.go (Eq.refl _) (NS.ite (fun ta => ?_) (fun ta => ?_))
   ·have ta : t < 1 := by have ta : decide ((t : Int) < 1) = true := ta; have := of_decide_eq_true ta; omega
    obtain rfl : t = 0 := by omega
    refine Sat.go (Eq.refl _) (NS.need (by kernel_rfl) ?_)
    refine Sat.go (Eq.refl _) (NS.call (hR M1 hx_M1 0) rfl ?_)
    refine Sat.go (Eq.refl _) (NS.no (rfl) ?_)
    refine Sat.go (Eq.refl _) (NS.ite (fun te => ?_) (fun te => ?_))
    ·have te : rdE M1 0 ≠ 0 := by have te : (rdE M1 0 != 0) = true := te; simpa using te
     have tB : rdNs 1 M1 = none := rdNs_bad (by decide) te
     refine Sat.go (Eq.refl _) (NS.leave rfl (Eq.refl _) ?_)
     have hpn : parR L = none := by rw [hpr]; exact parS_bad1 tB
     refine Sat.go (Eq.refl _) (NS.chk (by kernel_rfl) ?_)
     refine Sat.go (Eq.refl _) ?_
     refine NS.loop (σ := Unit) (fun _ => [(0, .ptr 21 0), (9, .ov 91 1 0 5), (10, .int .i64 5), (11, .int .i64 0)]) (fun _ => []) (fun _ => 0) () ?_ ?_
     ·exact weak_hd [] rfl ⟨rfl, rfl, rfl, rfl, trivial⟩ trivial (Pre_cut (by kernel_rfl)) (by kernel_rfl)
     rintro ⟨⟩
     refine Sat.go (Eq.refl _) (NS.yes (rfl) ?_)
     refine Sat.go (Eq.refl _) (NS.need (by kernel_rfl) ?_)
     refine Sat.go (Eq.refl _) (NS.call (hRI M1 hx_M1 _) rfl ?_)
     refine Sat.go (Eq.refl _) (NS.leave rfl (Eq.refl _) ?_)
     refine Sat.go (Eq.refl _) (NS.no (by show ((gt 0 2 (V L 0) : Int) == 4) = false; exact hkq_4) ?_)
     refine Sat.go (Eq.refl _) (NS.yes (by show ((gt 0 2 (V L 0) : Int) == 3) = true; exact hkq_3) ?_)
     refine Sat.go (Eq.refl _) ?_
     refine NS.loop (σ := Unit) (fun _ => [(0, .ptr 21 0), (9, .ov 108 1 0 4), (10, .int .i64 4), (11, .int .i64 0)]) (fun _ => []) (fun _ => 0) () ?_ ?_
     ·exact weak_hd [] rfl ⟨rfl, rfl, rfl, rfl, trivial⟩ trivial (Pre_cut (by kernel_rfl)) (by kernel_rfl)
     rintro ⟨⟩
     refine Sat.go (Eq.refl _) (NS.yes (rfl) ?_)
     refine Sat.go (Eq.refl _) (NS.need (by kernel_rfl) ?_)
     refine Sat.go (Eq.refl _) (NS.call (hRI M1 hx_M1 _) rfl ?_)
     refine Sat.go (Eq.refl _) (NS.leave rfl (Eq.refl _) ?_)
     refine Sat.go (Eq.refl _) (NS.call (hRT M1 hx_M1 _) rfl ?_)
     rw [hF, hpn]
     exact Sat.go (Eq.refl _) (NS.ret rfl rfl (LeA.refl _))
    ·have te : rdE M1 0 = 0 := by have te : (rdE M1 0 != 0) = false := te; simpa using te
     refine Sat.go (Eq.refl _) (NS.need (hS M1 hx_M1 0) ?_)
     refine Sat.go (Eq.refl _) (NS.next ⟨0 + 1, by omega, fun i hi => by rcases Nat.lt_succ_iff_lt_or_eq.1 hi with h | h; exact tE i h; rw [h]; exact te⟩ (by show 1 - (0 + 1) < 1 - 0; omega) ?_)
     exact weak_hd [] rfl ⟨rfl, rfl, rfl, rfl, trivial⟩ ⟨⟨_, rfl, _, _, rfl, ren_str rfl (hC M1 hx_M1 0), _, _, rfl, .inl rfl, rfl⟩, ⟨_, rfl, _, _, rfl, rfl, _, _, rfl, rfl, _, _, rfl, rfl, _, _, rfl, rfl, _, _, rfl, rfl, _, _, rfl, rfl, _, _, rfl, rfl, _, _, rfl, rfl, _, _, rfl, rfl, _, _, rfl, rfl, _, _, rfl, .inl rfl, _, _, rfl, rfl, _, _, rfl, rfl, _, _, rfl, rfl, _, _, rfl, rfl, _, _, rfl, rfl, _, _, rfl, rfl, _, _, rfl, rfl, _, _, rfl, rfl, rfl⟩, trivial⟩ (Pre_cut (by kernel_rfl)) (by kernel_rfl)
   have ta : t = 1 := by have ta : decide ((t : Int) < 1) = false := ta; have := of_decide_eq_false ta; omega
   subst ta
   refine Sat.go (Eq.refl _) (NS.leave rfl (Eq.refl _) ?_)
   have tN : rdNs 1 M1 = some ((List.range 1).map (V M1), M1.drop (rdP M1 1)) := hAll _ _ tE
   obtain ⟨M2, hM2⟩ : ∃ M, M1.drop (rdP M1 1) = M := ⟨_, rfl⟩
   rw [hM2] at tN
   have hx_M2 : (∀ x ∈ M2, x < 256) ∧ M2.length ≤ 65536 := by rw [← hM2]; exact ⟨fun x hx => hx_M1.1 x (List.mem_of_mem_drop hx), by rw [List.length_drop]; have := hx_M1.2; omega⟩
   have hy_M2 : bs (M1.drop (rdP M1 1)) = bs M2 := congrArg bs hM2
   refine Sat.go (Eq.refl _) (NS.chk (by kernel_rfl) ?_)
   refine Sat.go (Eq.refl _) ?_
   refine NS.loop (σ := { k : Nat // k ≤ 5 ∧ ∀ i, i < k → rdE M2 i = 0 }) (fun k => [(0, .ptr 21 0), (9, .ov 91 1 0 5), (10, .int .i64 5), (11, .int .i64 k.1)]) (fun k => [(21, .box [.str (bs (M2.drop (rdP M2 k.1))), .bool false]), (46, .box [.int .i64 (V L 0), .int .i64 (V M1 0), .int .i64 (gt 0 k.1 (V M2 0)), .int .i64 (gt 1 k.1 (V M2 1)), .int .i64 (gt 2 k.1 (V M2 2)), .int .i64 (gt 3 k.1 (V M2 3)), .int .i64 (gt 4 k.1 (V M2 4)), .int .i64 0, .int .i64 0, .int .i64 0, .bool false, .str .empty, .int .i64 0, .int .i64 0, .int .i64 0, .int .i64 0, .int .i64 0, .int .i64 0, .int .i64 (V L 1)])]) (fun k => 5 - k.1) ⟨0, by omega, fun i hi => absurd hi (Nat.not_lt_zero _)⟩ ?_ ?_
   ·exact weak_hd [] rfl ⟨rfl, rfl, rfl, rfl, trivial⟩ ⟨⟨_, rfl, _, _, rfl, ren_str rfl hy_M2, _, _, rfl, .inl rfl, rfl⟩, ⟨_, rfl, _, _, rfl, rfl, _, _, rfl, rfl, _, _, rfl, rfl, _, _, rfl, rfl, _, _, rfl, rfl, _, _, rfl, rfl, _, _, rfl, rfl, _, _, rfl, rfl, _, _, rfl, rfl, _, _, rfl, rfl, _, _, rfl, .inl rfl, _, _, rfl, rfl, _, _, rfl, rfl, _, _, rfl, rfl, _, _, rfl, rfl, _, _, rfl, rfl, _, _, rfl, rfl, _, _, rfl, rfl, _, _, rfl, rfl, rfl⟩, trivial⟩ (Pre_cut (by kernel_rfl)) (by kernel_rfl)
   rintro ⟨v, vl, vE⟩
   have vE : ∀ i, i < v → rdE M2 i = 0 := vE
   have vl : v ≤ 5 := vl
   refine Sat.go (Eq.refl _) (NS.ite (fun va => ?_) (fun va => ?_))
   ·have va : v < 5 := by have va : decide ((v : Int) < 5) = true := va; have := of_decide_eq_true va; omega
    rcases (by omega : v = 0 ∨ v = 1 ∨ v = 2 ∨ v = 3 ∨ v = 4) with rfl | rfl | rfl | rfl | rfl
    ·refine Sat.go (Eq.refl _) (NS.need (by kernel_rfl) ?_)
     refine Sat.go (Eq.refl _) (NS.call (hR M2 hx_M2 0) rfl ?_)
     refine Sat.go (Eq.refl _) (NS.no (rfl) ?_)
     refine Sat.go (Eq.refl _) (NS.ite (fun ve => ?_) (fun ve => ?_))
     ·have ve : rdE M2 0 ≠ 0 := by have ve : (rdE M2 0 != 0) = true := ve; simpa using ve
      have vB : rdNs 5 M2 = none := rdNs_bad (by decide) ve
      refine Sat.go (Eq.refl _) (NS.leave rfl (Eq.refl _) ?_)
      have hpn : parR L = none := by rw [hpr]; exact parS_bad2 tN vB
      refine Sat.go (Eq.refl _) (NS.no (by show ((gt 0 2 (V L 0) : Int) == 4) = false; exact hkq_4) ?_)
      refine Sat.go (Eq.refl _) (NS.yes (by show ((gt 0 2 (V L 0) : Int) == 3) = true; exact hkq_3) ?_)
      refine Sat.go (Eq.refl _) ?_
      refine NS.loop (σ := Unit) (fun _ => [(0, .ptr 21 0), (9, .ov 108 1 0 4), (10, .int .i64 4), (11, .int .i64 0)]) (fun _ => []) (fun _ => 0) () ?_ ?_
      ·exact weak_hd [] rfl ⟨rfl, rfl, rfl, rfl, trivial⟩ trivial (Pre_cut (by kernel_rfl)) (by kernel_rfl)
      rintro ⟨⟩
      refine Sat.go (Eq.refl _) (NS.yes (rfl) ?_)
      refine Sat.go (Eq.refl _) (NS.need (by kernel_rfl) ?_)
      refine Sat.go (Eq.refl _) (NS.call (hRI M2 hx_M2 _) rfl ?_)
      refine Sat.go (Eq.refl _) (NS.leave rfl (Eq.refl _) ?_)
      refine Sat.go (Eq.refl _) (NS.call (hRT M2 hx_M2 _) rfl ?_)
      rw [hF, hpn]
      exact Sat.go (Eq.refl _) (NS.ret rfl rfl (LeA.refl _))
     ·have ve : rdE M2 0 = 0 := by have ve : (rdE M2 0 != 0) = false := ve; simpa using ve
      refine Sat.go (Eq.refl _) (NS.need (hS M2 hx_M2 0) ?_)
      refine Sat.go (Eq.refl _) (NS.next ⟨0 + 1, by omega, fun i hi => by rcases Nat.lt_succ_iff_lt_or_eq.1 hi with h | h; exact vE i h; rw [h]; exact ve⟩ (by show 5 - (0 + 1) < 5 - 0; omega) ?_)
      exact weak_hd [] rfl ⟨rfl, rfl, rfl, rfl, trivial⟩ ⟨⟨_, rfl, _, _, rfl, ren_str rfl (hC M2 hx_M2 0), _, _, rfl, .inl rfl, rfl⟩, ⟨_, rfl, _, _, rfl, rfl, _, _, rfl, rfl, _, _, rfl, rfl, _, _, rfl, rfl, _, _, rfl, rfl, _, _, rfl, rfl, _, _, rfl, rfl, _, _, rfl, rfl, _, _, rfl, rfl, _, _, rfl, rfl, _, _, rfl, .inl rfl, _, _, rfl, rfl, _, _, rfl, rfl, _, _, rfl, rfl, _, _, rfl, rfl, _, _, rfl, rfl, _, _, rfl, rfl, _, _, rfl, rfl, _, _, rfl, rfl, rfl⟩, trivial⟩ (Pre_cut (by kernel_rfl)) (by kernel_rfl)
    ·refine Sat.go (Eq.refl _) (NS.need (by kernel_rfl) ?_)
     refine Sat.go (Eq.refl _) (NS.call (hR M2 hx_M2 1) rfl ?_)
     refine Sat.go (Eq.refl _) (NS.no (rfl) ?_)
     refine Sat.go (Eq.refl _) (NS.ite (fun ve => ?_) (fun ve => ?_))
     ·have ve : rdE M2 1 ≠ 0 := by have ve : (rdE M2 1 != 0) = true := ve; simpa using ve
      have vB : rdNs 5 M2 = none := rdNs_bad (by decide) ve
      refine Sat.go (Eq.refl _) (NS.leave rfl (Eq.refl _) ?_)
      have hpn : parR L = none := by rw [hpr]; exact parS_bad2 tN vB
      refine Sat.go (Eq.refl _) (NS.no (by show ((gt 0 2 (V L 0) : Int) == 4) = false; exact hkq_4) ?_)
      refine Sat.go (Eq.refl _) (NS.yes (by show ((gt 0 2 (V L 0) : Int) == 3) = true; exact hkq_3) ?_)
      refine Sat.go (Eq.refl _) ?_
      refine NS.loop (σ := Unit) (fun _ => [(0, .ptr 21 0), (9, .ov 108 1 0 4), (10, .int .i64 4), (11, .int .i64 0)]) (fun _ => []) (fun _ => 0) () ?_ ?_
      ·exact weak_hd [] rfl ⟨rfl, rfl, rfl, rfl, trivial⟩ trivial (Pre_cut (by kernel_rfl)) (by kernel_rfl)
      rintro ⟨⟩
      refine Sat.go (Eq.refl _) (NS.yes (rfl) ?_)
      refine Sat.go (Eq.refl _) (NS.need (by kernel_rfl) ?_)
      refine Sat.go (Eq.refl _) (NS.call (hRI M2 hx_M2 _) rfl ?_)
      refine Sat.go (Eq.refl _) (NS.leave rfl (Eq.refl _) ?_)
      refine Sat.go (Eq.refl _) (NS.call (hRT M2 hx_M2 _) rfl ?_)
      rw [hF, hpn]
      exact Sat.go (Eq.refl _) (NS.ret rfl rfl (LeA.refl _))
     ·have ve : rdE M2 1 = 0 := by have ve : (rdE M2 1 != 0) = false := ve; simpa using ve
      refine Sat.go (Eq.refl _) (NS.need (hS M2 hx_M2 1) ?_)
      refine Sat.go (Eq.refl _) (NS.next ⟨1 + 1, by omega, fun i hi => by rcases Nat.lt_succ_iff_lt_or_eq.1 hi with h | h; exact vE i h; rw [h]; exact ve⟩ (by show 5 - (1 + 1) < 5 - 1; omega) ?_)
      exact weak_hd [] rfl ⟨rfl, rfl, rfl, rfl, trivial⟩ ⟨⟨_, rfl, _, _, rfl, ren_str rfl (hC M2 hx_M2 1), _, _, rfl, .inl rfl, rfl⟩, ⟨_, rfl, _, _, rfl, rfl, _, _, rfl, rfl, _, _, rfl, rfl, _, _, rfl, rfl, _, _, rfl, rfl, _, _, rfl, rfl, _, _, rfl, rfl, _, _, rfl, rfl, _, _, rfl, rfl, _, _, rfl, rfl, _, _, rfl, .inl rfl, _, _, rfl, rfl, _, _, rfl, rfl, _, _, rfl, rfl, _, _, rfl, rfl, _, _, rfl, rfl, _, _, rfl, rfl, _, _, rfl, rfl, _, _, rfl, rfl, rfl⟩, trivial⟩ (Pre_cut (by kernel_rfl)) (by kernel_rfl)
    ·refine Sat.go (Eq.refl _) (NS.need (by kernel_rfl) ?_)
     refine Sat.go (Eq.refl _) (NS.call (hR M2 hx_M2 2) rfl ?_)
     refine Sat.go (Eq.refl _) (NS.no (rfl) ?_)
     refine Sat.go (Eq.refl _) (NS.ite (fun ve => ?_) (fun ve => ?_))
     ·have ve : rdE M2 2 ≠ 0 := by have ve : (rdE M2 2 != 0) = true := ve; simpa using ve
      have vB : rdNs 5 M2 = none := rdNs_bad (by decide) ve
      refine Sat.go (Eq.refl _) (NS.leave rfl (Eq.refl _) ?_)
      have hpn : parR L = none := by rw [hpr]; exact parS_bad2 tN vB
      refine Sat.go (Eq.refl _) (NS.no (by show ((gt 0 2 (V L 0) : Int) == 4) = false; exact hkq_4) ?_)
      refine Sat.go (Eq.refl _) (NS.yes (by show ((gt 0 2 (V L 0) : Int) == 3) = true; exact hkq_3) ?_)
      refine Sat.go (Eq.refl _) ?_
      refine NS.loop (σ := Unit) (fun _ => [(0, .ptr 21 0), (9, .ov 108 1 0 4), (10, .int .i64 4), (11, .int .i64 0)]) (fun _ => []) (fun _ => 0) () ?_ ?_
      ·exact weak_hd [] rfl ⟨rfl, rfl, rfl, rfl, trivial⟩ trivial (Pre_cut (by kernel_rfl)) (by kernel_rfl)
      rintro ⟨⟩
      refine Sat.go (Eq.refl _) (NS.yes (rfl) ?_)
      refine Sat.go (Eq.refl _) (NS.need (by kernel_rfl) ?_)
      refine Sat.go (Eq.refl _) (NS.call (hRI M2 hx_M2 _) rfl ?_)
      refine Sat.go (Eq.refl _) (NS.leave rfl (Eq.refl _) ?_)
      refine Sat.go (Eq.refl _) (NS.call (hRT M2 hx_M2 _) rfl ?_)
      rw [hF, hpn]
      exact Sat.go (Eq.refl _) (NS.ret rfl rfl (LeA.refl _))
     ·have ve : rdE M2 2 = 0 := by have ve : (rdE M2 2 != 0) = false := ve; simpa using ve
      refine Sat.go (Eq.refl _) (NS.need (hS M2 hx_M2 2) ?_)
      refine Sat.go (Eq.refl _) (NS.next ⟨2 + 1, by omega, fun i hi => by rcases Nat.lt_succ_iff_lt_or_eq.1 hi with h | h; exact vE i h; rw [h]; exact ve⟩ (by show 5 - (2 + 1) < 5 - 2; omega) ?_)
      exact weak_hd [] rfl ⟨rfl, rfl, rfl, rfl, trivial⟩ ⟨⟨_, rfl, _, _, rfl, ren_str rfl (hC M2 hx_M2 2), _, _, rfl, .inl rfl, rfl⟩, ⟨_, rfl, _, _, rfl, rfl, _, _, rfl, rfl, _, _, rfl, rfl, _, _, rfl, rfl, _, _, rfl, rfl, _, _, rfl, rfl, _, _, rfl, rfl, _, _, rfl, rfl, _, _, rfl, rfl, _, _, rfl, rfl, _, _, rfl, .inl rfl, _, _, rfl, rfl, _, _, rfl, rfl, _, _, rfl, rfl, _, _, rfl, rfl, _, _, rfl, rfl, _, _, rfl, rfl, _, _, rfl, rfl, _, _, rfl, rfl, rfl⟩, trivial⟩ (Pre_cut (by kernel_rfl)) (by kernel_rfl)
    ·refine Sat.go (Eq.refl _) (NS.need (by kernel_rfl) ?_)
     refine Sat.go (Eq.refl _) (NS.call (hR M2 hx_M2 3) rfl ?_)
     refine Sat.go (Eq.refl _) (NS.no (rfl) ?_)
     refine Sat.go (Eq.refl _) (NS.ite (fun ve => ?_) (fun ve => ?_))
     ·have ve : rdE M2 3 ≠ 0 := by have ve : (rdE M2 3 != 0) = true := ve; simpa using ve
      have vB : rdNs 5 M2 = none := rdNs_bad (by decide) ve
      refine Sat.go (Eq.refl _) (NS.leave rfl (Eq.refl _) ?_)
      have hpn : parR L = none := by rw [hpr]; exact parS_bad2 tN vB
      refine Sat.go (Eq.refl _) (NS.no (by show ((gt 0 2 (V L 0) : Int) == 4) = false; exact hkq_4) ?_)
      refine Sat.go (Eq.refl _) (NS.yes (by show ((gt 0 2 (V L 0) : Int) == 3) = true; exact hkq_3) ?_)
      refine Sat.go (Eq.refl _) ?_
      refine NS.loop (σ := Unit) (fun _ => [(0, .ptr 21 0), (9, .ov 108 1 0 4), (10, .int .i64 4), (11, .int .i64 0)]) (fun _ => []) (fun _ => 0) () ?_ ?_
      ·exact weak_hd [] rfl ⟨rfl, rfl, rfl, rfl, trivial⟩ trivial (Pre_cut (by kernel_rfl)) (by kernel_rfl)
      rintro ⟨⟩
      refine Sat.go (Eq.refl _) (NS.yes (rfl) ?_)
      refine Sat.go (Eq.refl _) (NS.need (by kernel_rfl) ?_)
      refine Sat.go (Eq.refl _) (NS.call (hRI M2 hx_M2 _) rfl ?_)
      refine Sat.go (Eq.refl _) (NS.leave rfl (Eq.refl _) ?_)
      refine Sat.go (Eq.refl _) (NS.call (hRT M2 hx_M2 _) rfl ?_)
      rw [hF, hpn]
      exact Sat.go (Eq.refl _) (NS.ret rfl rfl (LeA.refl _))
     ·have ve : rdE M2 3 = 0 := by have ve : (rdE M2 3 != 0) = false := ve; simpa using ve
      refine Sat.go (Eq.refl _) (NS.need (hS M2 hx_M2 3) ?_)
      refine Sat.go (Eq.refl _) (NS.next ⟨3 + 1, by omega, fun i hi => by rcases Nat.lt_succ_iff_lt_or_eq.1 hi with h | h; exact vE i h; rw [h]; exact ve⟩ (by show 5 - (3 + 1) < 5 - 3; omega) ?_)
      exact weak_hd [] rfl ⟨rfl, rfl, rfl, rfl, trivial⟩ ⟨⟨_, rfl, _, _, rfl, ren_str rfl (hC M2 hx_M2 3), _, _, rfl, .inl rfl, rfl⟩, ⟨_, rfl, _, _, rfl, rfl, _, _, rfl, rfl, _, _, rfl, rfl, _, _, rfl, rfl, _, _, rfl, rfl, _, _, rfl, rfl, _, _, rfl, rfl, _, _, rfl, rfl, _, _, rfl, rfl, _, _, rfl, rfl, _, _, rfl, .inl rfl, _, _, rfl, rfl, _, _, rfl, rfl, _, _, rfl, rfl, _, _, rfl, rfl, _, _, rfl, rfl, _, _, rfl, rfl, _, _, rfl, rfl, _, _, rfl, rfl, rfl⟩, trivial⟩ (Pre_cut (by kernel_rfl)) (by kernel_rfl)
    ·refine Sat.go (Eq.refl _) (NS.need (by kernel_rfl) ?_)
     refine Sat.go (Eq.refl _) (NS.call (hR M2 hx_M2 4) rfl ?_)
     refine Sat.go (Eq.refl _) (NS.no (rfl) ?_)
     refine Sat.go (Eq.refl _) (NS.ite (fun ve => ?_) (fun ve => ?_))
     ·have ve : rdE M2 4 ≠ 0 := by have ve : (rdE M2 4 != 0) = true := ve; simpa using ve
      have vB : rdNs 5 M2 = none := rdNs_bad (by decide) ve
      refine Sat.go (Eq.refl _) (NS.leave rfl (Eq.refl _) ?_)
      have hpn : parR L = none := by rw [hpr]; exact parS_bad2 tN vB
      refine Sat.go (Eq.refl _) (NS.no (by show ((gt 0 2 (V L 0) : Int) == 4) = false; exact hkq_4) ?_)
      refine Sat.go (Eq.refl _) (NS.yes (by show ((gt 0 2 (V L 0) : Int) == 3) = true; exact hkq_3) ?_)
      refine Sat.go (Eq.refl _) ?_
      refine NS.loop (σ := Unit) (fun _ => [(0, .ptr 21 0), (9, .ov 108 1 0 4), (10, .int .i64 4), (11, .int .i64 0)]) (fun _ => []) (fun _ => 0) () ?_ ?_
      ·exact weak_hd [] rfl ⟨rfl, rfl, rfl, rfl, trivial⟩ trivial (Pre_cut (by kernel_rfl)) (by kernel_rfl)
      rintro ⟨⟩
      refine Sat.go (Eq.refl _) (NS.yes (rfl) ?_)
      refine Sat.go (Eq.refl _) (NS.need (by kernel_rfl) ?_)
      refine Sat.go (Eq.refl _) (NS.call (hRI M2 hx_M2 _) rfl ?_)
      refine Sat.go (Eq.refl _) (NS.leave rfl (Eq.refl _) ?_)
      refine Sat.go (Eq.refl _) (NS.call (hRT M2 hx_M2 _) rfl ?_)
      rw [hF, hpn]
      exact Sat.go (Eq.refl _) (NS.ret rfl rfl (LeA.refl _))
     ·have ve : rdE M2 4 = 0 := by have ve : (rdE M2 4 != 0) = false := ve; simpa using ve
      refine Sat.go (Eq.refl _) (NS.need (hS M2 hx_M2 4) ?_)
      refine Sat.go (Eq.refl _) (NS.next ⟨4 + 1, by omega, fun i hi => by rcases Nat.lt_succ_iff_lt_or_eq.1 hi with h | h; exact vE i h; rw [h]; exact ve⟩ (by show 5 - (4 + 1) < 5 - 4; omega) ?_)
      exact weak_hd [] rfl ⟨rfl, rfl, rfl, rfl, trivial⟩ ⟨⟨_, rfl, _, _, rfl, ren_str rfl (hC M2 hx_M2 4), _, _, rfl, .inl rfl, rfl⟩, ⟨_, rfl, _, _, rfl, rfl, _, _, rfl, rfl, _, _, rfl, rfl, _, _, rfl, rfl, _, _, rfl, rfl, _, _, rfl, rfl, _, _, rfl, rfl, _, _, rfl, rfl, _, _, rfl, rfl, _, _, rfl, rfl, _, _, rfl, .inl rfl, _, _, rfl, rfl, _, _, rfl, rfl, _, _, rfl, rfl, _, _, rfl, rfl, _, _, rfl, rfl, _, _, rfl, rfl, _, _, rfl, rfl, _, _, rfl, rfl, rfl⟩, trivial⟩ (Pre_cut (by kernel_rfl)) (by kernel_rfl)
   have va : v = 5 := by have va : decide ((v : Int) < 5) = false := va; have := of_decide_eq_false va; omega
   subst va
   refine Sat.go (Eq.refl _) (NS.leave rfl (Eq.refl _) ?_)
   have vN : rdNs 5 M2 = some ((List.range 5).map (V M2), M2.drop (rdP M2 5)) := hAll _ _ vE
   obtain ⟨M3, hM3⟩ : ∃ M, M2.drop (rdP M2 5) = M := ⟨_, rfl⟩
   rw [hM3] at vN
   have hx_M3 : (∀ x ∈ M3, x < 256) ∧ M3.length ≤ 65536 := by rw [← hM3]; exact ⟨fun x hx => hx_M2.1 x (List.mem_of_mem_drop hx), by rw [List.length_drop]; have := hx_M2.2; omega⟩
   have hy_M3 : bs (M2.drop (rdP M2 5)) = bs M3 := congrArg bs hM3
   refine Sat.go (Eq.refl _) (NS.no (by show ((gt 0 2 (V L 0) : Int) == 4) = false; exact hkq_4) ?_)
   refine Sat.go (Eq.refl _) (NS.yes (by show ((gt 0 2 (V L 0) : Int) == 3) = true; exact hkq_3) ?_)
   refine Sat.go (Eq.refl _) ?_
   refine NS.loop (σ := { k : Nat // k ≤ 4 ∧ ∀ i, i < k → rdE M3 i = 0 }) (fun k => [(0, .ptr 21 0), (9, .ov 108 1 0 4), (10, .int .i64 4), (11, .int .i64 k.1)]) (fun k => [(21, .box [.str (bs (M3.drop (rdP M3 k.1))), .bool false]), (46, .box [.int .i64 (V L 0), .int .i64 (V M1 0), .int .i64 (V M2 0), .int .i64 (V M2 1), .int .i64 (V M2 2), .int .i64 (V M2 3), .int .i64 (V M2 4), .int .i64 (gt 0 k.1 (V M3 0)), .int .i64 (gt 1 k.1 (V M3 1)), .int .i64 (gt 2 k.1 (V M3 2)), .bool false, .str .empty, .int .i64 0, .int .i64 0, .int .i64 0, .int .i64 0, .int .i64 0, .int .i64 0, .int .i64 (V L 1)]), (49, .box [.int .i64 (gt 3 k.1 (V M3 3))])]) (fun k => 4 - k.1) ⟨0, by omega, fun i hi => absurd hi (Nat.not_lt_zero _)⟩ ?_ ?_
   ·exact weak_hd [] rfl ⟨rfl, rfl, rfl, rfl, trivial⟩ ⟨⟨_, rfl, _, _, rfl, ren_str rfl hy_M3, _, _, rfl, .inl rfl, rfl⟩, ⟨_, rfl, _, _, rfl, rfl, _, _, rfl, rfl, _, _, rfl, rfl, _, _, rfl, rfl, _, _, rfl, rfl, _, _, rfl, rfl, _, _, rfl, rfl, _, _, rfl, rfl, _, _, rfl, rfl, _, _, rfl, rfl, _, _, rfl, .inl rfl, _, _, rfl, rfl, _, _, rfl, rfl, _, _, rfl, rfl, _, _, rfl, rfl, _, _, rfl, rfl, _, _, rfl, rfl, _, _, rfl, rfl, _, _, rfl, rfl, rfl⟩, ⟨_, rfl, _, _, rfl, rfl, rfl⟩, trivial⟩ (Pre_cut (by kernel_rfl)) (by kernel_rfl)
   rintro ⟨w, wl, wE⟩
   have wE : ∀ i, i < w → rdE M3 i = 0 := wE
   have wl : w ≤ 4 := wl
   refine Sat.go (Eq.refl _) (NS.ite (fun wa => ?_) (fun wa => ?_))
   ·have wa : w < 4 := by have wa : decide ((w : Int) < 4) = true := wa; have := of_decide_eq_true wa; omega
    rcases (by omega : w = 0 ∨ w = 1 ∨ w = 2 ∨ w = 3) with rfl | rfl | rfl | rfl
    ·refine Sat.go (Eq.refl _) (NS.need (by kernel_rfl) ?_)
     refine Sat.go (Eq.refl _) (NS.call (hR M3 hx_M3 0) rfl ?_)
     refine Sat.go (Eq.refl _) (NS.no (rfl) ?_)
     refine Sat.go (Eq.refl _) (NS.ite (fun we => ?_) (fun we => ?_))
     ·have we : rdE M3 0 ≠ 0 := by have we : (rdE M3 0 != 0) = true := we; simpa using we
      have wB : rdNs 4 M3 = none := rdNs_bad (by decide) we
      refine Sat.go (Eq.refl _) (NS.leave rfl (Eq.refl _) ?_)
      have hpn : parR L = none := by rw [hpr]; exact parS_bad3 tN vN wB
      refine Sat.go (Eq.refl _) (NS.call (hRT M3 hx_M3 _) rfl ?_)
      rw [hF, hpn]
      exact Sat.go (Eq.refl _) (NS.ret rfl rfl (LeA.refl _))
     ·have we : rdE M3 0 = 0 := by have we : (rdE M3 0 != 0) = false := we; simpa using we
      refine Sat.go (Eq.refl _) (NS.need (hS M3 hx_M3 0) ?_)
      refine Sat.go (Eq.refl _) (NS.next ⟨0 + 1, by omega, fun i hi => by rcases Nat.lt_succ_iff_lt_or_eq.1 hi with h | h; exact wE i h; rw [h]; exact we⟩ (by show 4 - (0 + 1) < 4 - 0; omega) ?_)
      exact weak_hd [] rfl ⟨rfl, rfl, rfl, rfl, trivial⟩ ⟨⟨_, rfl, _, _, rfl, ren_str rfl (hC M3 hx_M3 0), _, _, rfl, .inl rfl, rfl⟩, ⟨_, rfl, _, _, rfl, rfl, _, _, rfl, rfl, _, _, rfl, rfl, _, _, rfl, rfl, _, _, rfl, rfl, _, _, rfl, rfl, _, _, rfl, rfl, _, _, rfl, rfl, _, _, rfl, rfl, _, _, rfl, rfl, _, _, rfl, .inl rfl, _, _, rfl, rfl, _, _, rfl, rfl, _, _, rfl, rfl, _, _, rfl, rfl, _, _, rfl, rfl, _, _, rfl, rfl, _, _, rfl, rfl, _, _, rfl, rfl, rfl⟩, ⟨_, rfl, _, _, rfl, rfl, rfl⟩, trivial⟩ (Pre_cut (by kernel_rfl)) (by kernel_rfl)
    ·refine Sat.go (Eq.refl _) (NS.need (by kernel_rfl) ?_)
     refine Sat.go (Eq.refl _) (NS.call (hR M3 hx_M3 1) rfl ?_)
     refine Sat.go (Eq.refl _) (NS.no (rfl) ?_)
     refine Sat.go (Eq.refl _) (NS.ite (fun we => ?_) (fun we => ?_))
     ·have we : rdE M3 1 ≠ 0 := by have we : (rdE M3 1 != 0) = true := we; simpa using we
      have wB : rdNs 4 M3 = none := rdNs_bad (by decide) we
      refine Sat.go (Eq.refl _) (NS.leave rfl (Eq.refl _) ?_)
      have hpn : parR L = none := by rw [hpr]; exact parS_bad3 tN vN wB
      refine Sat.go (Eq.refl _) (NS.call (hRT M3 hx_M3 _) rfl ?_)
      rw [hF, hpn]
      exact Sat.go (Eq.refl _) (NS.ret rfl rfl (LeA.refl _))
     ·have we : rdE M3 1 = 0 := by have we : (rdE M3 1 != 0) = false := we; simpa using we
      refine Sat.go (Eq.refl _) (NS.need (hS M3 hx_M3 1) ?_)
      refine Sat.go (Eq.refl _) (NS.next ⟨1 + 1, by omega, fun i hi => by rcases Nat.lt_succ_iff_lt_or_eq.1 hi with h | h; exact wE i h; rw [h]; exact we⟩ (by show 4 - (1 + 1) < 4 - 1; omega) ?_)
      exact weak_hd [] rfl ⟨rfl, rfl, rfl, rfl, trivial⟩ ⟨⟨_, rfl, _, _, rfl, ren_str rfl (hC M3 hx_M3 1), _, _, rfl, .inl rfl, rfl⟩, ⟨_, rfl, _, _, rfl, rfl, _, _, rfl, rfl, _, _, rfl, rfl, _, _, rfl, rfl, _, _, rfl, rfl, _, _, rfl, rfl, _, _, rfl, rfl, _, _, rfl, rfl, _, _, rfl, rfl, _, _, rfl, rfl, _, _, rfl, .inl rfl, _, _, rfl, rfl, _, _, rfl, rfl, _, _, rfl, rfl, _, _, rfl, rfl, _, _, rfl, rfl, _, _, rfl, rfl, _, _, rfl, rfl, _, _, rfl, rfl, rfl⟩, ⟨_, rfl, _, _, rfl, rfl, rfl⟩, trivial⟩ (Pre_cut (by kernel_rfl)) (by kernel_rfl)
    ·refine Sat.go (Eq.refl _) (NS.need (by kernel_rfl) ?_)
     refine Sat.go (Eq.refl _) (NS.call (hR M3 hx_M3 2) rfl ?_)
     refine Sat.go (Eq.refl _) (NS.no (rfl) ?_)
     refine Sat.go (Eq.refl _) (NS.ite (fun we => ?_) (fun we => ?_))
     ·have we : rdE M3 2 ≠ 0 := by have we : (rdE M3 2 != 0) = true := we; simpa using we
      have wB : rdNs 4 M3 = none := rdNs_bad (by decide) we
      refine Sat.go (Eq.refl _) (NS.leave rfl (Eq.refl _) ?_)
      have hpn : parR L = none := by rw [hpr]; exact parS_bad3 tN vN wB
      refine Sat.go (Eq.refl _) (NS.call (hRT M3 hx_M3 _) rfl ?_)
      rw [hF, hpn]
      exact Sat.go (Eq.refl _) (NS.ret rfl rfl (LeA.refl _))
     ·have we : rdE M3 2 = 0 := by have we : (rdE M3 2 != 0) = false := we; simpa using we
      refine Sat.go (Eq.refl _) (NS.need (hS M3 hx_M3 2) ?_)
      refine Sat.go (Eq.refl _) (NS.next ⟨2 + 1, by omega, fun i hi => by rcases Nat.lt_succ_iff_lt_or_eq.1 hi with h | h; exact wE i h; rw [h]; exact we⟩ (by show 4 - (2 + 1) < 4 - 2; omega) ?_)
      exact weak_hd [] rfl ⟨rfl, rfl, rfl, rfl, trivial⟩ ⟨⟨_, rfl, _, _, rfl, ren_str rfl (hC M3 hx_M3 2), _, _, rfl, .inl rfl, rfl⟩, ⟨_, rfl, _, _, rfl, rfl, _, _, rfl, rfl, _, _, rfl, rfl, _, _, rfl, rfl, _, _, rfl, rfl, _, _, rfl, rfl, _, _, rfl, rfl, _, _, rfl, rfl, _, _, rfl, rfl, _, _, rfl, rfl, _, _, rfl, .inl rfl, _, _, rfl, rfl, _, _, rfl, rfl, _, _, rfl, rfl, _, _, rfl, rfl, _, _, rfl, rfl, _, _, rfl, rfl, _, _, rfl, rfl, _, _, rfl, rfl, rfl⟩, ⟨_, rfl, _, _, rfl, rfl, rfl⟩, trivial⟩ (Pre_cut (by kernel_rfl)) (by kernel_rfl)
    ·refine Sat.go (Eq.refl _) (NS.need (by kernel_rfl) ?_)
     refine Sat.go (Eq.refl _) (NS.call (hR M3 hx_M3 3) rfl ?_)
     refine Sat.go (Eq.refl _) (NS.no (rfl) ?_)
     refine Sat.go (Eq.refl _) (NS.ite (fun we => ?_) (fun we => ?_))
     ·have we : rdE M3 3 ≠ 0 := by have we : (rdE M3 3 != 0) = true := we; simpa using we
      have wB : rdNs 4 M3 = none := rdNs_bad (by decide) we
      refine Sat.go (Eq.refl _) (NS.leave rfl (Eq.refl _) ?_)
      have hpn : parR L = none := by rw [hpr]; exact parS_bad3 tN vN wB
      refine Sat.go (Eq.refl _) (NS.call (hRT M3 hx_M3 _) rfl ?_)
      rw [hF, hpn]
      exact Sat.go (Eq.refl _) (NS.ret rfl rfl (LeA.refl _))
     ·have we : rdE M3 3 = 0 := by have we : (rdE M3 3 != 0) = false := we; simpa using we
      refine Sat.go (Eq.refl _) (NS.need (hS M3 hx_M3 3) ?_)
      refine Sat.go (Eq.refl _) (NS.next ⟨3 + 1, by omega, fun i hi => by rcases Nat.lt_succ_iff_lt_or_eq.1 hi with h | h; exact wE i h; rw [h]; exact we⟩ (by show 4 - (3 + 1) < 4 - 3; omega) ?_)
      exact weak_hd [] rfl ⟨rfl, rfl, rfl, rfl, trivial⟩ ⟨⟨_, rfl, _, _, rfl, ren_str rfl (hC M3 hx_M3 3), _, _, rfl, .inl rfl, rfl⟩, ⟨_, rfl, _, _, rfl, rfl, _, _, rfl, rfl, _, _, rfl, rfl, _, _, rfl, rfl, _, _, rfl, rfl, _, _, rfl, rfl, _, _, rfl, rfl, _, _, rfl, rfl, _, _, rfl, rfl, _, _, rfl, rfl, _, _, rfl, .inl rfl, _, _, rfl, rfl, _, _, rfl, rfl, _, _, rfl, rfl, _, _, rfl, rfl, _, _, rfl, rfl, _, _, rfl, rfl, _, _, rfl, rfl, _, _, rfl, rfl, rfl⟩, ⟨_, rfl, _, _, rfl, rfl, rfl⟩, trivial⟩ (Pre_cut (by kernel_rfl)) (by kernel_rfl)
   have wa : w = 4 := by have wa : decide ((w : Int) < 4) = false := wa; have := of_decide_eq_false wa; omega
   subst wa
   refine Sat.go (Eq.refl _) (NS.leave rfl (Eq.refl _) ?_)
   have wN : rdNs 4 M3 = some ((List.range 4).map (V M3), M3.drop (rdP M3 4)) := hAll _ _ wE
   obtain ⟨M4, hM4⟩ : ∃ M, M3.drop (rdP M3 4) = M := ⟨_, rfl⟩
   rw [hM4] at wN
   have hx_M4 : (∀ x ∈ M4, x < 256) ∧ M4.length ≤ 65536 := by rw [← hM4]; exact ⟨fun x hx => hx_M3.1 x (List.mem_of_mem_drop hx), by rw [List.length_drop]; have := hx_M3.2; omega⟩
   have hy_M4 : bs (M3.drop (rdP M3 4)) = bs M4 := congrArg bs hM4
   have hpo := hpr.trans (parS_ok' tN vN wN)
   have hRT4 : FnOK Tryz.prog 189 [.str (bs M4)] (.tup [.str (bs (rdT M4).1), .int .i64 ((rdT M4).2.1 : Nat), .int .i64 (rdT M4).2.2], none) := hRT M4 hx_M4 0
   refine Sat.go (Eq.refl _) (NS.call (hRT4.le (LeL.cons (LeA.of (congrArg A.str hy_M4)) LeL.nil)) rfl ?_)
   refine Sat.go (Eq.refl _) (NS.no (rfl) ?_)
   refine Sat.go (Eq.refl _) (NS.ite (fun te => ?_) (fun te => ?_))
   ·have te : ((rdT M4).2.2 != 0) = true := te
    rw [hF, hpo, if_pos (by rw [te]; rfl)]
    exact Sat.go (Eq.refl _) (NS.ret rfl rfl (LeA.refl _))
   have te : ((rdT M4).2.2 != 0) = false := te
   refine Sat.go (Eq.refl _) (NS.ite (fun c0 => ?_) (fun c0 => ?_))
   ·have c0 : V M3 3 < 0 := of_decide_eq_true c0
    rw [hF, hpo, if_pos (by rw [cu_bad (by omega)]; simp)]
    exact Sat.go (Eq.refl _) (NS.ret rfl rfl (LeA.refl _))
   have c0 : ¬ V M3 3 < 0 := of_decide_eq_false c0
   refine Sat.go (Eq.refl _) (NS.ite (fun c1 => ?_) (fun c1 => ?_))
   ·have c1 : V M3 3 > 1 := of_decide_eq_true c1
    rw [hF, hpo, if_pos (by rw [cu_bad (by omega)]; simp)]
    exact Sat.go (Eq.refl _) (NS.ret rfl rfl (LeA.refl _))
   have c1 : ¬ V M3 3 > 1 := of_decide_eq_false c1
   have cg : (!(V M3 3 == 0 || V M3 3 == 1)) = false := cu_good (by omega)
   have hri := rdT_in hx_M4.1
   refine Sat.go (Eq.refl _) (NS.need (by show decide ((0 : Int) ≤ ((rdT M4).2.1 : Nat) ∧ (((rdT M4).2.1 : Nat) : Int) ≤ ((bs (M3.drop (rdP M3 4))).size : Int) ∧ ((bs (M3.drop (rdP M3 4))).size : Int) ≤ ((bs (M3.drop (rdP M3 4))).size : Int)) = true; rw [hy_M4, bs_len]; exact decide_eq_true (by omega)) ?_)
   have hyz : (bs (M3.drop (rdP M3 4))).extract (((rdT M4).2.1 : Nat) : Int).toNat ((bs (M3.drop (rdP M3 4))).size : Int).toNat = bs (M4.drop (rdT M4).2.1) := by rw [hy_M4]; exact cut_bs hx_M4.1 _
   obtain ⟨rec, hrec⟩ : ∃ rec : Jrec, ⟨V L 0, ⟨V M1 0, ⟨V M2 0, V M2 1, V M2 2, V M2 3, V M2 4⟩, V M3 0, V M3 1, V M3 2, V M3 3 == 1, bs (rdT M4).1⟩, .zero, 0, V L 1⟩ = rec := ⟨_, rfl⟩
   have hcl : [A.int .i64 (V L 0), A.int .i64 (V M1 0), A.int .i64 (V M2 0), A.int .i64 (V M2 1), A.int .i64 (V M2 2), A.int .i64 (V M2 3), A.int .i64 (V M2 4), A.int .i64 (V M3 0), A.int .i64 (V M3 1), A.int .i64 (V M3 2), A.bool (V M3 3 == 1), A.str (bs (rdT M4).1), A.int .i64 0, A.int .i64 0, A.int .i64 0, A.int .i64 0, A.int .i64 0, A.int .i64 0, A.int .i64 (V L 1)] = rec.cells := by rw [← hrec]; rfl
   have hok : parR L = if (M4.drop (rdT M4).2.1).isEmpty then okR rec else none := by rw [hpo, ← hrec, te, cg]; exact if_text hri
   refine Sat.go (Eq.refl _) (NS.no (rfl) ?_)
   by_cases hz : M4.drop (rdT M4).2.1 = []
   ·refine Sat.go (Eq.refl _) (NS.no (by show (!(((bs (M3.drop (rdP M3 4))).extract (((rdT M4).2.1 : Nat) : Int).toNat ((bs (M3.drop (rdP M3 4))).size : Int).toNat).toList == (⟨#[]⟩ : ByteArray).toList)) = false; rw [hyz]; exact emp_f hz) ?_)
    refine Sat.go (Eq.refl _) (NS.call ((jCheck_ok rec).le (LeL.cons (LeA.of (congrArg A.agg hcl)) LeL.nil)) rfl ?_)
    by_cases hrc : recErr rec = 0
    ·refine Sat.go (Eq.refl _) (NS.no (by show (recErr rec != 0) = false; rw [hrc]; rfl) ?_)
     rw [hF, hok, if_pos (by rw [hz]; rfl), okR_some hrc]
     exact Sat.go (Eq.refl _) (NS.ret rfl rfl (LeA.tup3 (LeA.of (congrArg A.agg hcl)) (LeA.refl _) (LeA.kb true)))
    ·refine Sat.go (Eq.refl _) (NS.yes (by show (recErr rec != 0) = true; simpa using hrc) ?_)
     rw [hF, hok, if_pos (by rw [hz]; rfl), okR_none hrc]
     exact Sat.go (Eq.refl _) (NS.ret rfl rfl (LeA.refl _))
   ·refine Sat.go (Eq.refl _) (NS.yes (by show (!(((bs (M3.drop (rdP M3 4))).extract (((rdT M4).2.1 : Nat) : Int).toNat ((bs (M3.drop (rdP M3 4))).size : Int).toNat).toList == (⟨#[]⟩ : ByteArray).toList)) = true; rw [hyz]; exact emp_t hz) ?_)
    rw [hF, hok, if_neg (by intro h; exact hz (List.isEmpty_iff.1 h))]
    exact Sat.go (Eq.refl _) (NS.ret rfl rfl (LeA.refl _))
  ·refine Sat.go (Eq.refl _) (NS.no (by show ((gt 0 2 (V L 0) : Int) == 1) = false; exact hkq_1) ?_)
   refine Sat.go (Eq.refl _) (NS.no (by show ((gt 0 2 (V L 0) : Int) == 3) = false; exact hkq_3) ?_)
   have hpr : parR L = parI (V L 0) (V L 1) M1 := parR_I' kN (by show stoK (V L 0) = false; rw [hkz]; rfl) (by show (V L 0 == 2 || V L 0 == 4) = true; rw [hkz]; rfl)
   refine Sat.go (Eq.refl _) (NS.chk (by kernel_rfl) ?_)
   refine Sat.go (Eq.refl _) ?_
   refine NS.loop (σ := { k : Nat // k ≤ 5 ∧ ∀ i, i < k → rdE M1 i = 0 }) (fun k => [(0, .ptr 21 0), (9, .ov 91 1 0 5), (10, .int .i64 5), (11, .int .i64 k.1)]) (fun k => [(21, .box [.str (bs (M1.drop (rdP M1 k.1))), .bool false]), (46, .box [.int .i64 (V L 0), .int .i64 0, .int .i64 0, .int .i64 0, .int .i64 0, .int .i64 0, .int .i64 0, .int .i64 0, .int .i64 0, .int .i64 0, .bool false, .str .empty, .int .i64 (gt 0 k.1 (V M1 0)), .int .i64 (gt 1 k.1 (V M1 1)), .int .i64 (gt 2 k.1 (V M1 2)), .int .i64 (gt 3 k.1 (V M1 3)), .int .i64 (gt 4 k.1 (V M1 4)), .int .i64 0, .int .i64 (V L 1)])]) (fun k => 5 - k.1) ⟨0, by omega, fun i hi => absurd hi (Nat.not_lt_zero _)⟩ ?_ ?_
   ·exact weak_hd [] rfl ⟨rfl, rfl, rfl, rfl, trivial⟩ ⟨⟨_, rfl, _, _, rfl, ren_str rfl hy_M1, _, _, rfl, .inl rfl, rfl⟩, ⟨_, rfl, _, _, rfl, rfl, _, _, rfl, rfl, _, _, rfl, rfl, _, _, rfl, rfl, _, _, rfl, rfl, _, _, rfl, rfl, _, _, rfl, rfl, _, _, rfl, rfl, _, _, rfl, rfl, _, _, rfl, rfl, _, _, rfl, .inl rfl, _, _, rfl, rfl, _, _, rfl, rfl, _, _, rfl, rfl, _, _, rfl, rfl, _, _, rfl, rfl, _, _, rfl, rfl, _, _, rfl, rfl, _, _, rfl, rfl, rfl⟩, trivial⟩ (Pre_cut (by kernel_rfl)) (by kernel_rfl)
   rintro ⟨v, vl, vE⟩
   have vE : ∀ i, i < v → rdE M1 i = 0 := vE
   have vl : v ≤ 5 := vl
   refine Sat.go (Eq.refl _) (NS.ite (fun va => ?_) (fun va => ?_))
   ·have va : v < 5 := by have va : decide ((v : Int) < 5) = true := va; have := of_decide_eq_true va; omega
    rcases (by omega : v = 0 ∨ v = 1 ∨ v = 2 ∨ v = 3 ∨ v = 4) with rfl | rfl | rfl | rfl | rfl
    ·refine Sat.go (Eq.refl _) (NS.need (by kernel_rfl) ?_)
     refine Sat.go (Eq.refl _) (NS.call (hR M1 hx_M1 0) rfl ?_)
     refine Sat.go (Eq.refl _) (NS.no (rfl) ?_)
     refine Sat.go (Eq.refl _) (NS.ite (fun ve => ?_) (fun ve => ?_))
     ·have ve : rdE M1 0 ≠ 0 := by have ve : (rdE M1 0 != 0) = true := ve; simpa using ve
      have vB : rdNs 5 M1 = none := rdNs_bad (by decide) ve
      refine Sat.go (Eq.refl _) (NS.leave rfl (Eq.refl _) ?_)
      have hpn : parR L = none := by rw [hpr]; exact parI_bad1 (by rw [hkz]; rfl) vB
      refine Sat.go (Eq.refl _) (NS.yes (by show ((gt 0 2 (V L 0) : Int) == 4) = true; exact hkq_4) ?_)
      refine Sat.go (Eq.refl _) ?_
      refine NS.loop (σ := Unit) (fun _ => [(0, .ptr 21 0), (9, .ov 98 1 0 1), (10, .int .i64 1), (11, .int .i64 0)]) (fun _ => []) (fun _ => 0) () ?_ ?_
      ·exact weak_hd [] rfl ⟨rfl, rfl, rfl, rfl, trivial⟩ trivial (Pre_cut (by kernel_rfl)) (by kernel_rfl)
      rintro ⟨⟩
      refine Sat.go (Eq.refl _) (NS.yes (rfl) ?_)
      refine Sat.go (Eq.refl _) (NS.need (by kernel_rfl) ?_)
      refine Sat.go (Eq.refl _) (NS.call (hRI M1 hx_M1 _) rfl ?_)
      refine Sat.go (Eq.refl _) (NS.leave rfl (Eq.refl _) ?_)
      refine Sat.go (Eq.refl _) (NS.no (by show ((gt 0 2 (V L 0) : Int) == 3) = false; exact hkq_3) ?_)
      rw [hF, hpn]
      exact Sat.go (Eq.refl _) (NS.ret rfl rfl (LeA.refl _))
     ·have ve : rdE M1 0 = 0 := by have ve : (rdE M1 0 != 0) = false := ve; simpa using ve
      refine Sat.go (Eq.refl _) (NS.need (hS M1 hx_M1 0) ?_)
      refine Sat.go (Eq.refl _) (NS.next ⟨0 + 1, by omega, fun i hi => by rcases Nat.lt_succ_iff_lt_or_eq.1 hi with h | h; exact vE i h; rw [h]; exact ve⟩ (by show 5 - (0 + 1) < 5 - 0; omega) ?_)
      exact weak_hd [] rfl ⟨rfl, rfl, rfl, rfl, trivial⟩ ⟨⟨_, rfl, _, _, rfl, ren_str rfl (hC M1 hx_M1 0), _, _, rfl, .inl rfl, rfl⟩, ⟨_, rfl, _, _, rfl, rfl, _, _, rfl, rfl, _, _, rfl, rfl, _, _, rfl, rfl, _, _, rfl, rfl, _, _, rfl, rfl, _, _, rfl, rfl, _, _, rfl, rfl, _, _, rfl, rfl, _, _, rfl, rfl, _, _, rfl, .inl rfl, _, _, rfl, rfl, _, _, rfl, rfl, _, _, rfl, rfl, _, _, rfl, rfl, _, _, rfl, rfl, _, _, rfl, rfl, _, _, rfl, rfl, _, _, rfl, rfl, rfl⟩, trivial⟩ (Pre_cut (by kernel_rfl)) (by kernel_rfl)
    ·refine Sat.go (Eq.refl _) (NS.need (by kernel_rfl) ?_)
     refine Sat.go (Eq.refl _) (NS.call (hR M1 hx_M1 1) rfl ?_)
     refine Sat.go (Eq.refl _) (NS.no (rfl) ?_)
     refine Sat.go (Eq.refl _) (NS.ite (fun ve => ?_) (fun ve => ?_))
     ·have ve : rdE M1 1 ≠ 0 := by have ve : (rdE M1 1 != 0) = true := ve; simpa using ve
      have vB : rdNs 5 M1 = none := rdNs_bad (by decide) ve
      refine Sat.go (Eq.refl _) (NS.leave rfl (Eq.refl _) ?_)
      have hpn : parR L = none := by rw [hpr]; exact parI_bad1 (by rw [hkz]; rfl) vB
      refine Sat.go (Eq.refl _) (NS.yes (by show ((gt 0 2 (V L 0) : Int) == 4) = true; exact hkq_4) ?_)
      refine Sat.go (Eq.refl _) ?_
      refine NS.loop (σ := Unit) (fun _ => [(0, .ptr 21 0), (9, .ov 98 1 0 1), (10, .int .i64 1), (11, .int .i64 0)]) (fun _ => []) (fun _ => 0) () ?_ ?_
      ·exact weak_hd [] rfl ⟨rfl, rfl, rfl, rfl, trivial⟩ trivial (Pre_cut (by kernel_rfl)) (by kernel_rfl)
      rintro ⟨⟩
      refine Sat.go (Eq.refl _) (NS.yes (rfl) ?_)
      refine Sat.go (Eq.refl _) (NS.need (by kernel_rfl) ?_)
      refine Sat.go (Eq.refl _) (NS.call (hRI M1 hx_M1 _) rfl ?_)
      refine Sat.go (Eq.refl _) (NS.leave rfl (Eq.refl _) ?_)
      refine Sat.go (Eq.refl _) (NS.no (by show ((gt 0 2 (V L 0) : Int) == 3) = false; exact hkq_3) ?_)
      rw [hF, hpn]
      exact Sat.go (Eq.refl _) (NS.ret rfl rfl (LeA.refl _))
     ·have ve : rdE M1 1 = 0 := by have ve : (rdE M1 1 != 0) = false := ve; simpa using ve
      refine Sat.go (Eq.refl _) (NS.need (hS M1 hx_M1 1) ?_)
      refine Sat.go (Eq.refl _) (NS.next ⟨1 + 1, by omega, fun i hi => by rcases Nat.lt_succ_iff_lt_or_eq.1 hi with h | h; exact vE i h; rw [h]; exact ve⟩ (by show 5 - (1 + 1) < 5 - 1; omega) ?_)
      exact weak_hd [] rfl ⟨rfl, rfl, rfl, rfl, trivial⟩ ⟨⟨_, rfl, _, _, rfl, ren_str rfl (hC M1 hx_M1 1), _, _, rfl, .inl rfl, rfl⟩, ⟨_, rfl, _, _, rfl, rfl, _, _, rfl, rfl, _, _, rfl, rfl, _, _, rfl, rfl, _, _, rfl, rfl, _, _, rfl, rfl, _, _, rfl, rfl, _, _, rfl, rfl, _, _, rfl, rfl, _, _, rfl, rfl, _, _, rfl, .inl rfl, _, _, rfl, rfl, _, _, rfl, rfl, _, _, rfl, rfl, _, _, rfl, rfl, _, _, rfl, rfl, _, _, rfl, rfl, _, _, rfl, rfl, _, _, rfl, rfl, rfl⟩, trivial⟩ (Pre_cut (by kernel_rfl)) (by kernel_rfl)
    ·refine Sat.go (Eq.refl _) (NS.need (by kernel_rfl) ?_)
     refine Sat.go (Eq.refl _) (NS.call (hR M1 hx_M1 2) rfl ?_)
     refine Sat.go (Eq.refl _) (NS.no (rfl) ?_)
     refine Sat.go (Eq.refl _) (NS.ite (fun ve => ?_) (fun ve => ?_))
     ·have ve : rdE M1 2 ≠ 0 := by have ve : (rdE M1 2 != 0) = true := ve; simpa using ve
      have vB : rdNs 5 M1 = none := rdNs_bad (by decide) ve
      refine Sat.go (Eq.refl _) (NS.leave rfl (Eq.refl _) ?_)
      have hpn : parR L = none := by rw [hpr]; exact parI_bad1 (by rw [hkz]; rfl) vB
      refine Sat.go (Eq.refl _) (NS.yes (by show ((gt 0 2 (V L 0) : Int) == 4) = true; exact hkq_4) ?_)
      refine Sat.go (Eq.refl _) ?_
      refine NS.loop (σ := Unit) (fun _ => [(0, .ptr 21 0), (9, .ov 98 1 0 1), (10, .int .i64 1), (11, .int .i64 0)]) (fun _ => []) (fun _ => 0) () ?_ ?_
      ·exact weak_hd [] rfl ⟨rfl, rfl, rfl, rfl, trivial⟩ trivial (Pre_cut (by kernel_rfl)) (by kernel_rfl)
      rintro ⟨⟩
      refine Sat.go (Eq.refl _) (NS.yes (rfl) ?_)
      refine Sat.go (Eq.refl _) (NS.need (by kernel_rfl) ?_)
      refine Sat.go (Eq.refl _) (NS.call (hRI M1 hx_M1 _) rfl ?_)
      refine Sat.go (Eq.refl _) (NS.leave rfl (Eq.refl _) ?_)
      refine Sat.go (Eq.refl _) (NS.no (by show ((gt 0 2 (V L 0) : Int) == 3) = false; exact hkq_3) ?_)
      rw [hF, hpn]
      exact Sat.go (Eq.refl _) (NS.ret rfl rfl (LeA.refl _))
     ·have ve : rdE M1 2 = 0 := by have ve : (rdE M1 2 != 0) = false := ve; simpa using ve
      refine Sat.go (Eq.refl _) (NS.need (hS M1 hx_M1 2) ?_)
      refine Sat.go (Eq.refl _) (NS.next ⟨2 + 1, by omega, fun i hi => by rcases Nat.lt_succ_iff_lt_or_eq.1 hi with h | h; exact vE i h; rw [h]; exact ve⟩ (by show 5 - (2 + 1) < 5 - 2; omega) ?_)
      exact weak_hd [] rfl ⟨rfl, rfl, rfl, rfl, trivial⟩ ⟨⟨_, rfl, _, _, rfl, ren_str rfl (hC M1 hx_M1 2), _, _, rfl, .inl rfl, rfl⟩, ⟨_, rfl, _, _, rfl, rfl, _, _, rfl, rfl, _, _, rfl, rfl, _, _, rfl, rfl, _, _, rfl, rfl, _, _, rfl, rfl, _, _, rfl, rfl, _, _, rfl, rfl, _, _, rfl, rfl, _, _, rfl, rfl, _, _, rfl, .inl rfl, _, _, rfl, rfl, _, _, rfl, rfl, _, _, rfl, rfl, _, _, rfl, rfl, _, _, rfl, rfl, _, _, rfl, rfl, _, _, rfl, rfl, _, _, rfl, rfl, rfl⟩, trivial⟩ (Pre_cut (by kernel_rfl)) (by kernel_rfl)
    ·refine Sat.go (Eq.refl _) (NS.need (by kernel_rfl) ?_)
     refine Sat.go (Eq.refl _) (NS.call (hR M1 hx_M1 3) rfl ?_)
     refine Sat.go (Eq.refl _) (NS.no (rfl) ?_)
     refine Sat.go (Eq.refl _) (NS.ite (fun ve => ?_) (fun ve => ?_))
     ·have ve : rdE M1 3 ≠ 0 := by have ve : (rdE M1 3 != 0) = true := ve; simpa using ve
      have vB : rdNs 5 M1 = none := rdNs_bad (by decide) ve
      refine Sat.go (Eq.refl _) (NS.leave rfl (Eq.refl _) ?_)
      have hpn : parR L = none := by rw [hpr]; exact parI_bad1 (by rw [hkz]; rfl) vB
      refine Sat.go (Eq.refl _) (NS.yes (by show ((gt 0 2 (V L 0) : Int) == 4) = true; exact hkq_4) ?_)
      refine Sat.go (Eq.refl _) ?_
      refine NS.loop (σ := Unit) (fun _ => [(0, .ptr 21 0), (9, .ov 98 1 0 1), (10, .int .i64 1), (11, .int .i64 0)]) (fun _ => []) (fun _ => 0) () ?_ ?_
      ·exact weak_hd [] rfl ⟨rfl, rfl, rfl, rfl, trivial⟩ trivial (Pre_cut (by kernel_rfl)) (by kernel_rfl)
      rintro ⟨⟩
      refine Sat.go (Eq.refl _) (NS.yes (rfl) ?_)
      refine Sat.go (Eq.refl _) (NS.need (by kernel_rfl) ?_)
      refine Sat.go (Eq.refl _) (NS.call (hRI M1 hx_M1 _) rfl ?_)
      refine Sat.go (Eq.refl _) (NS.leave rfl (Eq.refl _) ?_)
      refine Sat.go (Eq.refl _) (NS.no (by show ((gt 0 2 (V L 0) : Int) == 3) = false; exact hkq_3) ?_)
      rw [hF, hpn]
      exact Sat.go (Eq.refl _) (NS.ret rfl rfl (LeA.refl _))
     ·have ve : rdE M1 3 = 0 := by have ve : (rdE M1 3 != 0) = false := ve; simpa using ve
      refine Sat.go (Eq.refl _) (NS.need (hS M1 hx_M1 3) ?_)
      refine Sat.go (Eq.refl _) (NS.next ⟨3 + 1, by omega, fun i hi => by rcases Nat.lt_succ_iff_lt_or_eq.1 hi with h | h; exact vE i h; rw [h]; exact ve⟩ (by show 5 - (3 + 1) < 5 - 3; omega) ?_)
      exact weak_hd [] rfl ⟨rfl, rfl, rfl, rfl, trivial⟩ ⟨⟨_, rfl, _, _, rfl, ren_str rfl (hC M1 hx_M1 3), _, _, rfl, .inl rfl, rfl⟩, ⟨_, rfl, _, _, rfl, rfl, _, _, rfl, rfl, _, _, rfl, rfl, _, _, rfl, rfl, _, _, rfl, rfl, _, _, rfl, rfl, _, _, rfl, rfl, _, _, rfl, rfl, _, _, rfl, rfl, _, _, rfl, rfl, _, _, rfl, .inl rfl, _, _, rfl, rfl, _, _, rfl, rfl, _, _, rfl, rfl, _, _, rfl, rfl, _, _, rfl, rfl, _, _, rfl, rfl, _, _, rfl, rfl, _, _, rfl, rfl, rfl⟩, trivial⟩ (Pre_cut (by kernel_rfl)) (by kernel_rfl)
    ·refine Sat.go (Eq.refl _) (NS.need (by kernel_rfl) ?_)
     refine Sat.go (Eq.refl _) (NS.call (hR M1 hx_M1 4) rfl ?_)
     refine Sat.go (Eq.refl _) (NS.no (rfl) ?_)
     refine Sat.go (Eq.refl _) (NS.ite (fun ve => ?_) (fun ve => ?_))
     ·have ve : rdE M1 4 ≠ 0 := by have ve : (rdE M1 4 != 0) = true := ve; simpa using ve
      have vB : rdNs 5 M1 = none := rdNs_bad (by decide) ve
      refine Sat.go (Eq.refl _) (NS.leave rfl (Eq.refl _) ?_)
      have hpn : parR L = none := by rw [hpr]; exact parI_bad1 (by rw [hkz]; rfl) vB
      refine Sat.go (Eq.refl _) (NS.yes (by show ((gt 0 2 (V L 0) : Int) == 4) = true; exact hkq_4) ?_)
      refine Sat.go (Eq.refl _) ?_
      refine NS.loop (σ := Unit) (fun _ => [(0, .ptr 21 0), (9, .ov 98 1 0 1), (10, .int .i64 1), (11, .int .i64 0)]) (fun _ => []) (fun _ => 0) () ?_ ?_
      ·exact weak_hd [] rfl ⟨rfl, rfl, rfl, rfl, trivial⟩ trivial (Pre_cut (by kernel_rfl)) (by kernel_rfl)
      rintro ⟨⟩
      refine Sat.go (Eq.refl _) (NS.yes (rfl) ?_)
      refine Sat.go (Eq.refl _) (NS.need (by kernel_rfl) ?_)
      refine Sat.go (Eq.refl _) (NS.call (hRI M1 hx_M1 _) rfl ?_)
      refine Sat.go (Eq.refl _) (NS.leave rfl (Eq.refl _) ?_)
      refine Sat.go (Eq.refl _) (NS.no (by show ((gt 0 2 (V L 0) : Int) == 3) = false; exact hkq_3) ?_)
      rw [hF, hpn]
      exact Sat.go (Eq.refl _) (NS.ret rfl rfl (LeA.refl _))
     ·have ve : rdE M1 4 = 0 := by have ve : (rdE M1 4 != 0) = false := ve; simpa using ve
      refine Sat.go (Eq.refl _) (NS.need (hS M1 hx_M1 4) ?_)
      refine Sat.go (Eq.refl _) (NS.next ⟨4 + 1, by omega, fun i hi => by rcases Nat.lt_succ_iff_lt_or_eq.1 hi with h | h; exact vE i h; rw [h]; exact ve⟩ (by show 5 - (4 + 1) < 5 - 4; omega) ?_)
      exact weak_hd [] rfl ⟨rfl, rfl, rfl, rfl, trivial⟩ ⟨⟨_, rfl, _, _, rfl, ren_str rfl (hC M1 hx_M1 4), _, _, rfl, .inl rfl, rfl⟩, ⟨_, rfl, _, _, rfl, rfl, _, _, rfl, rfl, _, _, rfl, rfl, _, _, rfl, rfl, _, _, rfl, rfl, _, _, rfl, rfl, _, _, rfl, rfl, _, _, rfl, rfl, _, _, rfl, rfl, _, _, rfl, rfl, _, _, rfl, .inl rfl, _, _, rfl, rfl, _, _, rfl, rfl, _, _, rfl, rfl, _, _, rfl, rfl, _, _, rfl, rfl, _, _, rfl, rfl, _, _, rfl, rfl, _, _, rfl, rfl, rfl⟩, trivial⟩ (Pre_cut (by kernel_rfl)) (by kernel_rfl)
   have va : v = 5 := by have va : decide ((v : Int) < 5) = false := va; have := of_decide_eq_false va; omega
   subst va
   refine Sat.go (Eq.refl _) (NS.leave rfl (Eq.refl _) ?_)
   have vN : rdNs 5 M1 = some ((List.range 5).map (V M1), M1.drop (rdP M1 5)) := hAll _ _ vE
   obtain ⟨M2, hM2⟩ : ∃ M, M1.drop (rdP M1 5) = M := ⟨_, rfl⟩
   rw [hM2] at vN
   have hx_M2 : (∀ x ∈ M2, x < 256) ∧ M2.length ≤ 65536 := by rw [← hM2]; exact ⟨fun x hx => hx_M1.1 x (List.mem_of_mem_drop hx), by rw [List.length_drop]; have := hx_M1.2; omega⟩
   have hy_M2 : bs (M1.drop (rdP M1 5)) = bs M2 := congrArg bs hM2
   refine Sat.go (Eq.refl _) (NS.yes (by show ((gt 0 2 (V L 0) : Int) == 4) = true; exact hkq_4) ?_)
   refine Sat.go (Eq.refl _) ?_
   refine NS.loop (σ := { k : Nat // k ≤ 1 ∧ ∀ i, i < k → rdE M2 i = 0 }) (fun k => [(0, .ptr 21 0), (9, .ov 98 1 0 1), (10, .int .i64 1), (11, .int .i64 k.1)]) (fun k => [(21, .box [.str (bs (M2.drop (rdP M2 k.1))), .bool false]), (46, .box [.int .i64 (V L 0), .int .i64 0, .int .i64 0, .int .i64 0, .int .i64 0, .int .i64 0, .int .i64 0, .int .i64 0, .int .i64 0, .int .i64 0, .bool false, .str .empty, .int .i64 (V M1 0), .int .i64 (V M1 1), .int .i64 (V M1 2), .int .i64 (V M1 3), .int .i64 (V M1 4), .int .i64 (gt 0 k.1 (V M2 0)), .int .i64 (V L 1)])]) (fun k => 1 - k.1) ⟨0, by omega, fun i hi => absurd hi (Nat.not_lt_zero _)⟩ ?_ ?_
   ·exact weak_hd [] rfl ⟨rfl, rfl, rfl, rfl, trivial⟩ ⟨⟨_, rfl, _, _, rfl, ren_str rfl hy_M2, _, _, rfl, .inl rfl, rfl⟩, ⟨_, rfl, _, _, rfl, rfl, _, _, rfl, rfl, _, _, rfl, rfl, _, _, rfl, rfl, _, _, rfl, rfl, _, _, rfl, rfl, _, _, rfl, rfl, _, _, rfl, rfl, _, _, rfl, rfl, _, _, rfl, rfl, _, _, rfl, .inl rfl, _, _, rfl, rfl, _, _, rfl, rfl, _, _, rfl, rfl, _, _, rfl, rfl, _, _, rfl, rfl, _, _, rfl, rfl, _, _, rfl, rfl, _, _, rfl, rfl, rfl⟩, trivial⟩ (Pre_cut (by kernel_rfl)) (by kernel_rfl)
   rintro ⟨w, wl, wE⟩
   have wE : ∀ i, i < w → rdE M2 i = 0 := wE
   have wl : w ≤ 1 := wl
   refine Sat.go (Eq.refl _) (NS.ite (fun wa => ?_) (fun wa => ?_))
   ·have wa : w < 1 := by have wa : decide ((w : Int) < 1) = true := wa; have := of_decide_eq_true wa; omega
    obtain rfl : w = 0 := by omega
    refine Sat.go (Eq.refl _) (NS.need (by kernel_rfl) ?_)
    refine Sat.go (Eq.refl _) (NS.call (hR M2 hx_M2 0) rfl ?_)
    refine Sat.go (Eq.refl _) (NS.no (rfl) ?_)
    refine Sat.go (Eq.refl _) (NS.ite (fun we => ?_) (fun we => ?_))
    ·have we : rdE M2 0 ≠ 0 := by have we : (rdE M2 0 != 0) = true := we; simpa using we
     have wB : rdNs 1 M2 = none := rdNs_bad (by decide) we
     refine Sat.go (Eq.refl _) (NS.leave rfl (Eq.refl _) ?_)
     have hpn : parR L = none := by rw [hpr]; exact parI_bad2 (by rw [hkz]; rfl) vN wB
     refine Sat.go (Eq.refl _) (NS.no (by show ((gt 0 2 (V L 0) : Int) == 3) = false; exact hkq_3) ?_)
     rw [hF, hpn]
     exact Sat.go (Eq.refl _) (NS.ret rfl rfl (LeA.refl _))
    ·have we : rdE M2 0 = 0 := by have we : (rdE M2 0 != 0) = false := we; simpa using we
     refine Sat.go (Eq.refl _) (NS.need (hS M2 hx_M2 0) ?_)
     refine Sat.go (Eq.refl _) (NS.next ⟨0 + 1, by omega, fun i hi => by rcases Nat.lt_succ_iff_lt_or_eq.1 hi with h | h; exact wE i h; rw [h]; exact we⟩ (by show 1 - (0 + 1) < 1 - 0; omega) ?_)
     exact weak_hd [] rfl ⟨rfl, rfl, rfl, rfl, trivial⟩ ⟨⟨_, rfl, _, _, rfl, ren_str rfl (hC M2 hx_M2 0), _, _, rfl, .inl rfl, rfl⟩, ⟨_, rfl, _, _, rfl, rfl, _, _, rfl, rfl, _, _, rfl, rfl, _, _, rfl, rfl, _, _, rfl, rfl, _, _, rfl, rfl, _, _, rfl, rfl, _, _, rfl, rfl, _, _, rfl, rfl, _, _, rfl, rfl, _, _, rfl, .inl rfl, _, _, rfl, rfl, _, _, rfl, rfl, _, _, rfl, rfl, _, _, rfl, rfl, _, _, rfl, rfl, _, _, rfl, rfl, _, _, rfl, rfl, _, _, rfl, rfl, rfl⟩, trivial⟩ (Pre_cut (by kernel_rfl)) (by kernel_rfl)
   have wa : w = 1 := by have wa : decide ((w : Int) < 1) = false := wa; have := of_decide_eq_false wa; omega
   subst wa
   refine Sat.go (Eq.refl _) (NS.leave rfl (Eq.refl _) ?_)
   have wN : rdNs 1 M2 = some ((List.range 1).map (V M2), M2.drop (rdP M2 1)) := hAll _ _ wE
   obtain ⟨M3, hM3⟩ : ∃ M, M2.drop (rdP M2 1) = M := ⟨_, rfl⟩
   rw [hM3] at wN
   have hx_M3 : (∀ x ∈ M3, x < 256) ∧ M3.length ≤ 65536 := by rw [← hM3]; exact ⟨fun x hx => hx_M2.1 x (List.mem_of_mem_drop hx), by rw [List.length_drop]; have := hx_M2.2; omega⟩
   have hy_M3 : bs (M2.drop (rdP M2 1)) = bs M3 := congrArg bs hM3
   obtain ⟨rec, hrec⟩ : ∃ rec : Jrec, ⟨V L 0, .zero, ⟨V M1 0, V M1 1, V M1 2, V M1 3, V M1 4⟩, V M2 0, V L 1⟩ = rec := ⟨_, rfl⟩
   have hcl : [A.int .i64 (V L 0), A.int .i64 0, A.int .i64 0, A.int .i64 0, A.int .i64 0, A.int .i64 0, A.int .i64 0, A.int .i64 0, A.int .i64 0, A.int .i64 0, A.bool false, A.str .empty, A.int .i64 (V M1 0), A.int .i64 (V M1 1), A.int .i64 (V M1 2), A.int .i64 (V M1 3), A.int .i64 (V M1 4), A.int .i64 (V M2 0), A.int .i64 (V L 1)] = rec.cells := by rw [← hrec]; rfl
   have hok : parR L = if M3.isEmpty then okR rec else none := by rw [hpr, ← hrec]; exact parI_4' (by rw [hkz]; rfl) vN wN
   refine Sat.go (Eq.refl _) (NS.no (by show ((gt 0 2 (V L 0) : Int) == 3) = false; exact hkq_3) ?_)
   refine Sat.go (Eq.refl _) (NS.no (rfl) ?_)
   by_cases hz : M3 = []
   ·refine Sat.go (Eq.refl _) (NS.no (by show (!((bs (M2.drop (rdP M2 1))).toList == (⟨#[]⟩ : ByteArray).toList)) = false; rw [hy_M3]; exact emp_f hz) ?_)
    refine Sat.go (Eq.refl _) (NS.call ((jCheck_ok rec).le (LeL.cons (LeA.of (congrArg A.agg hcl)) LeL.nil)) rfl ?_)
    by_cases hrc : recErr rec = 0
    ·refine Sat.go (Eq.refl _) (NS.no (by show (recErr rec != 0) = false; rw [hrc]; rfl) ?_)
     rw [hF, hok, if_pos (by rw [hz]; rfl), okR_some hrc]
     exact Sat.go (Eq.refl _) (NS.ret rfl rfl (LeA.tup3 (LeA.of (congrArg A.agg hcl)) (LeA.refl _) (LeA.kb true)))
    ·refine Sat.go (Eq.refl _) (NS.yes (by show (recErr rec != 0) = true; simpa using hrc) ?_)
     rw [hF, hok, if_pos (by rw [hz]; rfl), okR_none hrc]
     exact Sat.go (Eq.refl _) (NS.ret rfl rfl (LeA.refl _))
   ·refine Sat.go (Eq.refl _) (NS.yes (by show (!((bs (M2.drop (rdP M2 1))).toList == (⟨#[]⟩ : ByteArray).toList)) = true; rw [hy_M3]; exact emp_t hz) ?_)
    rw [hF, hok, if_neg (by intro h; exact hz (List.isEmpty_iff.1 h))]
    exact Sat.go (Eq.refl _) (NS.ret rfl rfl (LeA.refl _))
  ·refine Sat.go (Eq.refl _) (NS.no (by show ((gt 0 2 (V L 0) : Int) == 1) = false; exact hkq_1) ?_)
   refine Sat.go (Eq.refl _) (NS.no (by show ((gt 0 2 (V L 0) : Int) == 3) = false; exact hkq_3) ?_)
   refine Sat.go (Eq.refl _) (NS.chk (by kernel_rfl) ?_)
   refine Sat.go (Eq.refl _) ?_
   refine NS.loop (σ := { k : Nat // k ≤ 5 ∧ ∀ i, i < k → rdE M1 i = 0 }) (fun k => [(0, .ptr 21 0), (9, .ov 91 1 0 5), (10, .int .i64 5), (11, .int .i64 k.1)]) (fun k => [(21, .box [.str (bs (M1.drop (rdP M1 k.1))), .bool false]), (46, .box [.int .i64 (V L 0), .int .i64 0, .int .i64 0, .int .i64 0, .int .i64 0, .int .i64 0, .int .i64 0, .int .i64 0, .int .i64 0, .int .i64 0, .bool false, .str .empty, .int .i64 (gt 0 k.1 (V M1 0)), .int .i64 (gt 1 k.1 (V M1 1)), .int .i64 (gt 2 k.1 (V M1 2)), .int .i64 (gt 3 k.1 (V M1 3)), .int .i64 (gt 4 k.1 (V M1 4)), .int .i64 0, .int .i64 (V L 1)])]) (fun k => 5 - k.1) ⟨0, by omega, fun i hi => absurd hi (Nat.not_lt_zero _)⟩ ?_ ?_
   ·exact weak_hd [] rfl ⟨rfl, rfl, rfl, rfl, trivial⟩ ⟨⟨_, rfl, _, _, rfl, ren_str rfl hy_M1, _, _, rfl, .inl rfl, rfl⟩, ⟨_, rfl, _, _, rfl, rfl, _, _, rfl, rfl, _, _, rfl, rfl, _, _, rfl, rfl, _, _, rfl, rfl, _, _, rfl, rfl, _, _, rfl, rfl, _, _, rfl, rfl, _, _, rfl, rfl, _, _, rfl, rfl, _, _, rfl, .inl rfl, _, _, rfl, rfl, _, _, rfl, rfl, _, _, rfl, rfl, _, _, rfl, rfl, _, _, rfl, rfl, _, _, rfl, rfl, _, _, rfl, rfl, _, _, rfl, rfl, rfl⟩, trivial⟩ (Pre_cut (by kernel_rfl)) (by kernel_rfl)
   rintro ⟨v, vl, vE⟩
   have vE : ∀ i, i < v → rdE M1 i = 0 := vE
   have vl : v ≤ 5 := vl
   refine Sat.go (Eq.refl _) (NS.ite (fun va => ?_) (fun va => ?_))
   ·have va : v < 5 := by have va : decide ((v : Int) < 5) = true := va; have := of_decide_eq_true va; omega
    rcases (by omega : v = 0 ∨ v = 1 ∨ v = 2 ∨ v = 3 ∨ v = 4) with rfl | rfl | rfl | rfl | rfl
    ·refine Sat.go (Eq.refl _) (NS.need (by kernel_rfl) ?_)
     refine Sat.go (Eq.refl _) (NS.call (hR M1 hx_M1 0) rfl ?_)
     refine Sat.go (Eq.refl _) (NS.no (rfl) ?_)
     refine Sat.go (Eq.refl _) (NS.ite (fun ve => ?_) (fun ve => ?_))
     ·have ve : rdE M1 0 ≠ 0 := by have ve : (rdE M1 0 != 0) = true := ve; simpa using ve
      have vB : rdNs 5 M1 = none := rdNs_bad (by decide) ve
      refine Sat.go (Eq.refl _) (NS.leave rfl (Eq.refl _) ?_)
      have hpn : parR L = none := parI_x' kN hkz vB
      refine Sat.go (Eq.refl _) (NS.no (by show ((gt 0 2 (V L 0) : Int) == 4) = false; exact hkq_4) ?_)
      refine Sat.go (Eq.refl _) (NS.no (by show ((gt 0 2 (V L 0) : Int) == 3) = false; exact hkq_3) ?_)
      rw [hF, hpn]
      exact Sat.go (Eq.refl _) (NS.ret rfl rfl (LeA.refl _))
     ·have ve : rdE M1 0 = 0 := by have ve : (rdE M1 0 != 0) = false := ve; simpa using ve
      refine Sat.go (Eq.refl _) (NS.need (hS M1 hx_M1 0) ?_)
      refine Sat.go (Eq.refl _) (NS.next ⟨0 + 1, by omega, fun i hi => by rcases Nat.lt_succ_iff_lt_or_eq.1 hi with h | h; exact vE i h; rw [h]; exact ve⟩ (by show 5 - (0 + 1) < 5 - 0; omega) ?_)
      exact weak_hd [] rfl ⟨rfl, rfl, rfl, rfl, trivial⟩ ⟨⟨_, rfl, _, _, rfl, ren_str rfl (hC M1 hx_M1 0), _, _, rfl, .inl rfl, rfl⟩, ⟨_, rfl, _, _, rfl, rfl, _, _, rfl, rfl, _, _, rfl, rfl, _, _, rfl, rfl, _, _, rfl, rfl, _, _, rfl, rfl, _, _, rfl, rfl, _, _, rfl, rfl, _, _, rfl, rfl, _, _, rfl, rfl, _, _, rfl, .inl rfl, _, _, rfl, rfl, _, _, rfl, rfl, _, _, rfl, rfl, _, _, rfl, rfl, _, _, rfl, rfl, _, _, rfl, rfl, _, _, rfl, rfl, _, _, rfl, rfl, rfl⟩, trivial⟩ (Pre_cut (by kernel_rfl)) (by kernel_rfl)
    ·refine Sat.go (Eq.refl _) (NS.need (by kernel_rfl) ?_)
     refine Sat.go (Eq.refl _) (NS.call (hR M1 hx_M1 1) rfl ?_)
     refine Sat.go (Eq.refl _) (NS.no (rfl) ?_)
     refine Sat.go (Eq.refl _) (NS.ite (fun ve => ?_) (fun ve => ?_))
     ·have ve : rdE M1 1 ≠ 0 := by have ve : (rdE M1 1 != 0) = true := ve; simpa using ve
      have vB : rdNs 5 M1 = none := rdNs_bad (by decide) ve
      refine Sat.go (Eq.refl _) (NS.leave rfl (Eq.refl _) ?_)
      have hpn : parR L = none := parI_x' kN hkz vB
      refine Sat.go (Eq.refl _) (NS.no (by show ((gt 0 2 (V L 0) : Int) == 4) = false; exact hkq_4) ?_)
      refine Sat.go (Eq.refl _) (NS.no (by show ((gt 0 2 (V L 0) : Int) == 3) = false; exact hkq_3) ?_)
      rw [hF, hpn]
      exact Sat.go (Eq.refl _) (NS.ret rfl rfl (LeA.refl _))
     ·have ve : rdE M1 1 = 0 := by have ve : (rdE M1 1 != 0) = false := ve; simpa using ve
      refine Sat.go (Eq.refl _) (NS.need (hS M1 hx_M1 1) ?_)
      refine Sat.go (Eq.refl _) (NS.next ⟨1 + 1, by omega, fun i hi => by rcases Nat.lt_succ_iff_lt_or_eq.1 hi with h | h; exact vE i h; rw [h]; exact ve⟩ (by show 5 - (1 + 1) < 5 - 1; omega) ?_)
      exact weak_hd [] rfl ⟨rfl, rfl, rfl, rfl, trivial⟩ ⟨⟨_, rfl, _, _, rfl, ren_str rfl (hC M1 hx_M1 1), _, _, rfl, .inl rfl, rfl⟩, ⟨_, rfl, _, _, rfl, rfl, _, _, rfl, rfl, _, _, rfl, rfl, _, _, rfl, rfl, _, _, rfl, rfl, _, _, rfl, rfl, _, _, rfl, rfl, _, _, rfl, rfl, _, _, rfl, rfl, _, _, rfl, rfl, _, _, rfl, .inl rfl, _, _, rfl, rfl, _, _, rfl, rfl, _, _, rfl, rfl, _, _, rfl, rfl, _, _, rfl, rfl, _, _, rfl, rfl, _, _, rfl, rfl, _, _, rfl, rfl, rfl⟩, trivial⟩ (Pre_cut (by kernel_rfl)) (by kernel_rfl)
    ·refine Sat.go (Eq.refl _) (NS.need (by kernel_rfl) ?_)
     refine Sat.go (Eq.refl _) (NS.call (hR M1 hx_M1 2) rfl ?_)
     refine Sat.go (Eq.refl _) (NS.no (rfl) ?_)
     refine Sat.go (Eq.refl _) (NS.ite (fun ve => ?_) (fun ve => ?_))
     ·have ve : rdE M1 2 ≠ 0 := by have ve : (rdE M1 2 != 0) = true := ve; simpa using ve
      have vB : rdNs 5 M1 = none := rdNs_bad (by decide) ve
      refine Sat.go (Eq.refl _) (NS.leave rfl (Eq.refl _) ?_)
      have hpn : parR L = none := parI_x' kN hkz vB
      refine Sat.go (Eq.refl _) (NS.no (by show ((gt 0 2 (V L 0) : Int) == 4) = false; exact hkq_4) ?_)
      refine Sat.go (Eq.refl _) (NS.no (by show ((gt 0 2 (V L 0) : Int) == 3) = false; exact hkq_3) ?_)
      rw [hF, hpn]
      exact Sat.go (Eq.refl _) (NS.ret rfl rfl (LeA.refl _))
     ·have ve : rdE M1 2 = 0 := by have ve : (rdE M1 2 != 0) = false := ve; simpa using ve
      refine Sat.go (Eq.refl _) (NS.need (hS M1 hx_M1 2) ?_)
      refine Sat.go (Eq.refl _) (NS.next ⟨2 + 1, by omega, fun i hi => by rcases Nat.lt_succ_iff_lt_or_eq.1 hi with h | h; exact vE i h; rw [h]; exact ve⟩ (by show 5 - (2 + 1) < 5 - 2; omega) ?_)
      exact weak_hd [] rfl ⟨rfl, rfl, rfl, rfl, trivial⟩ ⟨⟨_, rfl, _, _, rfl, ren_str rfl (hC M1 hx_M1 2), _, _, rfl, .inl rfl, rfl⟩, ⟨_, rfl, _, _, rfl, rfl, _, _, rfl, rfl, _, _, rfl, rfl, _, _, rfl, rfl, _, _, rfl, rfl, _, _, rfl, rfl, _, _, rfl, rfl, _, _, rfl, rfl, _, _, rfl, rfl, _, _, rfl, rfl, _, _, rfl, .inl rfl, _, _, rfl, rfl, _, _, rfl, rfl, _, _, rfl, rfl, _, _, rfl, rfl, _, _, rfl, rfl, _, _, rfl, rfl, _, _, rfl, rfl, _, _, rfl, rfl, rfl⟩, trivial⟩ (Pre_cut (by kernel_rfl)) (by kernel_rfl)
    ·refine Sat.go (Eq.refl _) (NS.need (by kernel_rfl) ?_)
     refine Sat.go (Eq.refl _) (NS.call (hR M1 hx_M1 3) rfl ?_)
     refine Sat.go (Eq.refl _) (NS.no (rfl) ?_)
     refine Sat.go (Eq.refl _) (NS.ite (fun ve => ?_) (fun ve => ?_))
     ·have ve : rdE M1 3 ≠ 0 := by have ve : (rdE M1 3 != 0) = true := ve; simpa using ve
      have vB : rdNs 5 M1 = none := rdNs_bad (by decide) ve
      refine Sat.go (Eq.refl _) (NS.leave rfl (Eq.refl _) ?_)
      have hpn : parR L = none := parI_x' kN hkz vB
      refine Sat.go (Eq.refl _) (NS.no (by show ((gt 0 2 (V L 0) : Int) == 4) = false; exact hkq_4) ?_)
      refine Sat.go (Eq.refl _) (NS.no (by show ((gt 0 2 (V L 0) : Int) == 3) = false; exact hkq_3) ?_)
      rw [hF, hpn]
      exact Sat.go (Eq.refl _) (NS.ret rfl rfl (LeA.refl _))
     ·have ve : rdE M1 3 = 0 := by have ve : (rdE M1 3 != 0) = false := ve; simpa using ve
      refine Sat.go (Eq.refl _) (NS.need (hS M1 hx_M1 3) ?_)
      refine Sat.go (Eq.refl _) (NS.next ⟨3 + 1, by omega, fun i hi => by rcases Nat.lt_succ_iff_lt_or_eq.1 hi with h | h; exact vE i h; rw [h]; exact ve⟩ (by show 5 - (3 + 1) < 5 - 3; omega) ?_)
      exact weak_hd [] rfl ⟨rfl, rfl, rfl, rfl, trivial⟩ ⟨⟨_, rfl, _, _, rfl, ren_str rfl (hC M1 hx_M1 3), _, _, rfl, .inl rfl, rfl⟩, ⟨_, rfl, _, _, rfl, rfl, _, _, rfl, rfl, _, _, rfl, rfl, _, _, rfl, rfl, _, _, rfl, rfl, _, _, rfl, rfl, _, _, rfl, rfl, _, _, rfl, rfl, _, _, rfl, rfl, _, _, rfl, rfl, _, _, rfl, .inl rfl, _, _, rfl, rfl, _, _, rfl, rfl, _, _, rfl, rfl, _, _, rfl, rfl, _, _, rfl, rfl, _, _, rfl, rfl, _, _, rfl, rfl, _, _, rfl, rfl, rfl⟩, trivial⟩ (Pre_cut (by kernel_rfl)) (by kernel_rfl)
    ·refine Sat.go (Eq.refl _) (NS.need (by kernel_rfl) ?_)
     refine Sat.go (Eq.refl _) (NS.call (hR M1 hx_M1 4) rfl ?_)
     refine Sat.go (Eq.refl _) (NS.no (rfl) ?_)
     refine Sat.go (Eq.refl _) (NS.ite (fun ve => ?_) (fun ve => ?_))
     ·have ve : rdE M1 4 ≠ 0 := by have ve : (rdE M1 4 != 0) = true := ve; simpa using ve
      have vB : rdNs 5 M1 = none := rdNs_bad (by decide) ve
      refine Sat.go (Eq.refl _) (NS.leave rfl (Eq.refl _) ?_)
      have hpn : parR L = none := parI_x' kN hkz vB
      refine Sat.go (Eq.refl _) (NS.no (by show ((gt 0 2 (V L 0) : Int) == 4) = false; exact hkq_4) ?_)
      refine Sat.go (Eq.refl _) (NS.no (by show ((gt 0 2 (V L 0) : Int) == 3) = false; exact hkq_3) ?_)
      rw [hF, hpn]
      exact Sat.go (Eq.refl _) (NS.ret rfl rfl (LeA.refl _))
     ·have ve : rdE M1 4 = 0 := by have ve : (rdE M1 4 != 0) = false := ve; simpa using ve
      refine Sat.go (Eq.refl _) (NS.need (hS M1 hx_M1 4) ?_)
      refine Sat.go (Eq.refl _) (NS.next ⟨4 + 1, by omega, fun i hi => by rcases Nat.lt_succ_iff_lt_or_eq.1 hi with h | h; exact vE i h; rw [h]; exact ve⟩ (by show 5 - (4 + 1) < 5 - 4; omega) ?_)
      exact weak_hd [] rfl ⟨rfl, rfl, rfl, rfl, trivial⟩ ⟨⟨_, rfl, _, _, rfl, ren_str rfl (hC M1 hx_M1 4), _, _, rfl, .inl rfl, rfl⟩, ⟨_, rfl, _, _, rfl, rfl, _, _, rfl, rfl, _, _, rfl, rfl, _, _, rfl, rfl, _, _, rfl, rfl, _, _, rfl, rfl, _, _, rfl, rfl, _, _, rfl, rfl, _, _, rfl, rfl, _, _, rfl, rfl, _, _, rfl, .inl rfl, _, _, rfl, rfl, _, _, rfl, rfl, _, _, rfl, rfl, _, _, rfl, rfl, _, _, rfl, rfl, _, _, rfl, rfl, _, _, rfl, rfl, _, _, rfl, rfl, rfl⟩, trivial⟩ (Pre_cut (by kernel_rfl)) (by kernel_rfl)
   have va : v = 5 := by have va : decide ((v : Int) < 5) = false := va; have := of_decide_eq_false va; omega
   subst va
   refine Sat.go (Eq.refl _) (NS.leave rfl (Eq.refl _) ?_)
   have vN : rdNs 5 M1 = some ((List.range 5).map (V M1), M1.drop (rdP M1 5)) := hAll _ _ vE
   obtain ⟨M2, hM2⟩ : ∃ M, M1.drop (rdP M1 5) = M := ⟨_, rfl⟩
   rw [hM2] at vN
   have hx_M2 : (∀ x ∈ M2, x < 256) ∧ M2.length ≤ 65536 := by rw [← hM2]; exact ⟨fun x hx => hx_M1.1 x (List.mem_of_mem_drop hx), by rw [List.length_drop]; have := hx_M1.2; omega⟩
   have hy_M2 : bs (M1.drop (rdP M1 5)) = bs M2 := congrArg bs hM2
   refine Sat.go (Eq.refl _) (NS.no (by show ((gt 0 2 (V L 0) : Int) == 4) = false; exact hkq_4) ?_)
   obtain ⟨rec, hrec⟩ : ∃ rec : Jrec, ⟨V L 0, .zero, ⟨V M1 0, V M1 1, V M1 2, V M1 3, V M1 4⟩, 0, V L 1⟩ = rec := ⟨_, rfl⟩
   have hcl : [A.int .i64 (V L 0), A.int .i64 0, A.int .i64 0, A.int .i64 0, A.int .i64 0, A.int .i64 0, A.int .i64 0, A.int .i64 0, A.int .i64 0, A.int .i64 0, A.bool false, A.str .empty, A.int .i64 (V M1 0), A.int .i64 (V M1 1), A.int .i64 (V M1 2), A.int .i64 (V M1 3), A.int .i64 (V M1 4), A.int .i64 0, A.int .i64 (V L 1)] = rec.cells := by rw [← hrec]; rfl
   have hok : parR L = if M2.isEmpty then okR rec else none := by rw [← hrec]; exact parI_2' kN hkz vN
   refine Sat.go (Eq.refl _) (NS.no (by show ((gt 0 2 (V L 0) : Int) == 3) = false; exact hkq_3) ?_)
   refine Sat.go (Eq.refl _) (NS.no (rfl) ?_)
   by_cases hz : M2 = []
   ·refine Sat.go (Eq.refl _) (NS.no (by show (!((bs (M1.drop (rdP M1 5))).toList == (⟨#[]⟩ : ByteArray).toList)) = false; rw [hy_M2]; exact emp_f hz) ?_)
    refine Sat.go (Eq.refl _) (NS.call ((jCheck_ok rec).le (LeL.cons (LeA.of (congrArg A.agg hcl)) LeL.nil)) rfl ?_)
    by_cases hrc : recErr rec = 0
    ·refine Sat.go (Eq.refl _) (NS.no (by show (recErr rec != 0) = false; rw [hrc]; rfl) ?_)
     rw [hF, hok, if_pos (by rw [hz]; rfl), okR_some hrc]
     exact Sat.go (Eq.refl _) (NS.ret rfl rfl (LeA.tup3 (LeA.of (congrArg A.agg hcl)) (LeA.refl _) (LeA.kb true)))
    ·refine Sat.go (Eq.refl _) (NS.yes (by show (recErr rec != 0) = true; simpa using hrc) ?_)
     rw [hF, hok, if_pos (by rw [hz]; rfl), okR_none hrc]
     exact Sat.go (Eq.refl _) (NS.ret rfl rfl (LeA.refl _))
   ·refine Sat.go (Eq.refl _) (NS.yes (by show (!((bs (M1.drop (rdP M1 5))).toList == (⟨#[]⟩ : ByteArray).toList)) = true; rw [hy_M2]; exact emp_t hz) ?_)
    rw [hF, hok, if_neg (by intro h; exact hz (List.isEmpty_iff.1 h))]
    exact Sat.go (Eq.refl _) (NS.ret rfl rfl (LeA.refl _))
  -- WALK ENDS
 ·have hf : fstJ (ls s) = none := by unfold fstJ; rw [if_pos (by simpa using he)]
  rw [hf]
  refine Sat.go (Eq.refl _) (NS.yes (by show ((opL (ls s)).2.2 != 0) = true; simpa using he) ?_)
  exact Sat.go (Eq.refl _) (NS.ret rfl rfl (LeA.refl _))
end Go.Proofs.YtggjngbighkdgaaGreat

namespace Go.Mb
open Go.Sy
def rdJA (l : List Nat) : List Jrec × Nat × Int := if decide ((l.length : Int) > 65536) then ([], 0, 4) else ((rdJ l).1, (rdJ l).2, 0)
structure RdAt (L : List Nat) (at_ : Nat) (o : List Jrec) : Prop where
 le : at_ ≤ L.length
 res : rdJ L = (o ++ (rdJ (L.drop at_)).1, at_ + (rdJ (L.drop at_)).2)
 len : o.length ≤ at_
theorem RdAt.start (L : List Nat) : RdAt L 0 [] := ⟨Nat.zero_le _, by simp, Nat.le_refl _⟩
theorem RdAt.next {L : List Nat} (hL : ∀ x ∈ L, x < 256) {at_ : Nat} {o : List Jrec} (h : RdAt L at_ o) {r : Jrec} {n : Nat} (hf : fstJ (L.drop at_) = some (r, n)) : RdAt L (at_ + n) (o ++ [r]) ∧ 0 < n ∧ at_ + n ≤ L.length := by
 have hd : ∀ x ∈ L.drop at_, x < 256 := fun x hx => hL x (List.mem_of_mem_drop hx)
 obtain ⟨_, h1, h2, _⟩ := fstJ_ok hd hf
 rw [List.length_drop] at h2
 have hle := h.le
 have hlen := h.len
 refine ⟨⟨by omega, ?_, by simp; omega⟩, h1, by omega⟩
 rw [h.res, rdJ_eq hd, hf]
 simp only [List.drop_drop]
 refine Prod.ext ?_ ?_
 ·simp
 ·show at_ + (n + (rdJ (L.drop (at_ + n))).2) = at_ + n + (rdJ (L.drop (at_ + n))).2; omega
theorem RdAt.fin {L : List Nat} (hL : ∀ x ∈ L, x < 256) {at_ : Nat} {o : List Jrec} (h : RdAt L at_ o) (hf : fstJ (L.drop at_) = none) : rdJ L = (o, at_) := by
 rw [h.res, rdJ_eq fun x hx => hL x (List.mem_of_mem_drop hx), hf]
 simp
theorem dropJ (s : ByteArray) (k : Nat) (h : k ≤ s.size) : ls (s.extract (Int.toNat ((k : Nat) : Int)) (Int.toNat ((s.size : Nat) : Int))) = (ls s).drop k := by
 rw [ls_extract]; show ((ls s).take s.size).drop k = _
 rw [List.take_of_length_le (by rw [ls_len]; omega)]
end Go.Mb
namespace Go.Proofs.YtggjngbighkdgaaGreat
open Go.Sy Go.Mb
set_option maxRecDepth 100000
set_option maxHeartbeats 2000000
theorem read_ok (s : ByteArray) : FnOK Tryz.prog 30 [.str s] (.tup [slR (rdJA (ls s)).1, .int .i64 ((rdJA (ls s)).2.1 : Nat), .int .i64 (rdJA (ls s)).2.2], none) := by
 have hL := ls_lt s
 have hn := ls_len s
 by_cases hb : (s.size : Int) > 65536
 ·have e : rdJA (ls s) = ([], 0, 4) := by unfold rdJA; rw [hn, if_pos (decide_eq_true hb)]
  rw [e]
  refine fn_ok CN rfl (by kernel_rfl) Tryz.func30 rfl ?_
  refine Sat.go (Eq.refl _) (NS.yes (decide_eq_true hb) ?_)
  exact Sat.go (Eq.refl _) (NS.ret rfl rfl (LeA.tup3 (LeA.nil' rfl) (LeA.refl _) (LeA.refl _)))
 have e : rdJA (ls s) = ((rdJ (ls s)).1, (rdJ (ls s)).2, 0) := by unfold rdJA; rw [hn, if_neg (by simpa using hb)]
 rw [e]
 refine fn_ok CN rfl (by kernel_rfl) Tryz.func30 rfl ?_
 refine Sat.go (Eq.refl _) (NS.no (decide_eq_false hb) ?_)
 refine Sat.go (Eq.refl _) ?_
 refine NS.loop (σ := { p : Nat × List Jrec // RdAt (ls s) p.1 p.2 }) (fun p => [(0, .str s), (5, .own 5), (6, .int .i64 p.1.1)]) (fun p => [(5, .row 101 19 p.1.2.length (rowL Jrec.cells p.1.2))]) (fun p => (ls s).length - p.1.1) ⟨(0, []), RdAt.start _⟩ ?_ ?_
 ·refine (weak_promote 5 5 101 19 (rowL Jrec.cells []) rfl rfl).trans ?_
  exact weak_hd [] rfl ⟨rfl, rfl, rfl, trivial⟩ ⟨ren_row rfl rfl fun _ _ _ _ => rfl, trivial⟩ trivial (by kernel_rfl)
 rintro ⟨⟨q, o⟩, hR⟩
 have hR : RdAt (ls s) q o := hR
 have hle := hR.le
 have hol := hR.len
 have c := first_ok (s.extract (Int.toNat ((q : Nat) : Int)) (Int.toNat ((s.size : Nat) : Int))) (by rw [← ls_len, dropJ s q (by omega), List.length_drop]; omega)
 rw [dropJ s q (by omega)] at c
 refine Sat.go (Eq.refl _) (NS.need (by show decide (0 ≤ ((q : Nat) : Int) ∧ ((q : Nat) : Int) ≤ s.size ∧ (s.size : Int) ≤ s.size) = true; rw [decide_eq_true_eq]; omega) ?_)
 refine Sat.go (Eq.refl _) (NS.call (c) rfl ?_)
 rcases hf : fstJ ((ls s).drop q) with _ | ⟨r, n⟩
 ·refine Sat.go (Eq.refl _) (NS.yes (rfl) ?_)
  have hfin := hR.fin hL hf
  rw [hfin]
  refine Sat.go (Eq.refl _) (NS.leaveOut rfl (Eq.refl _) (NS.ret rfl rfl (LeA.refl _)))
 ·obtain ⟨hN, hn0, hle2⟩ := hR.next hL hf
  refine Sat.go (Eq.refl _) (NS.no (rfl) ?_)
  have hqb : q ≤ 65536 := by omega
  refine Sat.go (Eq.refl _) (NS.need (decide_eq_true (by simp only [maxRow]; show (o.length + 1) * (159 + 1 + 1) ≤ _; omega)) ?_)
  refine Sat.go (Eq.refl _) (NS.next ⟨(q + n, o ++ [r]), hN⟩ (by show (ls s).length - (q + n) < (ls s).length - q; omega) ?_)
  exact weak_hd [(5, 28)] rfl ⟨rfl, rfl, ren_int rfl (show IntKind.i64.wrap ((q : Nat) + (n : Nat) : Int) = ((q + n : Nat) : Int) by rw [wrap_i64 (by omega) (by omega)]; omega), trivial⟩ ⟨ren_row rfl (by simp) (fun i hi j hj => row_snoc (cells := Jrec.cells) (x := r) rfl i (by simpa using hi) j hj), trivial⟩ trivial (by kernel_rfl)
end Go.Proofs.YtggjngbighkdgaaGreat

namespace Go.Proofs.YtggjngbighkdgaaGreat
open Go.Sy Go.Mb
def wrN (n : Nod) (r : Jrec) : Nod := { n with jour := bs (appM (ls n.jour) [r]).1, dur := (applyM n.dur r).1, last := if r.kind == 1 || r.kind == 3 then ((bs (appM (ls n.jour) [r]).1).size : Int) else n.last }
def wr (n : Nod) (r : Jrec) : Nod × Int :=
 if (appM (ls n.jour) [r]).2 != 0 then (n, 4)
 else if (applyM n.dur r).2 != 0 then (n, (applyM n.dur r).2)
 else (wrN n r, 0)
structure Wst where
 n : Nod
 acts : List Mb.Act
 err : Int
def wCells (w : Wst) (e : Evt) (a : A) : List A := [.int .i64 w.n.self, .int .i64 w.n.quota, .bool w.n.up, .str w.n.jour, .int .i64 w.n.last, slItm w.n.dur.items, slItm w.n.dur.inbox, slOfr w.n.ofs, .int .i64 e.kind, .int .i64 e.time, .int .i64 e.item.ticket, .int .i64 e.item.id.source, .int .i64 e.item.id.created, .int .i64 e.item.id.seq, .int .i64 e.item.id.off, .int .i64 e.item.id.total, .int .i64 e.item.dest, .int .i64 e.item.expires, .int .i64 e.item.prio, .bool e.item.custody, .str e.item.data, .int .i64 e.id.source, .int .i64 e.id.created, .int .i64 e.id.seq, .int .i64 e.id.off, .int .i64 e.id.total, .int .i64 e.contact, .int .i64 e.due, .bool e.acc, .int .i64 e.ticket, a, .int .i64 w.err]
def Wst.write (w : Wst) : List Jrec → Wst
 | [] => w
 | r :: _ => ⟨(wr w.n r).1, w.acts, if (wr w.n r).2 != 0 then (wr w.n r).2 else w.err⟩
def Wst.act (w : Wst) (a : Mb.Act) : Wst := ⟨w.n, w.acts ++ [a], w.err⟩
def Wst.setO (w : Wst) (l : List Ofr) : Wst := ⟨{ w.n with ofs := l }, w.acts, w.err⟩
def Wst.remove (w : Wst) (t : Int) (x : Itm) : Wst :=
 ((w.write [⟨2, .zero, x.id, 0, t⟩]).setO ((w.write [⟨2, .zero, x.id, 0, t⟩]).n.ofs.filter (nt (ofId x.id)))).act ⟨5, x, 0, 0⟩
def Wst.settle (w : Wst) (t : Int) (id : Nid) (s a : Bool) : Wst :=
 if !(findM w.n.dur id).2 then w else if decM (findM w.n.dur id).1.custody s a == 3 then w.act ⟨4, (findM w.n.dur id).1, 0, 0⟩ else w.remove t (findM w.n.dur id).1
def kindP (w : Wst) (e : Evt) (r : Int) : Int := if r == 4 || r == 5 || (r == 3 && w.n.ofs.any (ofId e.item.id)) then 3 else 2
def putW (w : Wst) (e : Evt) : Wst :=
 if (putM w.n.dur w.n.self w.n.quota e.item e.time).2.2 != 0 then ⟨w.n, w.acts, (putM w.n.dur w.n.self w.n.quota e.item e.time).2.2⟩
 else (w.write (putM w.n.dur w.n.self w.n.quota e.item e.time).1).act ⟨kindP w e (putM w.n.dur w.n.self w.n.quota e.item e.time).2.1, e.item, 0, (putM w.n.dur w.n.self w.n.quota e.item e.time).2.1⟩
def sendW (w : Wst) (e : Evt) : Wst :=
 if !(findM w.n.dur e.id).2 then w
 else if (beginM w.n.ofs e.id e.contact e.due).2 == 0 then (w.setO (beginM w.n.ofs e.id e.contact e.due).1).act ⟨1, (findM w.n.dur e.id).1, e.contact, 0⟩
 else if (beginM w.n.ofs e.id e.contact e.due).2 == 6 then w else ⟨w.n, w.acts, (beginM w.n.ofs e.id e.contact e.due).2⟩
def signalW (w : Wst) (e : Evt) : Wst :=
 if (signalM w.n.ofs e.id e.contact).2.1 == 1 then w else (w.setO (signalM w.n.ofs e.id e.contact).1).settle e.time e.id true e.acc
def tmN (l : List Ofr) (t : Int) (w : Wst) : Nat → Wst
 | 0 => w
 | k + 1 => if k == 0 || !((l.getD (k - 1) default).id.eqv (l.getD k default).id) then (tmN l t w k).settle t (l.getD k default).id false false else tmN l t w k
def timerW (w : Wst) (e : Evt) : Wst := tmN (dueM w.n.ofs e.time).1 e.time (w.setO (dueM w.n.ofs e.time).2.1) (dueM w.n.ofs e.time).1.length
def exN (l : List Jrec) (t : Int) (w : Wst) : Nat → Wst
 | 0 => w
 | k + 1 => if (findM (exN l t w k).n.dur (l.getD k default).id).2 then (exN l t w k).remove t (findM (exN l t w k).n.dur (l.getD k default).id).1 else exN l t w k
def expireW (w : Wst) (e : Evt) : Wst :=
 if (expireM w.n.dur e.time).2 != 0 then ⟨w.n, w.acts, (expireM w.n.dur e.time).2⟩ else exN (expireM w.n.dur e.time).1 e.time w (expireM w.n.dur e.time).1.length
def dropW (w : Wst) (e : Evt) : Wst := if (findM w.n.dur e.id).2 then w.remove e.time (findM w.n.dur e.id).1 else w
def ticketW (w : Wst) (e : Evt) : Wst := if (findM w.n.dur e.id).2 then w.write [⟨4, .zero, e.id, e.ticket, e.time⟩] else w
def kindW (w : Wst) (e : Evt) : Wst :=
 if e.kind == 1 then putW w e else if e.kind == 2 then sendW w e else if e.kind == 3 then signalW w e else if e.kind == 4 then timerW w e else if e.kind == 5 then expireW w e else if e.kind == 6 then dropW w e else ticketW w e
def evE (e : Evt) : Int :=
 if !inR e.kind 1 7 then 8
 else if inR e.time 0 1099511627776 && (if e.kind == 1 then okItem e.item else if e.kind == 2 then vId e.id && inR e.contact 0 63 && inR e.due 0 1099511627777 else if e.kind == 3 then vId e.id && inR e.contact 0 63 else if e.kind == 6 then vId e.id else if e.kind == 7 then vId e.id && inR e.ticket 0 1152921504606846976 else true) then 0 else 2
def zeroN : Nod := ⟨0, 0, false, .empty, 0, ⟨[], []⟩, []⟩
def startW (n : Nod) : Wst := ⟨{ n with last := (n.jour.size : Int) }, [], 0⟩
def goM (n : Nod) (e : Evt) : Nod × List Mb.Act × Int :=
 if evE e != 0 then (zeroN, [], evE e) else if !n.up then (zeroN, [], 29)
 else if (kindW (startW n) e).err != 0 then (zeroN, [], (kindW (startW n) e).err) else ((kindW (startW n) e).n, (kindW (startW n) e).acts, 0)
end Go.Proofs.YtggjngbighkdgaaGreat

namespace Go.Proofs.YtggjngbighkdgaaGreat
open Go.Sy Go.Mb
set_option maxRecDepth 100000
set_option maxHeartbeats 4000000
def lookO : List (Nat × Ob) → Nat → Ob
 | [], _ => .dead
 | (k, o) :: os, i => match Nat.beq k i with | true => o | false => lookO os i
def mkO (os : List (Nat × Ob)) : Nat → Nat → List Ob
 | 0, _ => []
 | n + 1, i => lookO os i :: mkO os n (i + 1)
def rowAct (l : List Mb.Act) : Ob := .row 63 14 l.length (rowL Mb.Act.cells l)
def zB : Ob := .box [.int .i64 0, .int .i64 0, .bool false, .str .empty, .int .i64 0, .nils, .nils, .nils]
def wL (n : Nat) (x : Ob) (w : Wst) (e : Evt) : List Ob := mkO [(4, zB), (23, .box (wCells w e (.own 110))), (33, x), (110, rowAct w.acts)] n 0
theorem renW (σ : Nat → Nat) (w : Wst) (e : Evt) {j k : Nat} (h : σ j = k) : RenL σ (wCells w e (.own j)) (wCells w e (.own k)) := by
 subst h
 exact ⟨_, _, rfl, rfl, _, _, rfl, rfl, _, _, rfl, .inl rfl, _, _, rfl, rfl, _, _, rfl, rfl, _, _, rfl, rfl, _, _, rfl, rfl, _, _, rfl, rfl,
  _, _, rfl, rfl, _, _, rfl, rfl, _, _, rfl, rfl, _, _, rfl, rfl, _, _, rfl, rfl, _, _, rfl, rfl, _, _, rfl, rfl, _, _, rfl, rfl, _, _, rfl, rfl, _, _, rfl, rfl, _, _, rfl, rfl, _, _, rfl, .inl rfl, _, _, rfl, rfl, _, _, rfl, rfl, _, _, rfl, rfl, _, _, rfl, rfl, _, _, rfl, rfl, _, _, rfl, rfl, _, _, rfl, rfl, _, _, rfl, rfl, _, _, rfl, .inl rfl, _, _, rfl, rfl,
  _, _, rfl, rfl, _, _, rfl, rfl, rfl⟩
theorem renW2 (σ : Nat → Nat) {w : Wst} (w' : Wst) (e : Evt) (hw : w = w') {j k : Nat} (h : σ j = k) : RenL σ (wCells w e (.own j)) (wCells w' e (.own k)) := by subst hw; exact renW σ w e h
noncomputable def EZ : Env := { P := Tryz.prog, eqT := lookE eqTab, mu := [] }
theorem EZ_ok : EqOK EZ := eqOK_of eqTab_ok
noncomputable def CZ : Cx := { E := EZ, inl := [], ok := EZ_ok }
def wrK (w : Wst) (r : Jrec) : Nat → Wst
 | 0 => w
 | _ + 1 => ⟨(wr w.n r).1, w.acts, w.err⟩
theorem write_one (w : Wst) {l : List Jrec} (h : 0 < l.length) : w.write l = ⟨(wr w.n (l.getD 0 default)).1, w.acts, if (wr w.n (l.getD 0 default)).2 != 0 then (wr w.n (l.getD 0 default)).2 else w.err⟩ := by
 cases l with
 | nil => cases h
 | cons r l => rfl
theorem writeD_ok (w : Wst) (e : Evt) (l : List Jrec) (hl : l.length ≤ 1) (h1 : w.n.dur.items.length ≤ 900000) (h2 : w.n.dur.inbox.length ≤ 900000) (h3 : w.n.jour.size ≤ 100000) :
  FnIn Tryz.prog 173 [.ptr 23 0, slR l] (wL 165 (.dead) w e) 185 (.tup []) (putOs (takeO 185 (wL 165 (.dead) w e)) [(23, .box (wCells (w.write l) e (.own 110)))]) := by
 refine fn_in CZ rfl (by kernel_rfl) Tryz.func173 rfl ?_
 refine Sat.go (Eq.refl _) ?_
 refine NS.loop (σ := { k : Nat // k ≤ l.length ∧ (0 < k → (wr w.n (l.getD 0 default)).2 = 0) }) (fun k => [(0, .ptr 23 0), (9, slR l), (10, .int .i64 l.length), (11, .int .i64 k.1)]) (fun k => [(23, .box (wCells (wrK w (l.getD 0 default) k.1) e (.own 110)))]) (fun k => l.length - k.1) ⟨0, Nat.zero_le _, fun h => absurd h (Nat.lt_irrefl _)⟩ ?_ ?_
 ·exact weak_hd [] rfl ⟨rfl, rfl, rfl, rfl, trivial⟩ ⟨⟨_, rfl, renW _ _ _ rfl⟩, trivial⟩ (Pre_cut (by kernel_rfl)) (by kernel_rfl)
 rintro ⟨k, hk, hr⟩
 refine Sat.go (Eq.refl _) (NS.ite (fun h => ?_) (fun h => ?_))
 ·have h : k < l.length := by simpa using h
  obtain rfl : k = 0 := by omega
  have hw := write_one w (l := l) h
  refine Sat.go (Eq.refl _) (NS.need (by simp; omega) ?_)
  refine Sat.go (Eq.refl _) (NS.chk (by kernel_rfl) ?_)
  refine Sat.go (Eq.refl _) (NS.call ((append_ok w.n.jour [l.getD 0 default] (by omega) (by simp)).le (LeL.cons (LeA.refl _) (LeL.cons (LeA.sl rfl (row_one rfl)) LeL.nil))) rfl ?_)
  refine Sat.go (Eq.refl _) (NS.ite (fun q1 => ?_) (fun q1 => ?_))
  ·rw [show wr w.n (l.getD 0 default) = (w.n, 4) from if_pos q1] at hw
   exact Sat.go (Eq.refl _) (NS.leaveOut rfl (Eq.refl _) (NS.fin (ts := []) rfl (weak_hd [] rfl trivial ⟨⟨_, rfl, by rw [hw]; exact renW _ ⟨w.n, w.acts, 4⟩ e rfl⟩, trivial⟩ (Pre_cut (by kernel_rfl)) (by kernel_rfl)) rfl (LeA.refl _)))
  refine Sat.go (Eq.refl _) (NS.chk (by kernel_rfl) ?_)
  refine Sat.go (Eq.refl _) (NS.call (apply_ok w.n.dur (l.getD 0 default) (by omega) (by omega)) rfl ?_)
  refine Sat.go (Eq.refl _) (NS.ite (fun q2 => ?_) (fun q2 => ?_))
  ·rw [show wr w.n (l.getD 0 default) = (w.n, (applyM w.n.dur (l.getD 0 default)).2) from by unfold wr; rw [if_neg (by rw [q1]; decide), if_pos q2]] at hw
   rw [if_pos q2] at hw
   exact Sat.go (Eq.refl _) (NS.leaveOut rfl (Eq.refl _) (NS.fin (ts := []) rfl (weak_hd [] rfl trivial ⟨⟨_, rfl, by rw [hw]; exact renW _ ⟨w.n, w.acts, (applyM w.n.dur (l.getD 0 default)).2⟩ e rfl⟩, trivial⟩ (Pre_cut (by kernel_rfl)) (by kernel_rfl)) rfl (LeA.refl _)))
  have hwr : wr w.n (l.getD 0 default) = (wrN w.n (l.getD 0 default), 0) := by unfold wr; rw [if_neg (by rw [q1]; decide), if_neg (by rw [q2]; decide)]
  refine Sat.go (Eq.refl _) (NS.chk (by kernel_rfl) ?_)
  refine Sat.go (Eq.refl _) (NS.ite (fun q3 => ?_) (fun q3 => ?_))
  ·have hn : wrN w.n (l.getD 0 default) = { w.n with jour := bs (appM (ls w.n.jour) [l.getD 0 default]).1, dur := (applyM w.n.dur (l.getD 0 default)).1, last := ((bs (appM (ls w.n.jour) [l.getD 0 default]).1).size : Int) } := by unfold wrN; rw [show ((l.getD 0 default).kind == 1) = true from q3]; rfl
   rw [hn] at hwr
   refine Sat.go (Eq.refl _) (NS.next ⟨1, by omega, fun _ => by rw [hwr]⟩ (by show l.length - 1 < l.length - 0; omega) ?_)
   exact weak_hd [] rfl ⟨rfl, rfl, rfl, ren_int rfl (i64_k (k := 0) (by omega) (by omega)), trivial⟩ ⟨⟨_, rfl, renW2 _ ⟨{ w.n with jour := bs (appM (ls w.n.jour) [l.getD 0 default]).1, dur := (applyM w.n.dur (l.getD 0 default)).1, last := ((bs (appM (ls w.n.jour) [l.getD 0 default]).1).size : Int) }, w.acts, w.err⟩ e (by show (⟨(wr w.n (l.getD 0 default)).1, w.acts, w.err⟩ : Wst) = _; rw [hwr]) rfl⟩, trivial⟩ (Pre_cut (by kernel_rfl)) (by kernel_rfl)
  ·refine Sat.go (Eq.refl _) (NS.ite (fun q4 => ?_) (fun q4 => ?_))
   ·have hn : wrN w.n (l.getD 0 default) = { w.n with jour := bs (appM (ls w.n.jour) [l.getD 0 default]).1, dur := (applyM w.n.dur (l.getD 0 default)).1, last := ((bs (appM (ls w.n.jour) [l.getD 0 default]).1).size : Int) } := by unfold wrN; rw [show ((l.getD 0 default).kind == 1) = false from q3, show ((l.getD 0 default).kind == 3) = true from q4]; rfl
    rw [hn] at hwr
    refine Sat.go (Eq.refl _) (NS.next ⟨1, by omega, fun _ => by rw [hwr]⟩ (by show l.length - 1 < l.length - 0; omega) ?_)
    exact weak_hd [] rfl ⟨rfl, rfl, rfl, ren_int rfl (i64_k (k := 0) (by omega) (by omega)), trivial⟩ ⟨⟨_, rfl, renW2 _ ⟨{ w.n with jour := bs (appM (ls w.n.jour) [l.getD 0 default]).1, dur := (applyM w.n.dur (l.getD 0 default)).1, last := ((bs (appM (ls w.n.jour) [l.getD 0 default]).1).size : Int) }, w.acts, w.err⟩ e (by show (⟨(wr w.n (l.getD 0 default)).1, w.acts, w.err⟩ : Wst) = _; rw [hwr]) rfl⟩, trivial⟩ (Pre_cut (by kernel_rfl)) (by kernel_rfl)
   ·have hn : wrN w.n (l.getD 0 default) = { w.n with jour := bs (appM (ls w.n.jour) [l.getD 0 default]).1, dur := (applyM w.n.dur (l.getD 0 default)).1, last := w.n.last } := by unfold wrN; rw [show ((l.getD 0 default).kind == 1) = false from q3, show ((l.getD 0 default).kind == 3) = false from q4]; rfl
    rw [hn] at hwr
    refine Sat.go (Eq.refl _) (NS.next ⟨1, by omega, fun _ => by rw [hwr]⟩ (by show l.length - 1 < l.length - 0; omega) ?_)
    exact weak_hd [] rfl ⟨rfl, rfl, rfl, ren_int rfl (i64_k (k := 0) (by omega) (by omega)), trivial⟩ ⟨⟨_, rfl, renW2 _ ⟨{ w.n with jour := bs (appM (ls w.n.jour) [l.getD 0 default]).1, dur := (applyM w.n.dur (l.getD 0 default)).1, last := w.n.last }, w.acts, w.err⟩ e (by show (⟨(wr w.n (l.getD 0 default)).1, w.acts, w.err⟩ : Wst) = _; rw [hwr]) rfl⟩, trivial⟩ (Pre_cut (by kernel_rfl)) (by kernel_rfl)
 ·have h : ¬ k < l.length := by simpa using h
  obtain rfl : k = l.length := by omega
  refine Sat.go (Eq.refl _) (NS.leave rfl (Eq.refl _) ?_)
  rcases l with _ | ⟨r, _ | ⟨r2, l⟩⟩
  ·exact Sat.go (Eq.refl _) (NS.fin (ts := []) rfl (weak_hd [] rfl trivial ⟨⟨_, rfl, renW _ w e rfl⟩, trivial⟩ (Pre_cut (by kernel_rfl)) (by kernel_rfl)) rfl (LeA.refl _))
  ·have hr : (wr w.n r).2 = 0 := hr (by simp)
   have hw := write_one w (l := [r]) (by simp)
   rw [show (wr w.n ([r].getD 0 default)).2 = 0 from hr] at hw
   exact Sat.go (Eq.refl _) (NS.fin (ts := []) rfl (weak_hd [] rfl trivial ⟨⟨_, rfl, by rw [hw]; exact renW _ ⟨(wr w.n r).1, w.acts, w.err⟩ e rfl⟩, trivial⟩ (Pre_cut (by kernel_rfl)) (by kernel_rfl)) rfl (LeA.refl _))
  ·simp at hl
theorem writeP_ok (w : Wst) (e : Evt) (l : List Jrec) (hl : l.length ≤ 1) (h1 : w.n.dur.items.length ≤ 900000) (h2 : w.n.dur.inbox.length ≤ 900000) (h3 : w.n.jour.size ≤ 100000) :
  FnIn Tryz.prog 173 [.ptr 23 0, slR l] (wL 165 (.box [.ptr 23 0]) w e) 185 (.tup []) (putOs (takeO 185 (wL 165 (.box [.ptr 23 0]) w e)) [(23, .box (wCells (w.write l) e (.own 110)))]) := by
 refine fn_in CZ rfl (by kernel_rfl) Tryz.func173 rfl ?_
 refine Sat.go (Eq.refl _) ?_
 refine NS.loop (σ := { k : Nat // k ≤ l.length ∧ (0 < k → (wr w.n (l.getD 0 default)).2 = 0) }) (fun k => [(0, .ptr 23 0), (9, slR l), (10, .int .i64 l.length), (11, .int .i64 k.1)]) (fun k => [(23, .box (wCells (wrK w (l.getD 0 default) k.1) e (.own 110)))]) (fun k => l.length - k.1) ⟨0, Nat.zero_le _, fun h => absurd h (Nat.lt_irrefl _)⟩ ?_ ?_
 ·exact weak_hd [] rfl ⟨rfl, rfl, rfl, rfl, trivial⟩ ⟨⟨_, rfl, renW _ _ _ rfl⟩, trivial⟩ (Pre_cut (by kernel_rfl)) (by kernel_rfl)
 rintro ⟨k, hk, hr⟩
 refine Sat.go (Eq.refl _) (NS.ite (fun h => ?_) (fun h => ?_))
 ·have h : k < l.length := by simpa using h
  obtain rfl : k = 0 := by omega
  have hw := write_one w (l := l) h
  refine Sat.go (Eq.refl _) (NS.need (by simp; omega) ?_)
  refine Sat.go (Eq.refl _) (NS.chk (by kernel_rfl) ?_)
  refine Sat.go (Eq.refl _) (NS.call ((append_ok w.n.jour [l.getD 0 default] (by omega) (by simp)).le (LeL.cons (LeA.refl _) (LeL.cons (LeA.sl rfl (row_one rfl)) LeL.nil))) rfl ?_)
  refine Sat.go (Eq.refl _) (NS.ite (fun q1 => ?_) (fun q1 => ?_))
  ·rw [show wr w.n (l.getD 0 default) = (w.n, 4) from if_pos q1] at hw
   exact Sat.go (Eq.refl _) (NS.leaveOut rfl (Eq.refl _) (NS.fin (ts := []) rfl (weak_hd [] rfl trivial ⟨⟨_, rfl, by rw [hw]; exact renW _ ⟨w.n, w.acts, 4⟩ e rfl⟩, trivial⟩ (Pre_cut (by kernel_rfl)) (by kernel_rfl)) rfl (LeA.refl _)))
  refine Sat.go (Eq.refl _) (NS.chk (by kernel_rfl) ?_)
  refine Sat.go (Eq.refl _) (NS.call (apply_ok w.n.dur (l.getD 0 default) (by omega) (by omega)) rfl ?_)
  refine Sat.go (Eq.refl _) (NS.ite (fun q2 => ?_) (fun q2 => ?_))
  ·rw [show wr w.n (l.getD 0 default) = (w.n, (applyM w.n.dur (l.getD 0 default)).2) from by unfold wr; rw [if_neg (by rw [q1]; decide), if_pos q2]] at hw
   rw [if_pos q2] at hw
   exact Sat.go (Eq.refl _) (NS.leaveOut rfl (Eq.refl _) (NS.fin (ts := []) rfl (weak_hd [] rfl trivial ⟨⟨_, rfl, by rw [hw]; exact renW _ ⟨w.n, w.acts, (applyM w.n.dur (l.getD 0 default)).2⟩ e rfl⟩, trivial⟩ (Pre_cut (by kernel_rfl)) (by kernel_rfl)) rfl (LeA.refl _)))
  have hwr : wr w.n (l.getD 0 default) = (wrN w.n (l.getD 0 default), 0) := by unfold wr; rw [if_neg (by rw [q1]; decide), if_neg (by rw [q2]; decide)]
  refine Sat.go (Eq.refl _) (NS.chk (by kernel_rfl) ?_)
  refine Sat.go (Eq.refl _) (NS.ite (fun q3 => ?_) (fun q3 => ?_))
  ·have hn : wrN w.n (l.getD 0 default) = { w.n with jour := bs (appM (ls w.n.jour) [l.getD 0 default]).1, dur := (applyM w.n.dur (l.getD 0 default)).1, last := ((bs (appM (ls w.n.jour) [l.getD 0 default]).1).size : Int) } := by unfold wrN; rw [show ((l.getD 0 default).kind == 1) = true from q3]; rfl
   rw [hn] at hwr
   refine Sat.go (Eq.refl _) (NS.next ⟨1, by omega, fun _ => by rw [hwr]⟩ (by show l.length - 1 < l.length - 0; omega) ?_)
   exact weak_hd [] rfl ⟨rfl, rfl, rfl, ren_int rfl (i64_k (k := 0) (by omega) (by omega)), trivial⟩ ⟨⟨_, rfl, renW2 _ ⟨{ w.n with jour := bs (appM (ls w.n.jour) [l.getD 0 default]).1, dur := (applyM w.n.dur (l.getD 0 default)).1, last := ((bs (appM (ls w.n.jour) [l.getD 0 default]).1).size : Int) }, w.acts, w.err⟩ e (by show (⟨(wr w.n (l.getD 0 default)).1, w.acts, w.err⟩ : Wst) = _; rw [hwr]) rfl⟩, trivial⟩ (Pre_cut (by kernel_rfl)) (by kernel_rfl)
  ·refine Sat.go (Eq.refl _) (NS.ite (fun q4 => ?_) (fun q4 => ?_))
   ·have hn : wrN w.n (l.getD 0 default) = { w.n with jour := bs (appM (ls w.n.jour) [l.getD 0 default]).1, dur := (applyM w.n.dur (l.getD 0 default)).1, last := ((bs (appM (ls w.n.jour) [l.getD 0 default]).1).size : Int) } := by unfold wrN; rw [show ((l.getD 0 default).kind == 1) = false from q3, show ((l.getD 0 default).kind == 3) = true from q4]; rfl
    rw [hn] at hwr
    refine Sat.go (Eq.refl _) (NS.next ⟨1, by omega, fun _ => by rw [hwr]⟩ (by show l.length - 1 < l.length - 0; omega) ?_)
    exact weak_hd [] rfl ⟨rfl, rfl, rfl, ren_int rfl (i64_k (k := 0) (by omega) (by omega)), trivial⟩ ⟨⟨_, rfl, renW2 _ ⟨{ w.n with jour := bs (appM (ls w.n.jour) [l.getD 0 default]).1, dur := (applyM w.n.dur (l.getD 0 default)).1, last := ((bs (appM (ls w.n.jour) [l.getD 0 default]).1).size : Int) }, w.acts, w.err⟩ e (by show (⟨(wr w.n (l.getD 0 default)).1, w.acts, w.err⟩ : Wst) = _; rw [hwr]) rfl⟩, trivial⟩ (Pre_cut (by kernel_rfl)) (by kernel_rfl)
   ·have hn : wrN w.n (l.getD 0 default) = { w.n with jour := bs (appM (ls w.n.jour) [l.getD 0 default]).1, dur := (applyM w.n.dur (l.getD 0 default)).1, last := w.n.last } := by unfold wrN; rw [show ((l.getD 0 default).kind == 1) = false from q3, show ((l.getD 0 default).kind == 3) = false from q4]; rfl
    rw [hn] at hwr
    refine Sat.go (Eq.refl _) (NS.next ⟨1, by omega, fun _ => by rw [hwr]⟩ (by show l.length - 1 < l.length - 0; omega) ?_)
    exact weak_hd [] rfl ⟨rfl, rfl, rfl, ren_int rfl (i64_k (k := 0) (by omega) (by omega)), trivial⟩ ⟨⟨_, rfl, renW2 _ ⟨{ w.n with jour := bs (appM (ls w.n.jour) [l.getD 0 default]).1, dur := (applyM w.n.dur (l.getD 0 default)).1, last := w.n.last }, w.acts, w.err⟩ e (by show (⟨(wr w.n (l.getD 0 default)).1, w.acts, w.err⟩ : Wst) = _; rw [hwr]) rfl⟩, trivial⟩ (Pre_cut (by kernel_rfl)) (by kernel_rfl)
 ·have h : ¬ k < l.length := by simpa using h
  obtain rfl : k = l.length := by omega
  refine Sat.go (Eq.refl _) (NS.leave rfl (Eq.refl _) ?_)
  rcases l with _ | ⟨r, _ | ⟨r2, l⟩⟩
  ·exact Sat.go (Eq.refl _) (NS.fin (ts := []) rfl (weak_hd [] rfl trivial ⟨⟨_, rfl, renW _ w e rfl⟩, trivial⟩ (Pre_cut (by kernel_rfl)) (by kernel_rfl)) rfl (LeA.refl _))
  ·have hr : (wr w.n r).2 = 0 := hr (by simp)
   have hw := write_one w (l := [r]) (by simp)
   rw [show (wr w.n ([r].getD 0 default)).2 = 0 from hr] at hw
   exact Sat.go (Eq.refl _) (NS.fin (ts := []) rfl (weak_hd [] rfl trivial ⟨⟨_, rfl, by rw [hw]; exact renW _ ⟨(wr w.n r).1, w.acts, w.err⟩ e rfl⟩, trivial⟩ (Pre_cut (by kernel_rfl)) (by kernel_rfl)) rfl (LeA.refl _))
  ·simp at hl
end Go.Proofs.YtggjngbighkdgaaGreat

namespace Go.Mb
open Go.Sy
section
variable {α : Type} [Inhabited α]
theorem filter_snocG {p : α → Bool} {l : List α} {k : Nat} (h : k < l.length) : (l.take (k + 1)).filter p = (l.take k).filter p ++ (if p (l.getD k default) then [l.getD k default] else []) := by
 rw [take_snoc h, List.filter_append, List.filter_cons]
 split <;> simp
def keepG (p : α → Bool) (l : List α) : List α := l.filter fun x => !p x
def DelG (p : α → Bool) (l L : List α) (j : Nat) : Prop :=
 L.length = l.length ∧ j ≤ l.length ∧ L.take (keepG p (l.take j)).length = keepG p (l.take j) ∧ ∀ q, j ≤ q → q < l.length → L.getD q default = l.getD q default
theorem keepG_le (p : α → Bool) (l : List α) (j : Nat) : (keepG p (l.take j)).length ≤ j := Nat.le_trans (List.length_filter_le _ _) (by simp; omega)
theorem keepG_snoc {p : α → Bool} {l : List α} {j : Nat} (h : j < l.length) : keepG p (l.take (j + 1)) = keepG p (l.take j) ++ (if p (l.getD j default) then [] else [l.getD j default]) := by
 unfold keepG
 rw [filter_snocG h]
 cases p (l.getD j default) <;> rfl
theorem delG_start {p : α → Bool} {l : List α} {k : Nat} (hk : k < l.length) (hp : p (l.getD k default) = true) (hn : ∀ i, i < k → p (l.getD i default) = false) : DelG p l l (k + 1) ∧ (keepG p (l.take (k + 1))).length = k := by
 have h1 : keepG p (l.take k) = l.take k := by
  unfold keepG
  rw [List.filter_eq_self]
  intro x hx
  obtain ⟨i, hi, rfl⟩ := List.getElem_of_mem hx
  have hik : i < k := by simp at hi; omega
  have := hn i hik
  rw [getD_lt (by omega)] at this
  rw [List.getElem_take, this]; rfl
 have h2 : keepG p (l.take (k + 1)) = l.take k := by rw [keepG_snoc hk, if_pos hp, h1]; simp
 have h3 : (keepG p (l.take (k + 1))).length = k := by rw [h2]; simp; omega
 exact ⟨⟨rfl, hk, by rw [h3, h2], fun _ _ _ => rfl⟩, h3⟩
theorem delG_keep {p : α → Bool} {l L : List α} {j : Nat} (h : DelG p l L j) (hj : j < l.length) (hp : p (l.getD j default) = false) : DelG p l (L.set (keepG p (l.take j)).length (l.getD j default)) (j + 1) := by
 obtain ⟨h1, h2, h3, h4⟩ := h
 have hle := keepG_le p l j
 have hs : keepG p (l.take (j + 1)) = keepG p (l.take j) ++ [l.getD j default] := by rw [keepG_snoc hj, hp]; rfl
 refine ⟨by simp [h1], hj, ?_, fun q hq hql => ?_⟩
 ·rw [hs, List.length_append, List.length_singleton, take_snoc (by simp; omega), getD_setG _ _ _ _ (by omega), if_pos rfl, List.take_set_of_le (Nat.le_refl _), h3]
 ·rw [getD_setG _ _ _ _ (by omega), if_neg (by omega)]
  exact h4 q (by omega) hql
theorem delG_drop {p : α → Bool} {l L : List α} {j : Nat} (h : DelG p l L j) (hj : j < l.length) (hp : p (l.getD j default) = true) : DelG p l L (j + 1) ∧ keepG p (l.take (j + 1)) = keepG p (l.take j) := by
 obtain ⟨h1, h2, h3, h4⟩ := h
 have hs : keepG p (l.take (j + 1)) = keepG p (l.take j) := by rw [keepG_snoc hj, hp]; simp
 exact ⟨⟨h1, hj, by rw [hs]; exact h3, fun q hq hql => h4 q (by omega) hql⟩, hs⟩
theorem delG_end {p : α → Bool} {l L : List α} (h : DelG p l L l.length) : ∀ q, q < (keepG p l).length → L.getD q default = (keepG p l).getD q default := by
 obtain ⟨h1, h2, h3, h4⟩ := h
 rw [List.take_length] at h3
 have hle : (keepG p l).length ≤ l.length := List.length_filter_le _ _
 intro q hq
 rw [getD_lt (by omega), getD_lt hq]
 have : (L.take (keepG p l).length)[q]'(by simp; omega) = (keepG p l)[q] := by congr 1
 rw [← this, List.getElem_take]
theorem keepG_lt {p : α → Bool} {l : List α} {k : Nat} (hk : k < l.length) (hp : p (l.getD k default) = true) : (keepG p l).length < l.length := by
 unfold keepG
 rw [List.length_filter_lt_length_iff_exists]
 exact ⟨l.getD k default, by rw [getD_lt hk]; exact List.getElem_mem hk, by rw [hp]; simp⟩
theorem keepG_none {p : α → Bool} {l : List α} (h : ∀ x ∈ l, p x = false) : keepG p l = l := by
 unfold keepG
 rw [List.filter_eq_self]
 intro x hx
 rw [h x hx]; rfl
end
end Go.Mb

namespace Go.Proofs.YtggjngbighkdgaaGreat
open Go.Sy Go.Mb
set_option maxRecDepth 100000
set_option maxHeartbeats 4000000
def rowOf (l : List Ofr) : Ob := .row 67 8 l.length (rowL Ofr.cells l)
def wD (L : List Ofr) (w : Wst) (e : Evt) : List Ob := mkO [(4, zB), (23, .box (wCells w e (.own 110))), (110, rowAct w.acts), (171, rowOf L)] 181 0
theorem delO_ok (w : Wst) (e : Evt) (L : List Ofr) (hL : L.length ≤ 1000) (f c : Nat) (el : Nat → A) (p : Ofr → Bool) (hc : ∀ x, FnOK Tryz.prog f [.agg (Ofr.cells x), .ip c el] (.bool (p x), none)) :
  FnIn Tryz.prog 225 [.own 171, .fn f [.ip c el]] (wD L w e) 181 (slOfr (keepG p L)) (putOs (takeO 181 (wD L w e)) [(171, .dead)]) := by
 refine fn_in CZ rfl (by kernel_rfl) Tryz.func225 rfl ?_
 refine Sat.go (Eq.refl _) (NS.call (idxO_ok L (by omega) f c el p hc) rfl ?_)
 rcases idx_cases p L with ⟨h1, h2⟩ | ⟨k, hk, e, hpk, hnk⟩
 ·refine Sat.go (Eq.refl _) (NS.yes (by rw [h1]; rfl) ?_)
  refine Sat.go (Eq.refl _) (NS.fin (ts := [(4, .sl 8 L.length (rowL Ofr.cells L))]) rfl ((frzX 4 171 300 (by kernel_rfl) rfl).weak.trans (weak_hd [] rfl ⟨rfl, trivial⟩ ⟨rfl, trivial⟩ (Pre_cut (by kernel_rfl)) (by kernel_rfl))) rfl ?_)
  rw [keepG_none h2]
  exact LeA.refl _
 ·refine Sat.go (Eq.refl _) (NS.no (by rw [e]; simp) ?_)
  obtain ⟨hi0, hl0⟩ := delG_start hk hpk hnk
  refine Sat.go (Eq.refl _) ?_
  refine NS.loop (σ := { q : Nat × List Ofr // DelG p L q.2 q.1 }) (fun q => [(0, .own 171), (1, .fn f [.ip c el]), (5, .int .i64 (keepG p (L.take q.1.1)).length), (6, .int .i64 q.1.1)]) (fun q => [(171, .row 67 8 q.1.2.length (rowL Ofr.cells q.1.2))]) (fun q => L.length - q.1.1) ⟨(k + 1, L), hi0⟩ ?_ ?_
  ·exact weak_hd [] rfl ⟨rfl, rfl, ren_int rfl (by rw [e]; show (k : Int) = ((keepG p (L.take (k + 1))).length : Int); rw [hl0]), ren_int rfl (by rw [e, wrap_i64 (by omega) (by omega)]; rfl), trivial⟩ ⟨ren_row rfl rfl fun _ _ _ _ => rfl, trivial⟩ (Pre_cut (by kernel_rfl)) (by kernel_rfl)
  rintro ⟨⟨j, M⟩, hi⟩
  have hi : DelG p L M j := hi
  have hle := keepG_le p L j
  have hM := hi.1
  have hj := hi.2.1
  refine Sat.go (Eq.refl _) (NS.ite (fun a => ?_) (fun a => ?_))
  ·have a : j < L.length := by have a : decide ((j : Int) < (M.length : Int)) = true := a; have := of_decide_eq_true a; omega
   have hMj := hi.2.2.2 j (Nat.le_refl _) a
   repeat' (first | (refine Sat.go (Eq.refl _) (NS.chk (by kernel_rfl) ?_)) | (refine Sat.go (Eq.refl _) (NS.need (by show decide (0 ≤ (j : Int) ∧ (j : Int) < (M.length : Int)) = true; exact decide_eq_true (by omega)) ?_)) | (refine Sat.go (Eq.refl _) (NS.need (by show decide (((j : Nat) : Int).toNat < M.length) = true; exact decide_eq_true (by omega)) ?_)))
   refine Sat.go (Eq.refl _) (NS.call (hc (M.getD j default)) rfl ?_)
   refine Sat.go (Eq.refl _) (NS.ite (fun h3 => ?_) (fun h3 => ?_))
   ·have hpj : p (L.getD j default) = false := by rw [← hMj]; exact not_t h3
    have hnx := delG_keep hi a hpj
    repeat' (first | (refine Sat.go (Eq.refl _) (NS.chk (by kernel_rfl) ?_)) | (refine Sat.go (Eq.refl _) (NS.need (by show decide (0 ≤ ((keepG p (L.take j)).length : Int) ∧ ((keepG p (L.take j)).length : Int) < (M.length : Int)) = true; exact decide_eq_true (by omega)) ?_)) | (refine Sat.go (Eq.refl _) (NS.need (by show decide ((((keepG p (L.take j)).length : Nat) : Int).toNat < M.length) = true; exact decide_eq_true (by omega)) ?_)))
    refine Sat.go (Eq.refl _) (NS.next ⟨(j + 1, M.set (keepG p (L.take j)).length (L.getD j default)), hnx⟩ (by show L.length - (j + 1) < L.length - j; omega) ?_)
    refine weak_hd [] rfl ⟨rfl, rfl, ren_int rfl ?_, ren_int rfl (i64_k (k := j) (n := L.length) a (by omega)), trivial⟩ ⟨ren_row rfl (by simp) (fun q hq jj hjj => ?_), trivial⟩ (Pre_cut (by kernel_rfl)) (by kernel_rfl)
    ·show IntKind.i64.wrap (((keepG p (L.take j)).length : Int) + 1) = ((keepG p (L.take (j + 1))).length : Int)
     rw [wrap_i64 (by omega) (by omega), keepG_snoc a, hpj]; simp
    ·have hrs := row_setG (cells := Ofr.cells) (c := 8) M (keepG p (L.take j)).length (M.getD j default) (by omega) q jj hjj
     have hset : M.set (keepG p (L.take j)).length (M.getD j default) = M.set (keepG p (L.take j)).length (L.getD j default) := by rw [hMj]
     show _ = rowL Ofr.cells (M.set (keepG p (L.take j)).length (L.getD j default)) q jj
     rw [← hset]
     exact hrs
   ·have hpj : p (L.getD j default) = true := by rw [← hMj]; exact not_f h3
    obtain ⟨hnx, hsame⟩ := delG_drop hi a hpj
    refine Sat.go (Eq.refl _) (NS.next ⟨(j + 1, M), hnx⟩ (by show L.length - (j + 1) < L.length - j; omega) ?_)
    exact weak_hd [] rfl ⟨rfl, rfl, ren_int rfl (by show ((keepG p (L.take j)).length : Int) = ((keepG p (L.take (j + 1))).length : Int); rw [hsame]), ren_int rfl (i64_k (k := j) (n := L.length) a (by omega)), trivial⟩ ⟨ren_row rfl rfl (fun _ _ _ _ => rfl), trivial⟩ (Pre_cut (by kernel_rfl)) (by kernel_rfl)
  have a : j = L.length := by have a : decide ((j : Int) < (M.length : Int)) = false := a; have := of_decide_eq_false a; omega
  subst a
  have hend := delG_end hi
  have hlt := keepG_lt hk hpk
  have hkk : (keepG p (L.take L.length)).length = (keepG p L).length := by rw [List.take_length]
  refine Sat.go (Eq.refl _) (NS.leave rfl (Eq.refl _) ?_)
  refine Sat.go (Eq.refl _) (NS.need (decide_eq_true ⟨by omega, by show ((keepG p (L.take L.length)).length : Int) ≤ (M.length : Int); omega, by show (M.length : Int) ≤ (M.length : Int); omega⟩) ?_)
  refine Sat.go (Eq.refl _) (NS.need (decide_eq_true (by show 0 < ((M.length : Int) - ((keepG p (L.take L.length)).length : Int)).toNat; omega)) ?_)
  refine Sat.go (Eq.refl _) (NS.need (decide_eq_true (by show (0 : Int) ≤ 0 ∧ (0 : Int) ≤ ((keepG p (L.take L.length)).length : Int) ∧ ((keepG p (L.take L.length)).length : Int) ≤ (M.length : Int); omega)) ?_)
  have hv1 : (((keepG p (L.take L.length)).length : Int) - 0).toNat = (keepG p L).length := by rw [hkk]; omega
  have hv2 : ∀ i, i < (((keepG p (L.take L.length)).length : Int) - 0).toNat → ∀ jj, jj < 8 → ∀ a : A, (if ((keepG p (L.take L.length)).length : Int).toNat ≤ (0 : Int).toNat + i ∧ (0 : Int).toNat + i < ((keepG p (L.take L.length)).length : Int).toNat + ((M.length : Int) - ((keepG p (L.take L.length)).length : Int)).toNat then a else rowL Ofr.cells M ((0 : Int).toNat + i) jj) = rowL Ofr.cells (keepG p L) i jj := by
   intro i hi jj hjj a
   rw [if_neg (by omega), show (0 : Int).toNat + i = i by omega]
   unfold rowL
   rw [hend i (by omega)]
  refine Sat.go (Eq.refl _) (NS.fin (ts := [(4, slOfr (keepG p L))]) rfl ((frzX 4 171 300 (by kernel_rfl) rfl).weak.trans ((weak_slot 4 (x := slOfr (keepG p L)) ?_).trans (weak_hd [] rfl ⟨rfl, trivial⟩ ⟨rfl, trivial⟩ (Pre_cut (by kernel_rfl)) (by kernel_rfl)))) rfl (LeA.refl _))
  exact LeA.sl hv1 fun i hi j hj => hv2 i hi j hj _
end Go.Proofs.YtggjngbighkdgaaGreat

namespace Go.Proofs.YtggjngbighkdgaaGreat
open Go.Sy Go.Mb
set_option maxRecDepth 100000
set_option maxHeartbeats 4000000
noncomputable def ER : Env := { P := Tryz.prog, eqT := lookE eqTab, mu := [173, 225], frz := [13] }
theorem ER_ok : EqOK ER := eqOK_of eqTab_ok
noncomputable def CR : Cx := { E := ER, inl := [174], ok := ER_ok }
theorem wr_ofs (n : Nod) (r : Jrec) : (wr n r).1.ofs = n.ofs := by
 unfold wr
 split
 ·rfl
 ·split
  ·rfl
  ·rfl
theorem rem1O_ok (x : Itm) (o : Ofr) : FnOK Tryz.prog 226 [.agg o.cells, .ip 11 (getA x.cells)] (.bool (ofId x.id o), none) := by
 refine fn_ok CF rfl (by kernel_rfl) Tryz.func226 rfl ?_
 exact Sat.go (Eq.refl _) (NS.ret rfl rfl (LeA.refl _))
theorem remove_ok (w : Wst) (e : Evt) (x : Itm) (h1 : w.n.dur.items.length ≤ 900000) (h2 : w.n.dur.inbox.length ≤ 900000) (h3 : w.n.jour.size ≤ 100000) (h4 : w.n.ofs.length ≤ 1000) (h5 : w.acts.length ≤ 1000000) :
  FnIn Tryz.prog 179 [.ptr 23 0, .agg x.cells] (wL 150 .dead w e) 150 (.tup []) (putOs (takeO 150 (wL 150 .dead w e)) [(23, .box (wCells (w.remove e.time x) e (.own 160))), (110, .dead), (160, rowAct (w.remove e.time x).acts)]) := by
 refine fn_in CR rfl (by kernel_rfl) Tryz.func179 rfl ?_
 refine Sat.go (Eq.refl _) (NS.chk (by kernel_rfl) ?_)
 refine Sat.go (Eq.refl _) (NS.inn (P := Tryz.prog) (vals := [.ptr 23 0, slR [⟨2, .zero, x.id, 0, e.time⟩]]) (objs1 := wL 165 .dead w e) ((frzP 3 153 11 rfl rfl rfl rfl).trans (WeakL.keep 165 [4, 23, 110] (by kernel_rfl))) (by kernel_rfl) (LeL.cons (LeA.refl _) (LeL.cons (LeA.sl rfl (row_one rfl)) LeL.nil)) (by kernel_rfl) (writeD_ok w e [⟨2, .zero, x.id, 0, e.time⟩] (by simp) h1 h2 h3) rfl ?_)
 have hofs : (w.write [⟨2, .zero, x.id, 0, e.time⟩]).n.ofs = w.n.ofs := wr_ofs _ _
 refine Sat.go (Eq.refl _) (NS.call (cloneO_ok (w.write [⟨2, .zero, x.id, 0, e.time⟩]).n.ofs (by rw [hofs]; omega)) rfl ?_)
 refine Sat.go (Eq.refl _) (NS.inn (P := Tryz.prog) (vals := [.own 171, .fn 226 [.ip 11 (getA x.cells)]]) (objs1 := wD (w.write [⟨2, .zero, x.id, 0, e.time⟩]).n.ofs (w.write [⟨2, .zero, x.id, 0, e.time⟩]) e) (WeakL.keep 181 [4, 23, 110, 171] (by kernel_rfl)) (by kernel_rfl) (LeL.refl _) (by kernel_rfl) (delO_ok (w.write [⟨2, .zero, x.id, 0, e.time⟩]) e _ (by rw [hofs]; omega) 226 11 (getA x.cells) (ofId x.id) (rem1O_ok x)) rfl ?_)
 refine Sat.go (Eq.refl _) (NS.chk (by kernel_rfl) ?_)
 refine Sat.go (Eq.refl _) (NS.need (decide_eq_true (by simp only [maxRow]; show (w.acts.length + 1) * _ ≤ _; omega)) ?_)
 refine Sat.go (Eq.refl _) (NS.fin (ts := []) rfl (weak_hd [(160, 192)] rfl trivial ⟨⟨_, rfl, renW _ (w.remove e.time x) e rfl⟩, rfl, ren_row rfl (by show w.acts.length + 1 = (w.acts ++ [_]).length; simp) (fun i hi j hj => ?_), trivial⟩ (Pre_cut (by kernel_rfl)) (by kernel_rfl)) rfl (LeA.refl _))
 have hi : i < w.acts.length + 1 := by have hi : i < (w.acts ++ [_]).length := hi; simpa using hi
 exact row_snoc (cells := Mb.Act.cells) (x := ⟨5, x, 0, 0⟩) rfl i hi j hj
end Go.Proofs.YtggjngbighkdgaaGreat

namespace Go.Proofs.YtggjngbighkdgaaGreat
open Go.Sy Go.Mb
set_option maxRecDepth 100000
set_option maxHeartbeats 4000000
theorem appM_le {s : List Nat} {l : List Jrec} (h : (appM s l).2 = 0) : (appM s l).1.length ≤ 65536 := by
 unfold appM at h ⊢
 split
 ·rename_i q; rw [if_pos q] at h; exact Nat.zero_le _
 ·rename_i q
  rw [if_neg q] at h
  split
  ·rename_i q2; rw [if_pos q2] at h; cases h
  ·rename_i q2
   have : ¬ (appJ s l).1.length > 65536 := fun q3 => q2 (decide_eq_true q3)
   show (appJ s l).1.length ≤ 65536
   omega
theorem wr_sz (n : Nod) (r : Jrec) : (wr n r).1.dur.items.length ≤ n.dur.items.length + (if r.kind = 1 then 1 else 0) ∧ (wr n r).1.dur.inbox.length ≤ n.dur.inbox.length + (if r.kind = 3 then 1 else 0) ∧ ((wr n r).1.jour.size ≤ 65536 ∨ (wr n r).1.jour = n.jour) ∧ (wr n r).1.ofs = n.ofs := by
 unfold wr
 split
 ·exact ⟨by simp only; omega, by simp only; omega, .inr rfl, rfl⟩
 ·rename_i h1
  split
  ·exact ⟨by simp only; omega, by simp only; omega, .inr rfl, rfl⟩
  ·rename_i h2
   have h1 : (appM (ls n.jour) [r]).2 = 0 := by simpa using h1
   have hw : ∀ (l : List Itm) (x : Itm), (withM l x).length ≤ l.length + 1 := by
    intro l x; unfold withM; split <;> simp
   have hd : (applyM n.dur r).1 = effM n.dur r := by
    unfold applyM at h2 ⊢
    split
    ·rename_i q; rw [if_pos q] at h2; exact absurd rfl h2
    ·rfl
   refine ⟨?_, ?_, .inl ?_, rfl⟩
   ·show (applyM n.dur r).1.items.length ≤ _
    rw [hd]
    unfold effM
    split
    ·exact hw _ _
    ·split
     ·exact List.length_filter_le _ _
     ·split
      ·exact Nat.le_refl _
      ·split
       ·show (setTick n.dur.items r.id r.ticket).length ≤ _
        have := congrArg List.length (show (setTick n.dur.items r.id r.ticket).map Itm.id = n.dur.items.map Itm.id by
         unfold setTick
         split
         ·exact map_modify_id _ _ _
         ·rfl)
        simp only [List.length_map] at this
        omega
       ·exact Nat.le_refl _
   ·show (applyM n.dur r).1.inbox.length ≤ _
    rw [hd]
    unfold effM
    repeat' split
    all_goals first | exact hw _ _ | exact Nat.le_refl _ | exact Nat.le_add_right _ _ | omega
   ·show (bs _).size ≤ _
    rw [bs_len]
    exact appM_le h1
def Sz (w : Wst) (a : Nat) : Prop := w.n.dur.items.length ≤ 200000 ∧ w.n.dur.inbox.length ≤ 200000 ∧ w.n.jour.size ≤ 100000 ∧ w.n.ofs.length ≤ 1000 ∧ w.acts.length ≤ a
theorem Sz.remove {w : Wst} {a : Nat} (h : Sz w a) (t : Int) (x : Itm) : Sz (w.remove t x) (a + 1) := by
 obtain ⟨h1, h2, h3, h4, h5⟩ := h
 obtain ⟨k1, k2, k3, k4⟩ := wr_sz w.n ⟨2, .zero, x.id, 0, t⟩
 refine ⟨?_, ?_, ?_, ?_, ?_⟩
 ·show (wr w.n ⟨2, .zero, x.id, 0, t⟩).1.dur.items.length ≤ _
  have : (wr w.n ⟨2, .zero, x.id, 0, t⟩).1.dur.items.length ≤ w.n.dur.items.length + 0 := k1
  omega
 ·show (wr w.n ⟨2, .zero, x.id, 0, t⟩).1.dur.inbox.length ≤ _
  have : (wr w.n ⟨2, .zero, x.id, 0, t⟩).1.dur.inbox.length ≤ w.n.dur.inbox.length + 0 := k2
  omega
 ·show (wr w.n ⟨2, .zero, x.id, 0, t⟩).1.jour.size ≤ _
  rcases k3 with k3 | k3
  ·omega
  ·rw [k3]; exact h3
 ·show (((wr w.n ⟨2, .zero, x.id, 0, t⟩).1.ofs.filter _)).length ≤ _
  rw [k4]
  exact Nat.le_trans (List.length_filter_le _ _) h4
 ·show (w.acts ++ [_]).length ≤ _
  simp; exact h5
theorem Sz.le {w : Wst} {a b : Nat} (h : Sz w a) (hab : a ≤ b) : Sz w b := ⟨h.1, h.2.1, h.2.2.1, h.2.2.2.1, Nat.le_trans h.2.2.2.2 hab⟩
theorem Sz.settle {w : Wst} {a : Nat} (h : Sz w a) (t : Int) (id : Nid) (s b : Bool) : Sz (w.settle t id s b) (a + 1) := by
 unfold Wst.settle
 split
 ·exact h.le (by omega)
 ·split
  ·obtain ⟨h1, h2, h3, h4, h5⟩ := h
   exact ⟨h1, h2, h3, h4, by show (w.acts ++ [_]).length ≤ _; simp; exact h5⟩
  ·exact h.remove _ _
noncomputable def EST : Env := { P := Tryz.prog, eqT := lookE eqTab, mu := [179] }
theorem EST_ok : EqOK EST := eqOK_of eqTab_ok
noncomputable def CST : Cx := { E := EST, inl := [174], ok := EST_ok }
theorem settle_ok (w : Wst) (e : Evt) (id : Nid) (s a : Bool) (hz : Sz w 1000000) :
  FnIn Tryz.prog 177 [.ptr 23 0, .agg id.cells, .bool s, .bool a] (wL 111 .dead w e) 111 (.tup []) (putOs (takeO 111 (wL 111 .dead w e)) [(23, .box (wCells (w.settle e.time id s a) e (.own 120))), (110, .dead), (120, rowAct (w.settle e.time id s a).acts)]) := by
 obtain ⟨h1, h2, h3, h4, h5⟩ := hz
 refine fn_in CST rfl (by kernel_rfl) Tryz.func177 rfl ?_
 refine Sat.go (Eq.refl _) (NS.chk (by kernel_rfl) ?_)
 refine Sat.go (Eq.refl _) (NS.call (find_ok w.n.dur id (by omega)) rfl ?_)
 refine Sat.go (Eq.refl _) (NS.ite (fun q1 => ?_) (fun q1 => ?_))
 ·have hs : w.settle e.time id s a = w := if_pos q1
  rw [hs]
  refine Sat.go (Eq.refl _) (NS.fin (ts := []) rfl ((moveB 23 30 110 120 rfl rfl rfl rfl).weak.trans (weak_hd [] rfl trivial ⟨⟨_, rfl, renW _ w e rfl⟩, rfl, ren_row rfl rfl fun _ _ _ _ => rfl, trivial⟩ (Pre_cut (by kernel_rfl)) (by kernel_rfl))) rfl (LeA.refl _))
 ·refine Sat.go (Eq.refl _) (NS.call (decide_ok (findM w.n.dur id).1.custody s a) rfl ?_)
  refine Sat.go (Eq.refl _) (NS.ite (fun q2 => ?_) (fun q2 => ?_))
  ·have hs : w.settle e.time id s a = w.act ⟨4, (findM w.n.dur id).1, 0, 0⟩ := by unfold Wst.settle; rw [if_neg (by rw [q1]; decide), if_pos q2]
   rw [hs]
   refine Sat.go (Eq.refl _) (NS.chk (by kernel_rfl) ?_)
   refine Sat.go (Eq.refl _) (NS.need (decide_eq_true (by simp only [maxRow]; show (w.acts.length + 1) * _ ≤ _; omega)) ?_)
   refine Sat.go (Eq.refl _) (NS.fin (ts := []) rfl (weak_hd [(120, 157)] rfl trivial ⟨⟨_, rfl, renW _ (w.act ⟨4, (findM w.n.dur id).1, 0, 0⟩) e rfl⟩, rfl, ren_row rfl (by show w.acts.length + 1 = (w.acts ++ [_]).length; simp) (fun i hi j hj => ?_), trivial⟩ (Pre_cut (by kernel_rfl)) (by kernel_rfl)) rfl (LeA.refl _))
   have hi : i < w.acts.length + 1 := by have hi : i < (w.acts ++ [_]).length := hi; simpa using hi
   exact row_snoc (cells := Mb.Act.cells) (x := ⟨4, (findM w.n.dur id).1, 0, 0⟩) rfl i hi j hj
  ·have hs : w.settle e.time id s a = w.remove e.time (findM w.n.dur id).1 := by unfold Wst.settle; rw [if_neg (by rw [q1]; decide), if_neg (by rw [q2]; decide)]
   rw [hs]
   refine Sat.go (Eq.refl _) (NS.inn (P := Tryz.prog) (vals := [.ptr 23 0, .agg (findM w.n.dur id).1.cells]) (objs1 := wL 150 .dead w e) (WeakL.keep 150 [4, 23, 110] (by kernel_rfl)) (by kernel_rfl) (LeL.refl _) (by kernel_rfl) (remove_ok w e _ (by omega) (by omega) (by omega) (by omega) (by omega)) rfl ?_)
   exact Sat.go (Eq.refl _) (NS.fin (ts := []) rfl (weak_hd [(120, 160)] rfl trivial ⟨⟨_, rfl, renW _ (w.remove e.time (findM w.n.dur id).1) e rfl⟩, rfl, ren_row rfl rfl (fun _ _ _ _ => rfl), trivial⟩ (Pre_cut (by kernel_rfl)) (by kernel_rfl)) rfl (LeA.refl _))
end Go.Proofs.YtggjngbighkdgaaGreat

namespace Go.Proofs.YtggjngbighkdgaaGreat
open Go.Sy Go.Mb
set_option maxRecDepth 100000
set_option maxHeartbeats 4000000
noncomputable def EH : Env := { P := Tryz.prog, eqT := lookE eqTab, mu := [173, 179, 177], frz := [36] }
theorem EH_ok : EqOK EH := eqOK_of eqTab_ok
noncomputable def CH : Cx := { E := EH, inl := [174], ok := EH_ok }
def wH (w : Wst) (e : Evt) : List Ob := mkO [(4, zB), (23, .box (wCells w e .nils))] 32 0
def wE (w w' : Wst) (e : Evt) : List Ob := putOs (takeO 32 (wH w e)) [(23, .box (wCells w' e (slAct w'.acts)))]
theorem hfin (n : Nat) (w w' : Wst) (e : Evt) : Weak 32 (hd 32 (wH w e) n [] [(23, .box (wCells w' e (.own 120))), (120, rowAct w'.acts)]) (hd 32 (wH w e) n [] [(23, .box (wCells w' e (slAct w'.acts)))]) := by
 refine (frzXB 23 30 120 121 (by kernel_rfl) rfl (by decide) rfl).weak.trans ?_
 refine weak_hd [] (by simp [hd, length_spread]) trivial ⟨⟨_, rfl, ?_⟩, trivial⟩ (Pre_cut (by kernel_rfl)) (by kernel_rfl)
 exact ⟨_, _, rfl, rfl, _, _, rfl, rfl, _, _, rfl, .inl rfl, _, _, rfl, rfl, _, _, rfl, rfl, _, _, rfl, rfl, _, _, rfl, rfl, _, _, rfl, rfl,
  _, _, rfl, rfl, _, _, rfl, rfl, _, _, rfl, rfl, _, _, rfl, rfl, _, _, rfl, rfl, _, _, rfl, rfl, _, _, rfl, rfl, _, _, rfl, rfl, _, _, rfl, rfl, _, _, rfl, rfl, _, _, rfl, rfl, _, _, rfl, .inl rfl, _, _, rfl, rfl, _, _, rfl, rfl, _, _, rfl, rfl, _, _, rfl, rfl, _, _, rfl, rfl, _, _, rfl, rfl, _, _, rfl, rfl, _, _, rfl, rfl, _, _, rfl, .inl rfl, _, _, rfl, rfl,
  _, _, rfl, rfl, _, _, rfl, rfl, rfl⟩
theorem signalM_len (l : List Ofr) (x : Nid) (c : Int) : (signalM l x c).1.length ≤ l.length := by
 unfold signalM
 repeat' split
 ·exact Nat.zero_le _
 ·exact Nat.le_refl _
 ·exact List.length_filter_le _ _
theorem signalW_ok (w : Wst) (e : Evt) (ha : w.acts = []) (hz : Sz w 0) : FnIn Tryz.prog 112 [.ptr 23 0] (wH w e) 32 (.tup []) (wE w (signalW w e) e) := by
 obtain ⟨n, acts, err⟩ := w
 obtain rfl : acts = [] := ha
 obtain ⟨h1, h2, h3, h4, h5⟩ := hz
 refine fn_in CH rfl (by kernel_rfl) Tryz.func112 rfl ?_
 rw [forceSt_eq]
 refine Sat.wk (weak_promoteB 23 30 110 63 14 (rowL Mb.Act.cells []) rfl rfl rfl) ?_
 refine Sat.go (Eq.refl _) (NS.chk (by kernel_rfl) ?_)
 refine Sat.go (Eq.refl _) (NS.call (signal_ok n.ofs e.id e.contact) rfl ?_)
 refine Sat.go (Eq.refl _) (NS.ite (fun q1 => ?_) (fun q1 => ?_))
 ·rw [show signalW ⟨n, [], err⟩ e = ⟨n, [], err⟩ from if_pos q1]
  refine Sat.go (Eq.refl _) (NS.fin (ts := []) rfl ((weak_hd (ts := []) (os := [(23, .box (wCells (⟨n, [], err⟩) e (.own 120))), (120, rowAct (⟨n, [], err⟩ : Wst).acts)]) (objs0 := wH ⟨n, [], err⟩ e) [(120, 110)] rfl trivial ⟨⟨_, rfl, renW _ (⟨n, [], err⟩) e rfl⟩, ren_row rfl rfl fun _ _ _ _ => rfl, trivial⟩ (Pre_cut (by kernel_rfl)) (by kernel_rfl)).trans (hfin _ ⟨n, [], err⟩ (⟨n, [], err⟩) e)) rfl (LeA.refl _))
 ·rw [show signalW ⟨n, [], err⟩ e = Wst.settle _ _ _ _ _ from if_neg (by rw [q1]; decide)]
  refine Sat.go (Eq.refl _) (NS.chk (by kernel_rfl) ?_)
  refine Sat.go (Eq.refl _) (NS.inn (P := Tryz.prog) (vals := [.ptr 23 0, .agg e.id.cells, .bool true, .bool e.acc]) (objs1 := wL 111 .dead (Wst.setO ⟨n, [], err⟩ (signalM n.ofs e.id e.contact).1) e) (WeakL.keep 111 [4, 23, 110] (by kernel_rfl)) (by kernel_rfl) (LeL.cons (LeA.refl _) (LeL.cons (LeA.refl _) (LeL.cons (LeA.kb true) (LeL.refl _)))) (by kernel_rfl) (settle_ok _ e e.id true e.acc ⟨h1, h2, h3, ?_, Nat.zero_le _⟩) rfl ?_)
  ·show (signalM n.ofs e.id e.contact).1.length ≤ 1000
   exact Nat.le_trans (signalM_len _ _ _) h4
  refine Sat.go (Eq.refl _) (NS.fin (ts := []) rfl ((weak_hd (ts := []) (os := [(23, .box (wCells (Wst.settle (Wst.setO ⟨n, [], err⟩ (signalM n.ofs e.id e.contact).1) e.time e.id true e.acc) e (.own 120))), (120, rowAct (Wst.settle (Wst.setO ⟨n, [], err⟩ (signalM n.ofs e.id e.contact).1) e.time e.id true e.acc : Wst).acts)]) (objs0 := wH ⟨n, [], err⟩ e) [(120, 120)] rfl trivial ⟨⟨_, rfl, renW _ (Wst.settle (Wst.setO ⟨n, [], err⟩ (signalM n.ofs e.id e.contact).1) e.time e.id true e.acc) e rfl⟩, ren_row rfl rfl fun _ _ _ _ => rfl, trivial⟩ (Pre_cut (by kernel_rfl)) (by kernel_rfl)).trans (hfin _ ⟨n, [], err⟩ (Wst.settle (Wst.setO ⟨n, [], err⟩ (signalM n.ofs e.id e.contact).1) e.time e.id true e.acc) e)) rfl (LeA.refl _))
theorem dropW_ok (w : Wst) (e : Evt) (ha : w.acts = []) (hz : Sz w 0) : FnIn Tryz.prog 115 [.ptr 23 0] (wH w e) 32 (.tup []) (wE w (dropW w e) e) := by
 obtain ⟨n, acts, err⟩ := w
 obtain rfl : acts = [] := ha
 obtain ⟨h1, h2, h3, h4, h5⟩ := hz
 simp only at h1 h2 h3 h4
 refine fn_in CH rfl (by kernel_rfl) Tryz.func115 rfl ?_
 rw [forceSt_eq]
 refine Sat.wk (weak_promoteB 23 30 110 63 14 (rowL Mb.Act.cells []) rfl rfl rfl) ?_
 refine Sat.go (Eq.refl _) (NS.chk (by kernel_rfl) ?_)
 refine Sat.go (Eq.refl _) (NS.call (find_ok n.dur e.id (by omega)) rfl ?_)
 refine Sat.go (Eq.refl _) (NS.ite (fun q1 => ?_) (fun q1 => ?_))
 ·rw [show dropW ⟨n, [], err⟩ e = Wst.remove ⟨n, [], err⟩ e.time (findM n.dur e.id).1 from if_pos q1]
  refine Sat.go (Eq.refl _) (NS.inn (P := Tryz.prog) (vals := [.ptr 23 0, .agg ((findM n.dur e.id).1).cells]) (objs1 := wL 150 .dead (⟨n, [], err⟩) e) (WeakL.keep 150 [4, 23, 110] (by kernel_rfl)) (by kernel_rfl) (LeL.refl _) (by kernel_rfl) (remove_ok (⟨n, [], err⟩) e ((findM n.dur e.id).1) (Nat.le_trans h1 (by decide)) (Nat.le_trans h2 (by decide)) h3 h4 (Nat.zero_le _)) rfl ?_)
  refine Sat.go (Eq.refl _) (NS.fin (ts := []) rfl ((weak_hd (ts := []) (os := [(23, .box (wCells (Wst.remove ⟨n, [], err⟩ e.time (findM n.dur e.id).1) e (.own 120))), (120, rowAct (Wst.remove ⟨n, [], err⟩ e.time (findM n.dur e.id).1 : Wst).acts)]) (objs0 := wH ⟨n, [], err⟩ e) [(120, 160)] rfl trivial ⟨⟨_, rfl, renW _ (Wst.remove ⟨n, [], err⟩ e.time (findM n.dur e.id).1) e rfl⟩, ren_row rfl rfl fun _ _ _ _ => rfl, trivial⟩ (Pre_cut (by kernel_rfl)) (by kernel_rfl)).trans (hfin _ ⟨n, [], err⟩ (Wst.remove ⟨n, [], err⟩ e.time (findM n.dur e.id).1) e)) rfl (LeA.refl _))
 ·rw [show dropW ⟨n, [], err⟩ e = ⟨n, [], err⟩ from if_neg (by show ¬ (findM n.dur e.id).2 = true; rw [q1]; decide)]
  refine Sat.go (Eq.refl _) (NS.fin (ts := []) rfl ((weak_hd (ts := []) (os := [(23, .box (wCells (⟨n, [], err⟩) e (.own 120))), (120, rowAct (⟨n, [], err⟩ : Wst).acts)]) (objs0 := wH ⟨n, [], err⟩ e) [(120, 110)] rfl trivial ⟨⟨_, rfl, renW _ (⟨n, [], err⟩) e rfl⟩, ren_row rfl rfl fun _ _ _ _ => rfl, trivial⟩ (Pre_cut (by kernel_rfl)) (by kernel_rfl)).trans (hfin _ ⟨n, [], err⟩ (⟨n, [], err⟩) e)) rfl (LeA.refl _))
theorem ticketW_ok (w : Wst) (e : Evt) (ha : w.acts = []) (hz : Sz w 0) : FnIn Tryz.prog 116 [.ptr 23 0] (wH w e) 32 (.tup []) (wE w (ticketW w e) e) := by
 obtain ⟨n, acts, err⟩ := w
 obtain rfl : acts = [] := ha
 obtain ⟨h1, h2, h3, h4, h5⟩ := hz
 simp only at h1 h2 h3 h4
 refine fn_in CH rfl (by kernel_rfl) Tryz.func116 rfl ?_
 rw [forceSt_eq]
 refine Sat.wk (weak_promoteB 23 30 110 63 14 (rowL Mb.Act.cells []) rfl rfl rfl) ?_
 refine Sat.go (Eq.refl _) (NS.chk (by kernel_rfl) ?_)
 refine Sat.go (Eq.refl _) (NS.call (find_ok n.dur e.id (by omega)) rfl ?_)
 refine Sat.go (Eq.refl _) (NS.ite (fun q1 => ?_) (fun q1 => ?_))
 ·rw [show ticketW ⟨n, [], err⟩ e = Wst.write ⟨n, [], err⟩ [⟨4, .zero, e.id, e.ticket, e.time⟩] from if_pos q1]
  refine Sat.go (Eq.refl _) (NS.chk (by kernel_rfl) ?_)
  refine Sat.go (Eq.refl _) (NS.inn (P := Tryz.prog) (vals := [.ptr 23 0, slR [⟨4, .zero, e.id, e.ticket, e.time⟩]]) (objs1 := wL 165 .dead ⟨n, [], err⟩ e) (WeakL.keep 165 [4, 23, 110] (by kernel_rfl)) (by kernel_rfl) (LeL.cons (LeA.refl _) (LeL.cons (LeA.sl rfl (row_one rfl)) LeL.nil)) (by kernel_rfl) (writeD_ok ⟨n, [], err⟩ e [⟨4, .zero, e.id, e.ticket, e.time⟩] (Nat.le_refl 1) (Nat.le_trans h1 (by decide)) (Nat.le_trans h2 (by decide)) h3) rfl ?_)
  refine Sat.go (Eq.refl _) (NS.fin (ts := []) rfl ((weak_hd (ts := []) (os := [(23, .box (wCells (Wst.write ⟨n, [], err⟩ [⟨4, .zero, e.id, e.ticket, e.time⟩]) e (.own 120))), (120, rowAct (Wst.write ⟨n, [], err⟩ [⟨4, .zero, e.id, e.ticket, e.time⟩] : Wst).acts)]) (objs0 := wH ⟨n, [], err⟩ e) [(120, 110)] rfl trivial ⟨⟨_, rfl, renW _ (Wst.write ⟨n, [], err⟩ [⟨4, .zero, e.id, e.ticket, e.time⟩]) e rfl⟩, ren_row rfl rfl fun _ _ _ _ => rfl, trivial⟩ (Pre_cut (by kernel_rfl)) (by kernel_rfl)).trans (hfin _ ⟨n, [], err⟩ (Wst.write ⟨n, [], err⟩ [⟨4, .zero, e.id, e.ticket, e.time⟩]) e)) rfl (LeA.refl _))
 ·rw [show ticketW ⟨n, [], err⟩ e = ⟨n, [], err⟩ from if_neg (by show ¬ (findM n.dur e.id).2 = true; rw [q1]; decide)]
  refine Sat.go (Eq.refl _) (NS.fin (ts := []) rfl ((weak_hd (ts := []) (os := [(23, .box (wCells (⟨n, [], err⟩) e (.own 120))), (120, rowAct (⟨n, [], err⟩ : Wst).acts)]) (objs0 := wH ⟨n, [], err⟩ e) [(120, 110)] rfl trivial ⟨⟨_, rfl, renW _ (⟨n, [], err⟩) e rfl⟩, ren_row rfl rfl fun _ _ _ _ => rfl, trivial⟩ (Pre_cut (by kernel_rfl)) (by kernel_rfl)).trans (hfin _ ⟨n, [], err⟩ (⟨n, [], err⟩) e)) rfl (LeA.refl _))
theorem sendW_ok (w : Wst) (e : Evt) (ha : w.acts = []) (hz : Sz w 0) : FnIn Tryz.prog 111 [.ptr 23 0] (wH w e) 32 (.tup []) (wE w (sendW w e) e) := by
 obtain ⟨n, acts, err⟩ := w
 obtain rfl : acts = [] := ha
 obtain ⟨h1, h2, h3, h4, h5⟩ := hz
 simp only at h1 h2 h3 h4
 refine fn_in CH rfl (by kernel_rfl) Tryz.func111 rfl ?_
 rw [forceSt_eq]
 refine Sat.wk (weak_promoteB 23 30 110 63 14 (rowL Mb.Act.cells []) rfl rfl rfl) ?_
 refine Sat.go (Eq.refl _) (NS.chk (by kernel_rfl) ?_)
 refine Sat.go (Eq.refl _) (NS.call (find_ok n.dur e.id (by omega)) rfl ?_)
 refine Sat.go (Eq.refl _) (NS.ite (fun q1 => ?_) (fun q1 => ?_))
 ·rw [show sendW ⟨n, [], err⟩ e = ⟨n, [], err⟩ from if_pos q1]
  refine Sat.go (Eq.refl _) (NS.fin (ts := []) rfl ((weak_hd (ts := []) (os := [(23, .box (wCells (⟨n, [], err⟩) e (.own 120))), (120, rowAct (⟨n, [], err⟩ : Wst).acts)]) (objs0 := wH ⟨n, [], err⟩ e) [(120, 110)] rfl trivial ⟨⟨_, rfl, renW _ (⟨n, [], err⟩) e rfl⟩, ren_row rfl rfl fun _ _ _ _ => rfl, trivial⟩ (Pre_cut (by kernel_rfl)) (by kernel_rfl)).trans (hfin _ ⟨n, [], err⟩ (⟨n, [], err⟩) e)) rfl (LeA.refl _))
 rw [show sendW ⟨n, [], err⟩ e = if (beginM n.ofs e.id e.contact e.due).2 == 0 then _ else _ from if_neg (by rw [q1]; decide)]
 refine Sat.go (Eq.refl _) (NS.chk (by kernel_rfl) ?_)
 refine Sat.go (Eq.refl _) (NS.call (begin_ok n.ofs e.id e.contact e.due) rfl ?_)
 refine Sat.go (Eq.refl _) (NS.ite (fun q2 => ?_) (fun q2 => ?_))
 ·rw [if_pos q2]
  refine Sat.go (Eq.refl _) (NS.chk (by kernel_rfl) ?_)
  refine Sat.go (Eq.refl _) (NS.chk (by kernel_rfl) ?_)
  refine Sat.go (Eq.refl _) (NS.need (rfl) ?_)
  refine Sat.go (Eq.refl _) (NS.fin (ts := []) rfl ((weak_hd (ts := []) (os := [(23, .box (wCells (Wst.act (Wst.setO ⟨n, [], err⟩ (beginM n.ofs e.id e.contact e.due).1) ⟨1, (findM n.dur e.id).1, e.contact, 0⟩) e (.own 120))), (120, rowAct (Wst.act (Wst.setO ⟨n, [], err⟩ (beginM n.ofs e.id e.contact e.due).1) ⟨1, (findM n.dur e.id).1, e.contact, 0⟩ : Wst).acts)]) (objs0 := wH ⟨n, [], err⟩ e) [(120, 122)] rfl trivial ⟨⟨_, rfl, renW _ (Wst.act (Wst.setO ⟨n, [], err⟩ (beginM n.ofs e.id e.contact e.due).1) ⟨1, (findM n.dur e.id).1, e.contact, 0⟩) e rfl⟩, ren_row rfl rfl (fun i hi j hj => row_snoc (cells := Mb.Act.cells) (l := []) (x := ⟨1, (findM n.dur e.id).1, e.contact, 0⟩) rfl i hi j hj), trivial⟩ (Pre_cut (by kernel_rfl)) (by kernel_rfl)).trans (hfin _ ⟨n, [], err⟩ (Wst.act (Wst.setO ⟨n, [], err⟩ (beginM n.ofs e.id e.contact e.due).1) ⟨1, (findM n.dur e.id).1, e.contact, 0⟩) e)) rfl (LeA.refl _))
 rw [if_neg (by rw [q2]; decide)]
 refine Sat.go (Eq.refl _) (NS.ite (fun q3 => ?_) (fun q3 => ?_))
 ·rw [if_pos q3]
  refine Sat.go (Eq.refl _) (NS.fin (ts := []) rfl ((weak_hd (ts := []) (os := [(23, .box (wCells (⟨n, [], err⟩) e (.own 120))), (120, rowAct (⟨n, [], err⟩ : Wst).acts)]) (objs0 := wH ⟨n, [], err⟩ e) [(120, 110)] rfl trivial ⟨⟨_, rfl, renW _ (⟨n, [], err⟩) e rfl⟩, ren_row rfl rfl fun _ _ _ _ => rfl, trivial⟩ (Pre_cut (by kernel_rfl)) (by kernel_rfl)).trans (hfin _ ⟨n, [], err⟩ (⟨n, [], err⟩) e)) rfl (LeA.refl _))
 ·rw [if_neg (by rw [q3]; decide)]
  refine Sat.go (Eq.refl _) (NS.fin (ts := []) rfl ((weak_hd (ts := []) (os := [(23, .box (wCells (⟨n, [], (beginM n.ofs e.id e.contact e.due).2⟩) e (.own 120))), (120, rowAct (⟨n, [], (beginM n.ofs e.id e.contact e.due).2⟩ : Wst).acts)]) (objs0 := wH ⟨n, [], err⟩ e) [(120, 110)] rfl trivial ⟨⟨_, rfl, renW _ (⟨n, [], (beginM n.ofs e.id e.contact e.due).2⟩) e rfl⟩, ren_row rfl rfl fun _ _ _ _ => rfl, trivial⟩ (Pre_cut (by kernel_rfl)) (by kernel_rfl)).trans (hfin _ ⟨n, [], err⟩ (⟨n, [], (beginM n.ofs e.id e.contact e.due).2⟩) e)) rfl (LeA.refl _))
theorem dueM_len (l : List Ofr) (t : Int) : (dueM l t).1.length ≤ l.length ∧ (dueM l t).2.1.length ≤ l.length := by
 unfold dueM
 split
 ·exact ⟨Nat.zero_le _, Nat.zero_le _⟩
 ·exact ⟨List.length_filter_le _ _, List.length_filter_le _ _⟩
theorem Sz.tmN {w : Wst} (h : Sz w 0) (l : List Ofr) (t : Int) : ∀ k, Sz (tmN l t w k) k
 | 0 => h
 | k + 1 => by
  unfold Go.Proofs.YtggjngbighkdgaaGreat.tmN
  split
  ·exact (Sz.tmN h l t k).settle _ _ _ _
  ·exact (Sz.tmN h l t k).le (by omega)
theorem timerW_ok (w : Wst) (e : Evt) (ha : w.acts = []) (hz : Sz w 0) : FnIn Tryz.prog 113 [.ptr 23 0] (wH w e) 32 (.tup []) (wE w (timerW w e) e) := by
 obtain ⟨n, acts, err⟩ := w
 obtain rfl : acts = [] := ha
 refine fn_in CH rfl (by kernel_rfl) Tryz.func113 rfl ?_
 rw [forceSt_eq]
 refine Sat.wk (weak_promoteB 23 30 110 63 14 (rowL Mb.Act.cells []) rfl rfl rfl) ?_
 refine Sat.go (Eq.refl _) (NS.chk (by kernel_rfl) ?_)
 refine Sat.go (Eq.refl _) (NS.call (due_ok n.ofs e.time) rfl ?_)
 obtain ⟨d1, d2⟩ := dueM_len n.ofs e.time
 obtain ⟨h1, h2, h3, h4, h5⟩ := hz
 simp only at h4
 have hs0 : Sz (Wst.setO ⟨n, [], err⟩ (dueM n.ofs e.time).2.1) 0 := ⟨h1, h2, h3, Nat.le_trans d2 h4, h5⟩
 have hsz := Sz.tmN hs0 (dueM n.ofs e.time).1 e.time
 show Sat _ (RetIn _ _ _ _ (wE ⟨n, [], err⟩ (tmN (dueM n.ofs e.time).1 e.time (Wst.setO ⟨n, [], err⟩ (dueM n.ofs e.time).2.1) (dueM n.ofs e.time).1.length) e)) _ _ _
 obtain ⟨l, hl⟩ : ∃ l, l = (dueM n.ofs e.time).1 := ⟨_, rfl⟩
 rw [← hl] at d1 hsz
 rw [← hl]
 refine Sat.go (Eq.refl _) ?_
 refine NS.loop (σ := { k : Nat // k ≤ l.length }) (fun k => [(0, .ptr 23 0), (2, slOfr l), (27, slOfr l), (28, .int .i64 l.length), (29, .int .i64 k.1)]) (fun k => [(23, .box (wCells (tmN l e.time (Wst.setO ⟨n, [], err⟩ (dueM n.ofs e.time).2.1) k.1) e (.own 110))), (110, rowAct (tmN l e.time (Wst.setO ⟨n, [], err⟩ (dueM n.ofs e.time).2.1) k.1).acts)]) (fun k => l.length - k.1) ⟨0, Nat.zero_le _⟩ ?_ ?_
 ·exact weak_hd [] rfl ⟨rfl, rfl, rfl, rfl, rfl, trivial⟩ ⟨⟨_, rfl, renW _ (Wst.setO ⟨n, [], err⟩ (dueM n.ofs e.time).2.1) e rfl⟩, ren_row rfl rfl (fun _ _ _ _ => rfl), trivial⟩ (Pre_cut (by kernel_rfl)) (by kernel_rfl)
 rintro ⟨k, hk⟩
 have hk : k ≤ l.length := hk
 refine Sat.go (Eq.refl _) (NS.ite (fun h => ?_) (fun h => ?_))
 ·have h : k < l.length := by simpa using h
  have hz := hsz k
  have hset : tmN l e.time (Wst.setO ⟨n, [], err⟩ (dueM n.ofs e.time).2.1) (k + 1) = if k == 0 || !((l.getD (k - 1) default).id.eqv (l.getD k default).id) then (tmN l e.time (Wst.setO ⟨n, [], err⟩ (dueM n.ofs e.time).2.1) k).settle e.time (l.getD k default).id false false else tmN l e.time (Wst.setO ⟨n, [], err⟩ (dueM n.ofs e.time).2.1) k := rfl
  obtain ⟨v, hv⟩ : ∃ v, v = tmN l e.time (Wst.setO ⟨n, [], err⟩ (dueM n.ofs e.time).2.1) k := ⟨_, rfl⟩
  rw [← hv] at hz hset
  refine Sat.go (Eq.refl _) (NS.need (by simp; omega) ?_)
  show Sat _ _ _ _ _
  simp only [← hv]
  refine Sat.go (Eq.refl _) (NS.chk (by kernel_rfl) ?_)
  rcases Nat.eq_zero_or_pos k with hk0 | hk0
  ·have hnx : tmN l e.time (Wst.setO ⟨n, [], err⟩ (dueM n.ofs e.time).2.1) (k + 1) = v.settle e.time (l.getD k default).id false false := by rw [hset, show (k == 0) = true from by rw [hk0]; rfl]; rfl
   refine Sat.go (Eq.refl _) (NS.yes (decide_eq_true (by show ((k : Nat) : Int) = 0; omega)) ?_)
   refine Sat.go (Eq.refl _) (NS.inn (P := Tryz.prog) (vals := [.ptr 23 0, .agg (l.getD k default).id.cells, .bool false, .bool false]) (objs1 := wL 111 .dead v e) (WeakL.keep 111 [4, 23, 110] (by kernel_rfl)) (by kernel_rfl) (LeL.cons (LeA.refl _) (LeL.cons (LeA.refl _) (LeL.cons (LeA.kb false) (LeL.cons (LeA.kb false) LeL.nil)))) (by kernel_rfl) (settle_ok v e (l.getD k default).id false false (hz.le (by omega))) rfl ?_)
   refine Sat.go (Eq.refl _) (NS.next ⟨k + 1, by omega⟩ (by simp; omega) ?_)
   exact weak_hd [(110, 120)] rfl ⟨rfl, rfl, rfl, rfl, ren_int rfl (i64_k (k := k) (by omega) (by omega)), trivial⟩ ⟨⟨_, rfl, renW2 _ (v.settle e.time (l.getD k default).id false false) e hnx rfl⟩, ren_row rfl (congrArg (fun z : Wst => z.acts.length) hnx.symm) (fun i hi j hj => congrArg (fun z : Wst => rowL Mb.Act.cells z.acts i j) hnx.symm), trivial⟩ (Pre_cut (by kernel_rfl)) (by kernel_rfl)
  ·obtain ⟨j, rfl⟩ : ∃ j, k = j + 1 := ⟨k - 1, by omega⟩
   have e1 : IntKind.i64.wrap (((j + 1 : Nat) : Int) - 1) = (j : Int) := by rw [wrap_i64 (by omega) (by omega)]; omega
   refine Sat.go (Eq.refl _) (NS.no (decide_eq_false (by show ¬ ((j + 1 : Nat) : Int) = 0; omega)) ?_)
   refine Sat.go (Eq.refl _) (NS.need (by rw [e1]; simp; omega) ?_)
   refine Sat.go (Eq.refl _) (NS.ite (fun hq => ?_) (fun hq => ?_))
   ·have hq : (!((l.getD (IntKind.i64.wrap (((j + 1 : Nat) : Int) - 1)).toNat default).id.eqv (l.getD (j + 1) default).id)) = true := hq
    rw [e1] at hq
    have hnx : tmN l e.time (Wst.setO ⟨n, [], err⟩ (dueM n.ofs e.time).2.1) (j + 1 + 1) = v.settle e.time (l.getD (j + 1) default).id false false := by rw [hset, if_pos (by rw [Bool.or_eq_true]; exact .inr hq)]
    refine Sat.go (Eq.refl _) (NS.inn (P := Tryz.prog) (vals := [.ptr 23 0, .agg (l.getD (j + 1) default).id.cells, .bool false, .bool false]) (objs1 := wL 111 .dead v e) (WeakL.keep 111 [4, 23, 110] (by kernel_rfl)) (by kernel_rfl) (LeL.cons (LeA.refl _) (LeL.cons (LeA.refl _) (LeL.cons (LeA.kb false) (LeL.cons (LeA.kb false) LeL.nil)))) (by kernel_rfl) (settle_ok v e (l.getD (j + 1) default).id false false (hz.le (by omega))) rfl ?_)
    refine Sat.go (Eq.refl _) (NS.next ⟨(j + 1) + 1, by omega⟩ (by simp; omega) ?_)
    exact weak_hd [(110, 120)] rfl ⟨rfl, rfl, rfl, rfl, ren_int rfl (i64_k (k := (j + 1)) (by omega) (by omega)), trivial⟩ ⟨⟨_, rfl, renW2 _ (v.settle e.time (l.getD (j + 1) default).id false false) e hnx rfl⟩, ren_row rfl (congrArg (fun z : Wst => z.acts.length) hnx.symm) (fun i hi j hj => congrArg (fun z : Wst => rowL Mb.Act.cells z.acts i j) hnx.symm), trivial⟩ (Pre_cut (by kernel_rfl)) (by kernel_rfl)
   ·have hq : (!((l.getD (IntKind.i64.wrap (((j + 1 : Nat) : Int) - 1)).toNat default).id.eqv (l.getD (j + 1) default).id)) = false := hq
    rw [e1] at hq
    have hnx : tmN l e.time (Wst.setO ⟨n, [], err⟩ (dueM n.ofs e.time).2.1) (j + 1 + 1) = v := by rw [hset, if_neg (by rw [Bool.or_eq_true]; rintro (q | q); exact absurd q (by simp); rw [show j + 1 - 1 = j from rfl] at q; rw [show ((l.getD (j : Int).toNat default).id) = (l.getD j default).id from rfl] at hq; rw [hq] at q; cases q)]
    refine Sat.go (Eq.refl _) (NS.next ⟨j + 1 + 1, by omega⟩ (by simp; omega) ?_)
    exact weak_hd [] rfl ⟨rfl, rfl, rfl, rfl, ren_int rfl (i64_k (k := j + 1) (by omega) (by omega)), trivial⟩ ⟨⟨_, rfl, renW2 _ v e hnx rfl⟩, ren_row rfl (congrArg (fun z : Wst => z.acts.length) hnx.symm) (fun i hi j hj => congrArg (fun z : Wst => rowL Mb.Act.cells z.acts i j) hnx.symm), trivial⟩ (Pre_cut (by kernel_rfl)) (by kernel_rfl)
 ·have h : ¬ k < l.length := by simpa using h
  obtain rfl : k = l.length := by omega
  refine Sat.go (Eq.refl _) (NS.leave rfl (Eq.refl _) ?_)
  refine Sat.go (Eq.refl _) (NS.fin (ts := []) rfl ((weak_hd (ts := []) (os := [(23, .box (wCells (tmN l e.time (Wst.setO ⟨n, [], err⟩ (dueM n.ofs e.time).2.1) l.length) e (.own 120))), (120, rowAct (tmN l e.time (Wst.setO ⟨n, [], err⟩ (dueM n.ofs e.time).2.1) l.length : Wst).acts)]) (objs0 := wH ⟨n, [], err⟩ e) [(120, 110)] rfl trivial ⟨⟨_, rfl, renW _ (tmN l e.time (Wst.setO ⟨n, [], err⟩ (dueM n.ofs e.time).2.1) l.length) e rfl⟩, ren_row rfl rfl fun _ _ _ _ => rfl, trivial⟩ (Pre_cut (by kernel_rfl)) (by kernel_rfl)).trans (hfin _ ⟨n, [], err⟩ (tmN l e.time (Wst.setO ⟨n, [], err⟩ (dueM n.ofs e.time).2.1) l.length) e)) rfl (LeA.refl _))
theorem Sz.exN {w : Wst} (h : Sz w 0) (l : List Jrec) (t : Int) : ∀ k, Sz (exN l t w k) k
 | 0 => h
 | k + 1 => by
  unfold Go.Proofs.YtggjngbighkdgaaGreat.exN
  split
  ·exact (Sz.exN h l t k).remove _ _
  ·exact (Sz.exN h l t k).le (by omega)
theorem expireW_ok (w : Wst) (e : Evt) (ha : w.acts = []) (hz : Sz w 0) : FnIn Tryz.prog 114 [.ptr 23 0] (wH w e) 32 (.tup []) (wE w (expireW w e) e) := by
 obtain ⟨n, acts, err⟩ := w
 obtain rfl : acts = [] := ha
 have hsz := hz.exN (expireM n.dur e.time).1 e.time
 obtain ⟨h1, h2, h3, h4, h5⟩ := hz
 simp only at h1 h2 h3 h4
 have d1 := expireM_len n.dur e.time
 refine fn_in CH rfl (by kernel_rfl) Tryz.func114 rfl ?_
 rw [forceSt_eq]
 refine Sat.wk (weak_promoteB 23 30 110 63 14 (rowL Mb.Act.cells []) rfl rfl rfl) ?_
 refine Sat.go (Eq.refl _) (NS.chk (by kernel_rfl) ?_)
 refine Sat.go (Eq.refl _) (NS.call (expire_ok n.dur e.time (by omega) (by omega)) rfl ?_)
 refine Sat.go (Eq.refl _) (NS.ite (fun q1 => ?_) (fun q1 => ?_))
 ·rw [show expireW ⟨n, [], err⟩ e = ⟨n, [], (expireM n.dur e.time).2⟩ from if_pos q1]
  refine Sat.go (Eq.refl _) (NS.fin (ts := []) rfl ((weak_hd (ts := []) (os := [(23, .box (wCells (⟨n, [], (expireM n.dur e.time).2⟩) e (.own 120))), (120, rowAct (⟨n, [], (expireM n.dur e.time).2⟩ : Wst).acts)]) (objs0 := wH ⟨n, [], err⟩ e) [(120, 110)] rfl trivial ⟨⟨_, rfl, renW _ (⟨n, [], (expireM n.dur e.time).2⟩) e rfl⟩, ren_row rfl rfl fun _ _ _ _ => rfl, trivial⟩ (Pre_cut (by kernel_rfl)) (by kernel_rfl)).trans (hfin _ ⟨n, [], err⟩ (⟨n, [], (expireM n.dur e.time).2⟩) e)) rfl (LeA.refl _))
 rw [show expireW ⟨n, [], err⟩ e = exN (expireM n.dur e.time).1 e.time ⟨n, [], err⟩ (expireM n.dur e.time).1.length from if_neg (by rw [q1]; decide)]
 obtain ⟨l, hl⟩ : ∃ l, l = (expireM n.dur e.time).1 := ⟨_, rfl⟩
 rw [← hl] at d1 hsz
 rw [← hl]
 refine Sat.go (Eq.refl _) ?_
 refine NS.loop (σ := { k : Nat // k ≤ l.length }) (fun k => [(0, .ptr 23 0), (28, slR l), (29, .int .i64 l.length), (30, .int .i64 k.1)]) (fun k => [(23, .box (wCells (exN l e.time ⟨n, [], err⟩ k.1) e (.own 110))), (110, rowAct (exN l e.time ⟨n, [], err⟩ k.1).acts)]) (fun k => l.length - k.1) ⟨0, Nat.zero_le _⟩ ?_ ?_
 ·exact weak_hd [] rfl ⟨rfl, rfl, rfl, rfl, trivial⟩ ⟨⟨_, rfl, renW _ ⟨n, [], err⟩ e rfl⟩, ren_row rfl rfl (fun _ _ _ _ => rfl), trivial⟩ (Pre_cut (by kernel_rfl)) (by kernel_rfl)
 rintro ⟨k, hk⟩
 have hk : k ≤ l.length := hk
 refine Sat.go (Eq.refl _) (NS.ite (fun h => ?_) (fun h => ?_))
 ·have h : k < l.length := by simpa using h
  have hz := hsz k
  have hset : exN l e.time ⟨n, [], err⟩ (k + 1) = if (findM (exN l e.time ⟨n, [], err⟩ k).n.dur (l.getD k default).id).2 then (exN l e.time ⟨n, [], err⟩ k).remove e.time (findM (exN l e.time ⟨n, [], err⟩ k).n.dur (l.getD k default).id).1 else exN l e.time ⟨n, [], err⟩ k := rfl
  obtain ⟨v, hv⟩ : ∃ v, v = exN l e.time ⟨n, [], err⟩ k := ⟨_, rfl⟩
  rw [← hv] at hz hset
  refine Sat.go (Eq.refl _) (NS.need (by simp; omega) ?_)
  show Sat _ _ _ _ _
  simp only [← hv]
  refine Sat.go (Eq.refl _) (NS.chk (by kernel_rfl) ?_)
  obtain ⟨z1, z2, z3, z4, z5⟩ := hz
  refine Sat.go (Eq.refl _) (NS.call (find_ok v.n.dur (l.getD k default).id (by omega)) rfl ?_)
  refine Sat.go (Eq.refl _) (NS.ite (fun q2 => ?_) (fun q2 => ?_))
  ·have hnx : exN l e.time ⟨n, [], err⟩ (k + 1) = v.remove e.time (findM v.n.dur (l.getD k default).id).1 := by rw [hset, if_pos q2]
   refine Sat.go (Eq.refl _) (NS.inn (P := Tryz.prog) (vals := [.ptr 23 0, .agg ((findM v.n.dur (l.getD k default).id).1).cells]) (objs1 := wL 150 .dead (v) e) (WeakL.keep 150 [4, 23, 110] (by kernel_rfl)) (by kernel_rfl) (LeL.refl _) (by kernel_rfl) (remove_ok (v) e ((findM v.n.dur (l.getD k default).id).1) (by omega) (by omega) (by omega) (by omega) (by omega)) rfl ?_)
   refine Sat.go (Eq.refl _) (NS.next ⟨k + 1, by omega⟩ (by simp; omega) ?_)
   exact weak_hd [(110, 160)] rfl ⟨rfl, rfl, rfl, ren_int rfl (i64_k (k := k) (by omega) (by omega)), trivial⟩ ⟨⟨_, rfl, renW2 _ (v.remove e.time (findM v.n.dur (l.getD k default).id).1) e hnx rfl⟩, ren_row rfl (congrArg (fun z : Wst => z.acts.length) hnx.symm) (fun i hi j hj => congrArg (fun z : Wst => rowL Mb.Act.cells z.acts i j) hnx.symm), trivial⟩ (Pre_cut (by kernel_rfl)) (by kernel_rfl)
  ·have hnx : exN l e.time ⟨n, [], err⟩ (k + 1) = v := by rw [hset, if_neg (by rw [show (findM v.n.dur (l.getD k default).id).2 = false from q2]; decide)]
   refine Sat.go (Eq.refl _) (NS.next ⟨k + 1, by omega⟩ (by simp; omega) ?_)
   exact weak_hd [] rfl ⟨rfl, rfl, rfl, ren_int rfl (i64_k (k := k) (by omega) (by omega)), trivial⟩ ⟨⟨_, rfl, renW2 _ v e hnx rfl⟩, ren_row rfl (congrArg (fun z : Wst => z.acts.length) hnx.symm) (fun i hi j hj => congrArg (fun z : Wst => rowL Mb.Act.cells z.acts i j) hnx.symm), trivial⟩ (Pre_cut (by kernel_rfl)) (by kernel_rfl)
 ·have h : ¬ k < l.length := by simpa using h
  obtain rfl : k = l.length := by omega
  refine Sat.go (Eq.refl _) (NS.leave rfl (Eq.refl _) ?_)
  refine Sat.go (Eq.refl _) (NS.fin (ts := []) rfl ((weak_hd (ts := []) (os := [(23, .box (wCells (exN l e.time ⟨n, [], err⟩ l.length) e (.own 120))), (120, rowAct (exN l e.time ⟨n, [], err⟩ l.length : Wst).acts)]) (objs0 := wH ⟨n, [], err⟩ e) [(120, 110)] rfl trivial ⟨⟨_, rfl, renW _ (exN l e.time ⟨n, [], err⟩ l.length) e rfl⟩, ren_row rfl rfl fun _ _ _ _ => rfl, trivial⟩ (Pre_cut (by kernel_rfl)) (by kernel_rfl)).trans (hfin _ ⟨n, [], err⟩ (exN l e.time ⟨n, [], err⟩ l.length) e)) rfl (LeA.refl _))
end Go.Proofs.YtggjngbighkdgaaGreat

namespace Go.Proofs.YtggjngbighkdgaaGreat
open Go.Sy Go.Mb
set_option maxRecDepth 100000
set_option maxHeartbeats 4000000
theorem put1_ok (w : Wst) (e : Evt) (a : A) (o : Ofr) : FnOK Tryz.prog 172 [.agg o.cells, .ip 1 (getA [.ip 32 (getA (wCells w e a))])] (.bool (ofId e.item.id o), none) := by
 refine fn_ok CF rfl (by kernel_rfl) Tryz.func172 rfl ?_
 refine Sat.go (Eq.refl _) (NS.chk (by kernel_rfl) ?_)
 exact Sat.go (Eq.refl _) (NS.ret rfl rfl (LeA.refl _))
theorem putW_ok (w : Wst) (e : Evt) (ha : w.acts = []) (hz : Sz w 0) : FnIn Tryz.prog 110 [.ptr 23 0] (wH w e) 32 (.tup []) (wE w (putW w e) e) := by
 obtain ⟨n, acts, err⟩ := w
 obtain rfl : acts = [] := ha
 obtain ⟨h1, h2, h3, h4, h5⟩ := hz
 simp only at h1 h2 h3 h4
 have c := put_ok n.dur n.self n.quota e.item e.time (by omega) (by omega)
 have hl := putM_len n.dur n.self n.quota e.item e.time
 have hw : putW ⟨n, [], err⟩ e = if (putM n.dur n.self n.quota e.item e.time).2.2 != 0 then ⟨n, [], (putM n.dur n.self n.quota e.item e.time).2.2⟩
  else (Wst.write ⟨n, [], err⟩ (putM n.dur n.self n.quota e.item e.time).1).act ⟨kindP ⟨n, [], err⟩ e (putM n.dur n.self n.quota e.item e.time).2.1, e.item, 0, (putM n.dur n.self n.quota e.item e.time).2.1⟩ := rfl
 rw [hw]
 clear hw
 generalize putM n.dur n.self n.quota e.item e.time = p at *
 refine fn_in CH rfl (by kernel_rfl) Tryz.func110 rfl ?_
 rw [forceSt_eq]
 refine Sat.wk (weak_promoteB 23 30 110 63 14 (rowL Mb.Act.cells []) rfl rfl rfl) ?_
 refine Sat.go (Eq.refl _) (NS.chk (by kernel_rfl) ?_)
 refine Sat.go (Eq.refl _) (NS.call (c) rfl ?_)
 refine Sat.go (Eq.refl _) (NS.ite (fun q1 => ?_) (fun q1 => ?_))
 ·rw [if_pos q1]
  refine Sat.go (Eq.refl _) (NS.fin (ts := []) rfl ((weak_hd (ts := []) (os := [(23, .box (wCells (⟨n, [], p.2.2⟩) e (.own 120))), (120, rowAct (⟨n, [], p.2.2⟩ : Wst).acts)]) (objs0 := wH ⟨n, [], err⟩ e) [(120, 110)] rfl trivial ⟨⟨_, rfl, renW _ (⟨n, [], p.2.2⟩) e rfl⟩, ren_row rfl rfl fun _ _ _ _ => rfl, trivial⟩ (Pre_cut (by kernel_rfl)) (by kernel_rfl)).trans (hfin _ ⟨n, [], err⟩ (⟨n, [], p.2.2⟩) e)) rfl (LeA.refl _))
 rw [if_neg (by rw [q1]; decide)]
 refine Sat.go (Eq.refl _) (NS.call (contO_ok n.ofs (by omega) 172 1 (getA [.ip 32 (getA (wCells ⟨n, [], err⟩ e (.sl 14 0 (rowL Mb.Act.cells []))))]) (ofId e.item.id) (put1_ok _ e _)) rfl ?_)
 refine Sat.go (Eq.refl _) (NS.ite (fun a1 => ?_) (fun a1 => ?_))
 ·rw [show kindP ⟨n, [], err⟩ e p.2.1 = 3 by unfold kindP; simp [show (p.2.1 == 4) = true from a1]]
  refine Sat.go (Eq.refl _) (NS.inn (P := Tryz.prog) (vals := [.ptr 23 0, slR p.1]) (objs1 := wL 165 (.box [.ptr 23 0]) ⟨n, [], err⟩ e) (WeakL.keep 165 [4, 23, 33, 110] (by kernel_rfl)) (by kernel_rfl) (LeL.refl _) (by kernel_rfl) (writeP_ok ⟨n, [], err⟩ e p.1 hl (Nat.le_trans h1 (by decide)) (Nat.le_trans h2 (by decide)) h3) rfl ?_)
  refine Sat.go (Eq.refl _) (NS.chk (by kernel_rfl) ?_)
  refine Sat.go (Eq.refl _) (NS.chk (by kernel_rfl) ?_)
  refine Sat.go (Eq.refl _) (NS.need (decide_eq_true (by show (0 + 1) * (119 + 1 + 1) ≤ maxRow; decide)) ?_)
  have hwa : (Wst.write ⟨n, [], err⟩ p.1).acts = [] := by cases p.1 <;> rfl
  refine Sat.go (Eq.refl _) (NS.fin (ts := []) rfl ((weak_hd (ts := []) (os := [(23, .box (wCells (Wst.act (Wst.write ⟨n, [], err⟩ p.1) ⟨3, e.item, 0, p.2.1⟩) e (.own 120))), (120, rowAct (Wst.act (Wst.write ⟨n, [], err⟩ p.1) ⟨3, e.item, 0, p.2.1⟩ : Wst).acts)]) (objs0 := wH ⟨n, [], err⟩ e) [(120, 176)] rfl trivial ⟨⟨_, rfl, renW _ (Wst.act (Wst.write ⟨n, [], err⟩ p.1) ⟨3, e.item, 0, p.2.1⟩) e rfl⟩, ren_row rfl (by show 0 + 1 = ((Wst.write ⟨n, [], err⟩ p.1).acts ++ [_]).length; rw [hwa]; rfl) (fun i hi j hj => by show _ = rowL Mb.Act.cells ((Wst.write ⟨n, [], err⟩ p.1).acts ++ [_]) i j; rw [hwa]; exact row_snoc (cells := Mb.Act.cells) (l := []) (x := ⟨3, e.item, 0, p.2.1⟩) rfl i (by have hi : i < ((Wst.write ⟨n, [], err⟩ p.1).acts ++ [_]).length := hi; rw [hwa] at hi; exact hi) j hj), trivial⟩ (Pre_cut (by kernel_rfl)) (by kernel_rfl)).trans (hfin _ ⟨n, [], err⟩ (Wst.act (Wst.write ⟨n, [], err⟩ p.1) ⟨3, e.item, 0, p.2.1⟩) e)) rfl (LeA.refl _))
 refine Sat.go (Eq.refl _) (NS.ite (fun a2 => ?_) (fun a2 => ?_))
 ·rw [show kindP ⟨n, [], err⟩ e p.2.1 = 3 by unfold kindP; simp [show (p.2.1 == 5) = true from a2]]
  refine Sat.go (Eq.refl _) (NS.inn (P := Tryz.prog) (vals := [.ptr 23 0, slR p.1]) (objs1 := wL 165 (.box [.ptr 23 0]) ⟨n, [], err⟩ e) (WeakL.keep 165 [4, 23, 33, 110] (by kernel_rfl)) (by kernel_rfl) (LeL.refl _) (by kernel_rfl) (writeP_ok ⟨n, [], err⟩ e p.1 hl (Nat.le_trans h1 (by decide)) (Nat.le_trans h2 (by decide)) h3) rfl ?_)
  refine Sat.go (Eq.refl _) (NS.chk (by kernel_rfl) ?_)
  refine Sat.go (Eq.refl _) (NS.chk (by kernel_rfl) ?_)
  refine Sat.go (Eq.refl _) (NS.need (decide_eq_true (by show (0 + 1) * (119 + 1 + 1) ≤ maxRow; decide)) ?_)
  have hwa : (Wst.write ⟨n, [], err⟩ p.1).acts = [] := by cases p.1 <;> rfl
  refine Sat.go (Eq.refl _) (NS.fin (ts := []) rfl ((weak_hd (ts := []) (os := [(23, .box (wCells (Wst.act (Wst.write ⟨n, [], err⟩ p.1) ⟨3, e.item, 0, p.2.1⟩) e (.own 120))), (120, rowAct (Wst.act (Wst.write ⟨n, [], err⟩ p.1) ⟨3, e.item, 0, p.2.1⟩ : Wst).acts)]) (objs0 := wH ⟨n, [], err⟩ e) [(120, 176)] rfl trivial ⟨⟨_, rfl, renW _ (Wst.act (Wst.write ⟨n, [], err⟩ p.1) ⟨3, e.item, 0, p.2.1⟩) e rfl⟩, ren_row rfl (by show 0 + 1 = ((Wst.write ⟨n, [], err⟩ p.1).acts ++ [_]).length; rw [hwa]; rfl) (fun i hi j hj => by show _ = rowL Mb.Act.cells ((Wst.write ⟨n, [], err⟩ p.1).acts ++ [_]) i j; rw [hwa]; exact row_snoc (cells := Mb.Act.cells) (l := []) (x := ⟨3, e.item, 0, p.2.1⟩) rfl i (by have hi : i < ((Wst.write ⟨n, [], err⟩ p.1).acts ++ [_]).length := hi; rw [hwa] at hi; exact hi) j hj), trivial⟩ (Pre_cut (by kernel_rfl)) (by kernel_rfl)).trans (hfin _ ⟨n, [], err⟩ (Wst.act (Wst.write ⟨n, [], err⟩ p.1) ⟨3, e.item, 0, p.2.1⟩) e)) rfl (LeA.refl _))
 refine Sat.go (Eq.refl _) (NS.ite (fun a3 => ?_) (fun a3 => ?_))
 ·refine Sat.go (Eq.refl _) (NS.ite (fun a4 => ?_) (fun a4 => ?_))
  ·rw [show kindP ⟨n, [], err⟩ e p.2.1 = 3 by unfold kindP; simp [show (p.2.1 == 3) = true from a3, show n.ofs.any (ofId e.item.id) = true from a4]]
   refine Sat.go (Eq.refl _) (NS.inn (P := Tryz.prog) (vals := [.ptr 23 0, slR p.1]) (objs1 := wL 165 (.box [.ptr 23 0]) ⟨n, [], err⟩ e) (WeakL.keep 165 [4, 23, 33, 110] (by kernel_rfl)) (by kernel_rfl) (LeL.refl _) (by kernel_rfl) (writeP_ok ⟨n, [], err⟩ e p.1 hl (Nat.le_trans h1 (by decide)) (Nat.le_trans h2 (by decide)) h3) rfl ?_)
   refine Sat.go (Eq.refl _) (NS.chk (by kernel_rfl) ?_)
   refine Sat.go (Eq.refl _) (NS.chk (by kernel_rfl) ?_)
   refine Sat.go (Eq.refl _) (NS.need (decide_eq_true (by show (0 + 1) * (119 + 1 + 1) ≤ maxRow; decide)) ?_)
   have hwa : (Wst.write ⟨n, [], err⟩ p.1).acts = [] := by cases p.1 <;> rfl
   refine Sat.go (Eq.refl _) (NS.fin (ts := []) rfl ((weak_hd (ts := []) (os := [(23, .box (wCells (Wst.act (Wst.write ⟨n, [], err⟩ p.1) ⟨3, e.item, 0, p.2.1⟩) e (.own 120))), (120, rowAct (Wst.act (Wst.write ⟨n, [], err⟩ p.1) ⟨3, e.item, 0, p.2.1⟩ : Wst).acts)]) (objs0 := wH ⟨n, [], err⟩ e) [(120, 176)] rfl trivial ⟨⟨_, rfl, renW _ (Wst.act (Wst.write ⟨n, [], err⟩ p.1) ⟨3, e.item, 0, p.2.1⟩) e rfl⟩, ren_row rfl (by show 0 + 1 = ((Wst.write ⟨n, [], err⟩ p.1).acts ++ [_]).length; rw [hwa]; rfl) (fun i hi j hj => by show _ = rowL Mb.Act.cells ((Wst.write ⟨n, [], err⟩ p.1).acts ++ [_]) i j; rw [hwa]; exact row_snoc (cells := Mb.Act.cells) (l := []) (x := ⟨3, e.item, 0, p.2.1⟩) rfl i (by have hi : i < ((Wst.write ⟨n, [], err⟩ p.1).acts ++ [_]).length := hi; rw [hwa] at hi; exact hi) j hj), trivial⟩ (Pre_cut (by kernel_rfl)) (by kernel_rfl)).trans (hfin _ ⟨n, [], err⟩ (Wst.act (Wst.write ⟨n, [], err⟩ p.1) ⟨3, e.item, 0, p.2.1⟩) e)) rfl (LeA.refl _))
  ·rw [show kindP ⟨n, [], err⟩ e p.2.1 = 2 by unfold kindP; simp [show (p.2.1 == 4) = false from a1, show (p.2.1 == 5) = false from a2, show (p.2.1 == 3) = true from a3, show n.ofs.any (ofId e.item.id) = false from a4]]
   refine Sat.go (Eq.refl _) (NS.inn (P := Tryz.prog) (vals := [.ptr 23 0, slR p.1]) (objs1 := wL 165 (.box [.ptr 23 0]) ⟨n, [], err⟩ e) (WeakL.keep 165 [4, 23, 33, 110] (by kernel_rfl)) (by kernel_rfl) (LeL.refl _) (by kernel_rfl) (writeP_ok ⟨n, [], err⟩ e p.1 hl (Nat.le_trans h1 (by decide)) (Nat.le_trans h2 (by decide)) h3) rfl ?_)
   refine Sat.go (Eq.refl _) (NS.chk (by kernel_rfl) ?_)
   refine Sat.go (Eq.refl _) (NS.chk (by kernel_rfl) ?_)
   refine Sat.go (Eq.refl _) (NS.need (decide_eq_true (by show (0 + 1) * (119 + 1 + 1) ≤ maxRow; decide)) ?_)
   have hwa : (Wst.write ⟨n, [], err⟩ p.1).acts = [] := by cases p.1 <;> rfl
   refine Sat.go (Eq.refl _) (NS.fin (ts := []) rfl ((weak_hd (ts := []) (os := [(23, .box (wCells (Wst.act (Wst.write ⟨n, [], err⟩ p.1) ⟨2, e.item, 0, p.2.1⟩) e (.own 120))), (120, rowAct (Wst.act (Wst.write ⟨n, [], err⟩ p.1) ⟨2, e.item, 0, p.2.1⟩ : Wst).acts)]) (objs0 := wH ⟨n, [], err⟩ e) [(120, 176)] rfl trivial ⟨⟨_, rfl, renW _ (Wst.act (Wst.write ⟨n, [], err⟩ p.1) ⟨2, e.item, 0, p.2.1⟩) e rfl⟩, ren_row rfl (by show 0 + 1 = ((Wst.write ⟨n, [], err⟩ p.1).acts ++ [_]).length; rw [hwa]; rfl) (fun i hi j hj => by show _ = rowL Mb.Act.cells ((Wst.write ⟨n, [], err⟩ p.1).acts ++ [_]) i j; rw [hwa]; exact row_snoc (cells := Mb.Act.cells) (l := []) (x := ⟨2, e.item, 0, p.2.1⟩) rfl i (by have hi : i < ((Wst.write ⟨n, [], err⟩ p.1).acts ++ [_]).length := hi; rw [hwa] at hi; exact hi) j hj), trivial⟩ (Pre_cut (by kernel_rfl)) (by kernel_rfl)).trans (hfin _ ⟨n, [], err⟩ (Wst.act (Wst.write ⟨n, [], err⟩ p.1) ⟨2, e.item, 0, p.2.1⟩) e)) rfl (LeA.refl _))
 ·rw [show kindP ⟨n, [], err⟩ e p.2.1 = 2 by unfold kindP; simp [show (p.2.1 == 4) = false from a1, show (p.2.1 == 5) = false from a2, show (p.2.1 == 3) = false from a3]]
  refine Sat.go (Eq.refl _) (NS.inn (P := Tryz.prog) (vals := [.ptr 23 0, slR p.1]) (objs1 := wL 165 (.box [.ptr 23 0]) ⟨n, [], err⟩ e) (WeakL.keep 165 [4, 23, 33, 110] (by kernel_rfl)) (by kernel_rfl) (LeL.refl _) (by kernel_rfl) (writeP_ok ⟨n, [], err⟩ e p.1 hl (Nat.le_trans h1 (by decide)) (Nat.le_trans h2 (by decide)) h3) rfl ?_)
  refine Sat.go (Eq.refl _) (NS.chk (by kernel_rfl) ?_)
  refine Sat.go (Eq.refl _) (NS.chk (by kernel_rfl) ?_)
  refine Sat.go (Eq.refl _) (NS.need (decide_eq_true (by show (0 + 1) * (119 + 1 + 1) ≤ maxRow; decide)) ?_)
  have hwa : (Wst.write ⟨n, [], err⟩ p.1).acts = [] := by cases p.1 <;> rfl
  refine Sat.go (Eq.refl _) (NS.fin (ts := []) rfl ((weak_hd (ts := []) (os := [(23, .box (wCells (Wst.act (Wst.write ⟨n, [], err⟩ p.1) ⟨2, e.item, 0, p.2.1⟩) e (.own 120))), (120, rowAct (Wst.act (Wst.write ⟨n, [], err⟩ p.1) ⟨2, e.item, 0, p.2.1⟩ : Wst).acts)]) (objs0 := wH ⟨n, [], err⟩ e) [(120, 176)] rfl trivial ⟨⟨_, rfl, renW _ (Wst.act (Wst.write ⟨n, [], err⟩ p.1) ⟨2, e.item, 0, p.2.1⟩) e rfl⟩, ren_row rfl (by show 0 + 1 = ((Wst.write ⟨n, [], err⟩ p.1).acts ++ [_]).length; rw [hwa]; rfl) (fun i hi j hj => by show _ = rowL Mb.Act.cells ((Wst.write ⟨n, [], err⟩ p.1).acts ++ [_]) i j; rw [hwa]; exact row_snoc (cells := Mb.Act.cells) (l := []) (x := ⟨2, e.item, 0, p.2.1⟩) rfl i (by have hi : i < ((Wst.write ⟨n, [], err⟩ p.1).acts ++ [_]).length := hi; rw [hwa] at hi; exact hi) j hj), trivial⟩ (Pre_cut (by kernel_rfl)) (by kernel_rfl)).trans (hfin _ ⟨n, [], err⟩ (Wst.act (Wst.write ⟨n, [], err⟩ p.1) ⟨2, e.item, 0, p.2.1⟩) e)) rfl (LeA.refl _))
end Go.Proofs.YtggjngbighkdgaaGreat

namespace Go.Proofs.YtggjngbighkdgaaGreat
open Go.Sy Go.Mb
set_option maxRecDepth 100000
set_option maxHeartbeats 4000000
theorem rdJN_len : ∀ (k : Nat) (l : List Nat), (rdJN k l).1.length ≤ k
 | 0, _ => Nat.le_refl _
 | k + 1, l => by
  unfold rdJN
  split
  ·exact Nat.zero_le _
  ·rename_i r n _
   have := rdJN_len k (l.drop n)
   simp only [List.length_cons]; omega
theorem rdJA_len (l : List Nat) : (rdJA l).1.length ≤ 65536 := by
 unfold rdJA
 split
 ·exact Nat.zero_le _
 ·rename_i h
  have h : ¬ (l.length : Int) > 65536 := fun q => h (decide_eq_true q)
  have := rdJN_len l.length l
  show (rdJN l.length l).1.length ≤ _
  omega
def jrnD (n : Nod) : Dur × Int := foldM (rdJA (ls n.jour)).1
theorem jrnD_len (n : Nod) : (jrnD n).1.items.length ≤ 65536 ∧ (jrnD n).1.inbox.length ≤ 65536 := by
 have h := foldM_len (rdJA (ls n.jour)).1
 have h2 := rdJA_len (ls n.jour)
 exact ⟨Nat.le_trans h.1 h2, Nat.le_trans h.2 h2⟩
def storedM (n : Nod) : Bool :=
 (rdJA (ls n.jour)).2.2 == 0 && (((rdJA (ls n.jour)).2.1 : Nat) : Int) == (n.jour.size : Int) && (jrnD n).2 == 0 && sameBy Itm.eqv (jrnD n).1.items n.dur.items && sameBy Itm.eqv (jrnD n).1.inbox n.dur.inbox && checkQ (jrnD n).1 n.quota == 0 && chkO n.ofs == 0 && !n.ofs.any fun o => !(findM (jrnD n).1 o.id).2
def emptyN (n : Nod) : Bool := IntKind.i64.wrap (IntKind.i64.wrap ((n.dur.items.length : Int) + (n.dur.inbox.length : Int)) + (n.ofs.length : Int)) == 0
def chkN (n : Nod) : Int :=
 if !inR n.self 0 15 || !inR n.quota 0 1073741824 || !inR n.last 0 (n.jour.size : Int) then 2
 else if decide ((n.jour.size : Int) > 65536) || (n.up && !storedM n) || (!n.up && !emptyN n) then 1 else 0
theorem nWithin_ok (n lo hi : Int) : FnOK Tryz.prog 65 [.int .i64 n, .int .i64 lo, .int .i64 hi] (.bool (inR n lo hi), none) := by
 unfold inR
 refine fn_ok CF rfl (by kernel_rfl) Tryz.func65 rfl ?_
 repeat' (first | (refine Sat.go (Eq.refl _) (NS.ite (fun h => ?_) (fun h => ?_))) | (refine Sat.go (Eq.refl _) (NS.chk (by kernel_rfl) ?_)) | (exact Sat.go (Eq.refl _) (NS.ret rfl rfl (LeA.of (congrArg A.bool (by first | (symm; rw [decide_eq_false_iff_not]; simp only [decide_eq_false_iff_not] at *; omega) | (simp only [decide_eq_true_eq] at *; rw [decide_eq_decide]; omega)))))))
theorem equalI_ok (l m : List Itm) (hl : l.length ≤ 1000000) : FnOK Tryz.prog 99 [slItm l, slItm m] (.bool (sameBy Itm.eqv l m), none) := by
 refine fn_ok CF rfl (by kernel_rfl) Tryz.func99 rfl ?_
 refine Sat.go (Eq.refl _) (NS.ite (fun h0 => ?_) (fun h0 => ?_))
 ·exact Sat.go (Eq.refl _) (NS.ret rfl rfl (LeA.of (congrArg A.bool ((sameBy_len (fun _ _ => Itm.eqv_iff) (by intro e; rw [e] at h0; simp at h0)).symm))))
 have hlm : l.length = m.length := by simp only [bne_eq_false_iff_eq] at h0; omega
 refine Sat.go (Eq.refl _) ?_
 refine NS.loop (σ := { k : Nat // k ≤ l.length ∧ ∀ i, i < k → Itm.eqv (l.getD i default) (m.getD i default) = true }) (fun k => [(0, slItm l), (1, slItm m), (12, .int .i64 l.length), (13, .int .i64 k.1)]) (fun _ => []) (fun k => l.length - k.1) ⟨0, Nat.zero_le _, fun i hi => by omega⟩ ?_ ?_
 ·exact weak_hd [] rfl ⟨rfl, rfl, rfl, rfl, trivial⟩ trivial trivial (by kernel_rfl)
 rintro ⟨k, hk, hn⟩
 refine Sat.go (Eq.refl _) (NS.ite (fun h => ?_) (fun h => ?_))
 ·have h : k < l.length := by simpa using h
  repeat' (first | (refine Sat.go (Eq.refl _) (NS.chk (by kernel_rfl) ?_)) | (refine Sat.go (Eq.refl _) (NS.need (by simp; omega) ?_)))
  refine Sat.go (Eq.refl _) (NS.ite (fun h2 => ?_) (fun h2 => ?_))
  ·exact Sat.go (Eq.refl _) (NS.leaveOut rfl (Eq.refl _) (NS.ret rfl rfl (LeA.of (congrArg A.bool ((sameBy_f (k := k) (fun _ _ => Itm.eqv_iff) (not_t h2)).symm)))))
  ·refine Sat.go (Eq.refl _) (NS.next ⟨k + 1, by omega, fun i hi => ?_⟩ (by simp; omega) ?_)
   ·by_cases hik : i = k
    ·subst hik; exact not_f h2
    ·exact hn i (by omega)
   ·exact weak_hd [] rfl ⟨rfl, rfl, rfl, ren_int rfl (i64_k (by omega) (by omega)), trivial⟩ trivial trivial (by kernel_rfl)
 ·have h : ¬ k < l.length := by simpa using h
  refine Sat.go (Eq.refl _) (NS.leave rfl (Eq.refl _) ?_)
  exact Sat.go (Eq.refl _) (NS.ret rfl rfl (LeA.of (congrArg A.bool ((sameBy_t (fun _ _ => Itm.eqv_iff) hlm fun i hi => hn i (by omega)).symm))))
theorem stored1_ok (d : Dur) (h : d.items.length ≤ 1000000) (o : Ofr) : FnOK Tryz.prog 102 [.agg o.cells, .ip 2 (getA d.cells)] (.bool (!(findM d o.id).2), none) := by
 refine fn_ok CF rfl (by kernel_rfl) Tryz.func102 rfl ?_
 refine Sat.go (Eq.refl _) (NS.call (find_ok d o.id h) rfl ?_)
 exact Sat.go (Eq.refl _) (NS.ret rfl rfl (LeA.refl _))
theorem stored_ok (n : Nod) (h1 : n.dur.items.length ≤ 1000000) (h2 : n.dur.inbox.length ≤ 1000000) : FnOK Tryz.prog 67 [.agg n.cells] (.bool (storedM n), none) := by
 obtain ⟨hj1, hj2⟩ := jrnD_len n
 have hl := rdJA_len (ls n.jour)
 have cf := fold_ok (rdJA (ls n.jour)).1 (by omega)
 have c1 := equalI_ok (jrnD n).1.items n.dur.items (by omega)
 have c2 := equalI_ok (jrnD n).1.inbox n.dur.inbox (by omega)
 have c3 := check_ok (jrnD n).1 n.quota (by omega) (by omega)
 change FnOK _ _ _ (durA (jrnD n), none) at cf
 refine fn_ok CF rfl (by kernel_rfl) Tryz.func67 rfl ?_
 refine Sat.go (Eq.refl _) (NS.call (read_ok n.jour) rfl ?_)
 refine Sat.go (Eq.refl _) (NS.ite (fun a1 => ?_) (fun a1 => ?_))
 ·exact Sat.go (Eq.refl _) (NS.ret rfl rfl (LeA.of (congrArg A.bool (by simp_all [storedM]))))
 refine Sat.go (Eq.refl _) (NS.ite (fun a2 => ?_) (fun a2 => ?_))
 ·exact Sat.go (Eq.refl _) (NS.ret rfl rfl (LeA.of (congrArg A.bool (by simp_all [storedM]))))
 refine Sat.go (Eq.refl _) (NS.call (cf) rfl ?_)
 refine Sat.go (Eq.refl _) (NS.ite (fun a3 => ?_) (fun a3 => ?_))
 ·exact Sat.go (Eq.refl _) (NS.ret rfl rfl (LeA.of (congrArg A.bool (by simp_all [storedM]))))
 refine Sat.go (Eq.refl _) (NS.call (c1) rfl ?_)
 refine Sat.go (Eq.refl _) (NS.ite (fun a4 => ?_) (fun a4 => ?_))
 ·exact Sat.go (Eq.refl _) (NS.ret rfl rfl (LeA.of (congrArg A.bool (by simp_all [storedM]))))
 refine Sat.go (Eq.refl _) (NS.call (c2) rfl ?_)
 refine Sat.go (Eq.refl _) (NS.ite (fun a5 => ?_) (fun a5 => ?_))
 ·exact Sat.go (Eq.refl _) (NS.ret rfl rfl (LeA.of (congrArg A.bool (by simp_all [storedM]))))
 refine Sat.go (Eq.refl _) (NS.call (c3) rfl ?_)
 refine Sat.go (Eq.refl _) (NS.ite (fun a6 => ?_) (fun a6 => ?_))
 ·exact Sat.go (Eq.refl _) (NS.ret rfl rfl (LeA.of (congrArg A.bool (by simp_all [storedM]))))
 refine Sat.go (Eq.refl _) (NS.call (cCheck_ok n.ofs) rfl ?_)
 refine Sat.go (Eq.refl _) (NS.ite (fun a7 => ?_) (fun a7 => ?_))
 ·exact Sat.go (Eq.refl _) (NS.ret rfl rfl (LeA.of (congrArg A.bool (by simp_all [storedM]))))
 refine Sat.wk (weak_freezeP 6 6 2 rfl rfl rfl rfl) ?_
 have hlo : n.ofs.length ≤ 64 := chkO_len (by simpa using a7)
 refine Sat.go (Eq.refl _) (NS.call (contO_ok n.ofs (by omega) 102 2 (getA (jrnD n).1.cells) (fun o => !(findM (jrnD n).1 o.id).2) (stored1_ok _ (by omega))) rfl ?_)
 exact Sat.go (Eq.refl _) (NS.ret rfl rfl (LeA.of (congrArg A.bool (by simp_all [storedM]))))
theorem nCheck_ok (n : Nod) (h1 : n.dur.items.length ≤ 1000000) (h2 : n.dur.inbox.length ≤ 1000000) (h3 : n.ofs.length ≤ 1000000) : FnOK Tryz.prog 20 [.agg n.cells] (.int .i64 (chkN n), none) := by
 refine fn_ok CF rfl (by kernel_rfl) Tryz.func20 rfl ?_
 refine Sat.go (Eq.refl _) (NS.call (nWithin_ok n.self 0 15) rfl ?_)
 refine Sat.go (Eq.refl _) (NS.ite (fun a1 => ?_) (fun a1 => ?_))
 ·exact Sat.go (Eq.refl _) (NS.ret rfl rfl (LeA.of (congrArg (A.int .i64) (by simp_all [chkN]))))
 refine Sat.go (Eq.refl _) (NS.call (nWithin_ok n.quota 0 1073741824) rfl ?_)
 refine Sat.go (Eq.refl _) (NS.ite (fun a2 => ?_) (fun a2 => ?_))
 ·exact Sat.go (Eq.refl _) (NS.ret rfl rfl (LeA.of (congrArg (A.int .i64) (by simp_all [chkN]))))
 refine Sat.go (Eq.refl _) (NS.call (nWithin_ok n.last 0 (n.jour.size : Int)) rfl ?_)
 refine Sat.go (Eq.refl _) (NS.ite (fun a3 => ?_) (fun a3 => ?_))
 ·exact Sat.go (Eq.refl _) (NS.ret rfl rfl (LeA.of (congrArg (A.int .i64) (by simp_all [chkN]))))
 refine Sat.go (Eq.refl _) (NS.ite (fun a4 => ?_) (fun a4 => ?_))
 ·exact Sat.go (Eq.refl _) (NS.ret rfl rfl (LeA.of (congrArg (A.int .i64) (by simp_all [chkN]))))
 refine Sat.go (Eq.refl _) (NS.ite (fun a5 => ?_) (fun a5 => ?_))
 ·refine Sat.go (Eq.refl _) (NS.call (stored_ok n h1 h2) rfl ?_)
  refine Sat.go (Eq.refl _) (NS.ite (fun a6 => ?_) (fun a6 => ?_))
  ·exact Sat.go (Eq.refl _) (NS.ret rfl rfl (LeA.of (congrArg (A.int .i64) (by simp_all [chkN]))))
  ·refine Sat.go (Eq.refl _) (NS.no (by rw [show n.up = true from a5]; rfl) ?_)
   exact Sat.go (Eq.refl _) (NS.ret rfl rfl (LeA.of (congrArg (A.int .i64) (by simp_all [chkN]))))
 ·refine Sat.go (Eq.refl _) (NS.yes (by rw [show n.up = false from a5]; rfl) ?_)
  refine Sat.go (Eq.refl _) (NS.ite (fun a7 => ?_) (fun a7 => ?_))
  ·exact Sat.go (Eq.refl _) (NS.ret rfl rfl (LeA.of (congrArg (A.int .i64) (by simp_all [chkN, emptyN]))))
  ·exact Sat.go (Eq.refl _) (NS.ret rfl rfl (LeA.of (congrArg (A.int .i64) (by simp_all [chkN, emptyN]))))
def newN (self quota : Int) : Nod × Int := if !inR self 0 15 || !inR quota 0 1073741824 then (zeroN, 2) else (⟨self, quota, true, .empty, 0, ⟨[], []⟩, []⟩, 0)
theorem zeroN_le {a : List A} (h : a = [.int .i64 0, .int .i64 0, .bool false, .str .empty, .int .i64 0, .nils, .nils, .nils]) : LeA (.agg a) (.agg zeroN.cells) := by
 subst h
 exact LeA.agg (LeL.cons (LeA.refl _) (LeL.cons (LeA.refl _) (LeL.cons (LeA.refl _) (LeL.cons (LeA.refl _) (LeL.cons (LeA.refl _) (LeL.cons (LeA.nil' rfl) (LeL.cons (LeA.nil' rfl) (LeL.cons (LeA.nil' rfl) LeL.nil))))))))
theorem nNew_ok (self quota : Int) : FnOK Tryz.prog 17 [.int .i64 self, .int .i64 quota] (.tup [.agg (newN self quota).1.cells, .int .i64 (newN self quota).2], none) := by
 refine fn_ok CF rfl (by kernel_rfl) Tryz.func17 rfl ?_
 refine Sat.go (Eq.refl _) (NS.call (nWithin_ok self 0 15) rfl ?_)
 refine Sat.go (Eq.refl _) (NS.ite (fun a1 => ?_) (fun a1 => ?_))
 ·rw [show newN self quota = (zeroN, 2) by unfold newN; rw [if_pos (by rw [a1]; rfl)]]
  exact Sat.go (Eq.refl _) (NS.ret rfl rfl (LeA.tup2 (zeroN_le rfl) (LeA.refl _)))
 refine Sat.go (Eq.refl _) (NS.call (nWithin_ok quota 0 1073741824) rfl ?_)
 refine Sat.go (Eq.refl _) (NS.ite (fun a2 => ?_) (fun a2 => ?_))
 ·rw [show newN self quota = (zeroN, 2) by unfold newN; rw [if_pos (by rw [a2, Bool.or_true])]]
  exact Sat.go (Eq.refl _) (NS.ret rfl rfl (LeA.tup2 (zeroN_le rfl) (LeA.refl _)))
 rw [show newN self quota = (⟨self, quota, true, .empty, 0, ⟨[], []⟩, []⟩, 0) by unfold newN; rw [if_neg (by rw [a1, a2]; decide)]]
 exact Sat.go (Eq.refl _) (NS.ret rfl rfl (LeA.tup2 (LeA.agg (LeL.cons (LeA.refl _) (LeL.cons (LeA.refl _) (LeL.cons (LeA.refl _) (LeL.cons (LeA.refl _) (LeL.cons (LeA.refl _) (LeL.cons (LeA.nil' rfl) (LeL.cons (LeA.nil' rfl) (LeL.cons (LeA.nil' rfl) LeL.nil))))))))) (LeA.refl _)))
theorem recErr_id (x : Nid) : (recErr ⟨2, .zero, x, 0, 0⟩ == 0) = vId x := by
 rw [vId_valid]
 unfold recErr
 have h1 : inR 2 1 4 = true := rfl
 have h2 : inR 0 0 1099511627776 = true := rfl
 simp [h1, h2, Itm.eqv]
 cases validId x <;> rfl
theorem recErr_id' (x : Nid) : recErr ⟨2, .zero, x, 0, 0⟩ = 0 ↔ vId x = true := by rw [← recErr_id]; simp
theorem recErr_st' (x : Itm) : recErr ⟨1, x, .zero, 0, 0⟩ = 0 ↔ okItem x = true := by rw [← recErr_store]; simp
theorem checkEvent_ok (e : Evt) : FnOK Tryz.prog 109 [.agg e.cells] (.int .i64 (evE e), none) := by
 refine fn_ok CF rfl (by kernel_rfl) Tryz.func109 rfl ?_
 refine Sat.go (Eq.refl _) (NS.call (nWithin_ok e.kind 1 7) rfl ?_)
 refine Sat.go (Eq.refl _) (NS.ite (fun a1 => ?_) (fun a1 => ?_))
 ·exact Sat.go (Eq.refl _) (NS.ret rfl rfl (LeA.of (congrArg (A.int .i64) (by simp_all [evE]))))
 refine Sat.go (Eq.refl _) (NS.call (jCheck_ok ⟨2, .zero, e.id, 0, 0⟩) rfl ?_)
 refine Sat.go (Eq.refl _) (NS.call (nWithin_ok e.contact 0 63) rfl ?_)
 refine Sat.go (Eq.refl _) (NS.call (nWithin_ok e.time 0 1099511627776) rfl ?_)
 repeat' (first | (refine Sat.go (Eq.refl _) (NS.ite (fun h => ?_) (fun h => ?_))) | (refine Sat.go (Eq.refl _) (NS.chk (by kernel_rfl) ?_)) | (refine Sat.go (Eq.refl _) (NS.call (jCheck_ok ⟨1, e.item, .zero, 0, 0⟩) rfl ?_)) | (refine Sat.go (Eq.refl _) (NS.call (nWithin_ok e.due 0 1099511627777) rfl ?_)) | (refine Sat.go (Eq.refl _) (NS.call (nWithin_ok e.ticket 0 1152921504606846976) rfl ?_)) | (exact Sat.go (Eq.refl _) (NS.ret rfl rfl (LeA.of (congrArg (A.int .i64) (by simp_all [evE, recErr_id', recErr_st']))))))
end Go.Proofs.YtggjngbighkdgaaGreat

namespace Go.Proofs.YtggjngbighkdgaaGreat
open Go.Sy Go.Mb
set_option maxRecDepth 100000
set_option maxHeartbeats 4000000
theorem mapOKG : MapTab Tryz.prog [(139, false, 1)] := by
 intro p hp
 simp only [List.mem_cons, List.not_mem_nil, or_false] at hp
 subst hp
 exact ⟨3, 1, by kernel_rfl, mapLaw_int (by kernel_rfl)⟩
noncomputable def EG : Env := { P := Tryz.prog, eqT := lookE eqTab, mps := lookMp [(139, false, 1)], mu := [110, 111, 112, 113, 114, 115, 116] }
theorem EG_ok : EqOK EG := eqOK_mp eqTab_ok mapOKG
noncomputable def CG : Cx := { E := EG, inl := [], ok := EG_ok }
def nodA (r : Nod × List Mb.Act × Int) : A := .tup [.agg r.1.cells, slAct r.2.1, .int .i64 r.2.2]
theorem evE_kind {e : Evt} (h : evE e = 0) : 1 ≤ e.kind ∧ e.kind ≤ 7 := by
 unfold evE at h
 split at h
 ·cases h
 ·rename_i q
  have q : inR e.kind 1 7 = true := by simpa using q
  exact inR_iff.1 q
theorem handle_ok (n : Nod) (e : Evt) (h1 : n.dur.items.length ≤ 200000) (h2 : n.dur.inbox.length ≤ 200000) (h3 : n.jour.size ≤ 100000) (h4 : n.ofs.length ≤ 1000) : FnOK Tryz.prog 74 [.agg n.cells, .agg e.cells] (nodA (goM n e), none) := by
 have hz : Sz (startW n) 0 := ⟨h1, h2, h3, h4, Nat.le_refl _⟩
 refine fn_ok CG rfl (by kernel_rfl) Tryz.func74 rfl ?_
 refine Sat.go (Eq.refl _) (NS.call (checkEvent_ok e) rfl ?_)
 refine Sat.go (Eq.refl _) (NS.ite (fun a1 => ?_) (fun a1 => ?_))
 ·rw [show goM n e = (zeroN, [], evE e) from if_pos a1]
  exact Sat.go (Eq.refl _) (NS.ret rfl rfl (LeA.tup3 (zeroN_le rfl) (LeA.nil' rfl) (LeA.refl _)))
 have hk := evE_kind (by simpa using a1)
 refine Sat.go (Eq.refl _) (NS.ite (fun a2 => ?_) (fun a2 => ?_))
 ·rw [show goM n e = (zeroN, [], 29) by unfold goM; rw [if_neg (by rw [a1]; decide), if_pos a2]]
  exact Sat.go (Eq.refl _) (NS.ret rfl rfl (LeA.tup3 (zeroN_le rfl) (LeA.nil' rfl) (LeA.refl _)))
 rw [show goM n e = if (kindW (startW n) e).err != 0 then _ else _ by unfold goM; rw [if_neg (by rw [a1]; decide), if_neg (by rw [a2]; decide)]]
 clear a1
 obtain ⟨kind, time, item, id, contact, due, acc, ticket⟩ := e
 simp only at hk
 have hk7 : kind = 1 ∨ kind = 2 ∨ kind = 3 ∨ kind = 4 ∨ kind = 5 ∨ kind = 6 ∨ kind = 7 := by omega
 rcases hk7 with rfl | rfl | rfl | rfl | rfl | rfl | rfl
 ·refine Sat.go (Eq.refl _) (NS.no (rfl) ?_)
  refine Sat.go (Eq.refl _) (NS.no (rfl) ?_)
  refine Sat.go (Eq.refl _) (NS.no (rfl) ?_)
  refine Sat.go (Eq.refl _) (NS.no (rfl) ?_)
  refine Sat.go (Eq.refl _) (NS.no (rfl) ?_)
  refine Sat.go (Eq.refl _) (NS.no (rfl) ?_)
  refine Sat.go (Eq.refl _) (NS.yes (rfl) ?_)
  rw [show kindW (startW n) ⟨1, time, item, id, contact, due, acc, ticket⟩ = putW (startW n) ⟨1, time, item, id, contact, due, acc, ticket⟩ from rfl]
  refine Sat.go (Eq.refl _) (NS.inn (P := Tryz.prog) (vals := [.ptr 23 0]) (objs1 := wH (startW n) ⟨1, time, item, id, contact, due, acc, ticket⟩) (WeakL.keep 32 [4, 23] (by kernel_rfl)) (by kernel_rfl) (LeL.refl _) (by kernel_rfl) (putW_ok (startW n) ⟨1, time, item, id, contact, due, acc, ticket⟩ rfl hz) rfl ?_)
  refine Sat.go (Eq.refl _) (NS.ite (fun b1 => ?_) (fun b1 => ?_))
  ·rw [if_pos b1]
   refine Sat.go (Eq.refl _) (NS.chk (by kernel_rfl) ?_)
   exact Sat.go (Eq.refl _) (NS.ret rfl rfl (LeA.tup3 (zeroN_le rfl) (LeA.nil' rfl) (LeA.refl _)))
  ·rw [if_neg (by rw [b1]; decide)]
   refine Sat.go (Eq.refl _) (NS.chk (by kernel_rfl) ?_)
   exact Sat.go (Eq.refl _) (NS.ret rfl rfl (LeA.refl _))
 ·refine Sat.go (Eq.refl _) (NS.no (rfl) ?_)
  refine Sat.go (Eq.refl _) (NS.no (rfl) ?_)
  refine Sat.go (Eq.refl _) (NS.no (rfl) ?_)
  refine Sat.go (Eq.refl _) (NS.no (rfl) ?_)
  refine Sat.go (Eq.refl _) (NS.no (rfl) ?_)
  refine Sat.go (Eq.refl _) (NS.yes (rfl) ?_)
  rw [show kindW (startW n) ⟨2, time, item, id, contact, due, acc, ticket⟩ = sendW (startW n) ⟨2, time, item, id, contact, due, acc, ticket⟩ from rfl]
  refine Sat.go (Eq.refl _) (NS.inn (P := Tryz.prog) (vals := [.ptr 23 0]) (objs1 := wH (startW n) ⟨2, time, item, id, contact, due, acc, ticket⟩) (WeakL.keep 32 [4, 23] (by kernel_rfl)) (by kernel_rfl) (LeL.refl _) (by kernel_rfl) (sendW_ok (startW n) ⟨2, time, item, id, contact, due, acc, ticket⟩ rfl hz) rfl ?_)
  refine Sat.go (Eq.refl _) (NS.ite (fun b1 => ?_) (fun b1 => ?_))
  ·rw [if_pos b1]
   refine Sat.go (Eq.refl _) (NS.chk (by kernel_rfl) ?_)
   exact Sat.go (Eq.refl _) (NS.ret rfl rfl (LeA.tup3 (zeroN_le rfl) (LeA.nil' rfl) (LeA.refl _)))
  ·rw [if_neg (by rw [b1]; decide)]
   refine Sat.go (Eq.refl _) (NS.chk (by kernel_rfl) ?_)
   exact Sat.go (Eq.refl _) (NS.ret rfl rfl (LeA.refl _))
 ·refine Sat.go (Eq.refl _) (NS.no (rfl) ?_)
  refine Sat.go (Eq.refl _) (NS.no (rfl) ?_)
  refine Sat.go (Eq.refl _) (NS.no (rfl) ?_)
  refine Sat.go (Eq.refl _) (NS.no (rfl) ?_)
  refine Sat.go (Eq.refl _) (NS.yes (rfl) ?_)
  rw [show kindW (startW n) ⟨3, time, item, id, contact, due, acc, ticket⟩ = signalW (startW n) ⟨3, time, item, id, contact, due, acc, ticket⟩ from rfl]
  refine Sat.go (Eq.refl _) (NS.inn (P := Tryz.prog) (vals := [.ptr 23 0]) (objs1 := wH (startW n) ⟨3, time, item, id, contact, due, acc, ticket⟩) (WeakL.keep 32 [4, 23] (by kernel_rfl)) (by kernel_rfl) (LeL.refl _) (by kernel_rfl) (signalW_ok (startW n) ⟨3, time, item, id, contact, due, acc, ticket⟩ rfl hz) rfl ?_)
  refine Sat.go (Eq.refl _) (NS.ite (fun b1 => ?_) (fun b1 => ?_))
  ·rw [if_pos b1]
   refine Sat.go (Eq.refl _) (NS.chk (by kernel_rfl) ?_)
   exact Sat.go (Eq.refl _) (NS.ret rfl rfl (LeA.tup3 (zeroN_le rfl) (LeA.nil' rfl) (LeA.refl _)))
  ·rw [if_neg (by rw [b1]; decide)]
   refine Sat.go (Eq.refl _) (NS.chk (by kernel_rfl) ?_)
   exact Sat.go (Eq.refl _) (NS.ret rfl rfl (LeA.refl _))
 ·refine Sat.go (Eq.refl _) (NS.no (rfl) ?_)
  refine Sat.go (Eq.refl _) (NS.no (rfl) ?_)
  refine Sat.go (Eq.refl _) (NS.no (rfl) ?_)
  refine Sat.go (Eq.refl _) (NS.yes (rfl) ?_)
  rw [show kindW (startW n) ⟨4, time, item, id, contact, due, acc, ticket⟩ = timerW (startW n) ⟨4, time, item, id, contact, due, acc, ticket⟩ from rfl]
  refine Sat.go (Eq.refl _) (NS.inn (P := Tryz.prog) (vals := [.ptr 23 0]) (objs1 := wH (startW n) ⟨4, time, item, id, contact, due, acc, ticket⟩) (WeakL.keep 32 [4, 23] (by kernel_rfl)) (by kernel_rfl) (LeL.refl _) (by kernel_rfl) (timerW_ok (startW n) ⟨4, time, item, id, contact, due, acc, ticket⟩ rfl hz) rfl ?_)
  refine Sat.go (Eq.refl _) (NS.ite (fun b1 => ?_) (fun b1 => ?_))
  ·rw [if_pos b1]
   refine Sat.go (Eq.refl _) (NS.chk (by kernel_rfl) ?_)
   exact Sat.go (Eq.refl _) (NS.ret rfl rfl (LeA.tup3 (zeroN_le rfl) (LeA.nil' rfl) (LeA.refl _)))
  ·rw [if_neg (by rw [b1]; decide)]
   refine Sat.go (Eq.refl _) (NS.chk (by kernel_rfl) ?_)
   exact Sat.go (Eq.refl _) (NS.ret rfl rfl (LeA.refl _))
 ·refine Sat.go (Eq.refl _) (NS.no (rfl) ?_)
  refine Sat.go (Eq.refl _) (NS.no (rfl) ?_)
  refine Sat.go (Eq.refl _) (NS.yes (rfl) ?_)
  rw [show kindW (startW n) ⟨5, time, item, id, contact, due, acc, ticket⟩ = expireW (startW n) ⟨5, time, item, id, contact, due, acc, ticket⟩ from rfl]
  refine Sat.go (Eq.refl _) (NS.inn (P := Tryz.prog) (vals := [.ptr 23 0]) (objs1 := wH (startW n) ⟨5, time, item, id, contact, due, acc, ticket⟩) (WeakL.keep 32 [4, 23] (by kernel_rfl)) (by kernel_rfl) (LeL.refl _) (by kernel_rfl) (expireW_ok (startW n) ⟨5, time, item, id, contact, due, acc, ticket⟩ rfl hz) rfl ?_)
  refine Sat.go (Eq.refl _) (NS.ite (fun b1 => ?_) (fun b1 => ?_))
  ·rw [if_pos b1]
   refine Sat.go (Eq.refl _) (NS.chk (by kernel_rfl) ?_)
   exact Sat.go (Eq.refl _) (NS.ret rfl rfl (LeA.tup3 (zeroN_le rfl) (LeA.nil' rfl) (LeA.refl _)))
  ·rw [if_neg (by rw [b1]; decide)]
   refine Sat.go (Eq.refl _) (NS.chk (by kernel_rfl) ?_)
   exact Sat.go (Eq.refl _) (NS.ret rfl rfl (LeA.refl _))
 ·refine Sat.go (Eq.refl _) (NS.no (rfl) ?_)
  refine Sat.go (Eq.refl _) (NS.yes (rfl) ?_)
  rw [show kindW (startW n) ⟨6, time, item, id, contact, due, acc, ticket⟩ = dropW (startW n) ⟨6, time, item, id, contact, due, acc, ticket⟩ from rfl]
  refine Sat.go (Eq.refl _) (NS.inn (P := Tryz.prog) (vals := [.ptr 23 0]) (objs1 := wH (startW n) ⟨6, time, item, id, contact, due, acc, ticket⟩) (WeakL.keep 32 [4, 23] (by kernel_rfl)) (by kernel_rfl) (LeL.refl _) (by kernel_rfl) (dropW_ok (startW n) ⟨6, time, item, id, contact, due, acc, ticket⟩ rfl hz) rfl ?_)
  refine Sat.go (Eq.refl _) (NS.ite (fun b1 => ?_) (fun b1 => ?_))
  ·rw [if_pos b1]
   refine Sat.go (Eq.refl _) (NS.chk (by kernel_rfl) ?_)
   exact Sat.go (Eq.refl _) (NS.ret rfl rfl (LeA.tup3 (zeroN_le rfl) (LeA.nil' rfl) (LeA.refl _)))
  ·rw [if_neg (by rw [b1]; decide)]
   refine Sat.go (Eq.refl _) (NS.chk (by kernel_rfl) ?_)
   exact Sat.go (Eq.refl _) (NS.ret rfl rfl (LeA.refl _))
 ·refine Sat.go (Eq.refl _) (NS.yes (rfl) ?_)
  rw [show kindW (startW n) ⟨7, time, item, id, contact, due, acc, ticket⟩ = ticketW (startW n) ⟨7, time, item, id, contact, due, acc, ticket⟩ from rfl]
  refine Sat.go (Eq.refl _) (NS.inn (P := Tryz.prog) (vals := [.ptr 23 0]) (objs1 := wH (startW n) ⟨7, time, item, id, contact, due, acc, ticket⟩) (WeakL.keep 32 [4, 23] (by kernel_rfl)) (by kernel_rfl) (LeL.refl _) (by kernel_rfl) (ticketW_ok (startW n) ⟨7, time, item, id, contact, due, acc, ticket⟩ rfl hz) rfl ?_)
  refine Sat.go (Eq.refl _) (NS.ite (fun b1 => ?_) (fun b1 => ?_))
  ·rw [if_pos b1]
   refine Sat.go (Eq.refl _) (NS.chk (by kernel_rfl) ?_)
   exact Sat.go (Eq.refl _) (NS.ret rfl rfl (LeA.tup3 (zeroN_le rfl) (LeA.nil' rfl) (LeA.refl _)))
  ·rw [if_neg (by rw [b1]; decide)]
   refine Sat.go (Eq.refl _) (NS.chk (by kernel_rfl) ?_)
   exact Sat.go (Eq.refl _) (NS.ret rfl rfl (LeA.refl _))
end Go.Proofs.YtggjngbighkdgaaGreat

namespace Go.Proofs.YtggjngbighkdgaaGreat
open Go.Sy Go.Mb
set_option maxRecDepth 100000
set_option maxHeartbeats 4000000
def Grw (n m : Nod) (i b o : Nat) : Prop := m.dur.items.length ≤ n.dur.items.length + i ∧ m.dur.inbox.length ≤ n.dur.inbox.length + b ∧ (m.jour.size ≤ 65536 ∨ m.jour = n.jour) ∧ m.ofs.length ≤ n.ofs.length + o
theorem Grw.refl (n : Nod) : Grw n n 0 0 0 := ⟨Nat.le_refl _, Nat.le_refl _, .inr rfl, Nat.le_refl _⟩
theorem Grw.trans {a b c : Nod} {i j k i' j' k' : Nat} (h : Grw a b i j k) (h' : Grw b c i' j' k') : Grw a c (i + i') (j + j') (k + k') := by
 obtain ⟨h1, h2, h3, h4⟩ := h
 obtain ⟨g1, g2, g3, g4⟩ := h'
 refine ⟨by omega, by omega, ?_, by omega⟩
 rcases g3 with g3 | g3
 ·exact .inl g3
 ·rcases h3 with h3 | h3
  ·exact .inl (by rw [g3]; exact h3)
  ·exact .inr (g3.trans h3)
theorem Grw.le {a b : Nod} {i j k i' j' k' : Nat} (h : Grw a b i j k) (h1 : i ≤ i') (h2 : j ≤ j') (h3 : k ≤ k') : Grw a b i' j' k' := by
 obtain ⟨g1, g2, g3, g4⟩ := h
 exact ⟨by omega, by omega, g3, by omega⟩
theorem grw_wr (n : Nod) (r : Jrec) : Grw n (wr n r).1 (if r.kind = 1 then 1 else 0) (if r.kind = 3 then 1 else 0) 0 := by
 obtain ⟨h1, h2, h3, h4⟩ := wr_sz n r
 exact ⟨h1, h2, h3, by rw [h4]; exact Nat.le_refl _⟩
theorem grw_remove (w : Wst) (t : Int) (x : Itm) : Grw w.n (w.remove t x).n 0 0 0 := by
 have h : Grw w.n (wr w.n ⟨2, .zero, x.id, 0, t⟩).1 0 0 0 := grw_wr w.n ⟨2, .zero, x.id, 0, t⟩
 exact ⟨h.1, h.2.1, h.2.2.1, Nat.le_trans (List.length_filter_le _ _) h.2.2.2⟩
theorem grw_settle (w : Wst) (t : Int) (id : Nid) (s a : Bool) : Grw w.n (w.settle t id s a).n 0 0 0 := by
 unfold Wst.settle
 split
 ·exact .refl _
 ·split
  ·exact .refl _
  ·exact grw_remove _ _ _
theorem grw_tm (l : List Ofr) (t : Int) (w : Wst) : ∀ k, Grw w.n (tmN l t w k).n 0 0 0
 | 0 => .refl _
 | k + 1 => by
  unfold tmN
  split
  ·exact (grw_tm l t w k).trans (grw_settle _ _ _ _ _)
  ·exact grw_tm l t w k
theorem grw_ex (l : List Jrec) (t : Int) (w : Wst) : ∀ k, Grw w.n (exN l t w k).n 0 0 0
 | 0 => .refl _
 | k + 1 => by
  unfold exN
  split
  ·exact (grw_ex l t w k).trans (grw_remove _ _ _)
  ·exact grw_ex l t w k
theorem grw_write (w : Wst) (l : List Jrec) : Grw w.n (w.write l).n 1 1 0 := by
 cases l with
 | nil => exact (Grw.refl _).le (by omega) (by omega) (by omega)
 | cons r l => exact (grw_wr w.n r).le (by split <;> omega) (by split <;> omega) (by omega)
theorem filt_two {α : Type} (p : α → Bool) (l : List α) : (l.filter p).length + (l.filter (nt p)).length = l.length := by
 induction l with
 | nil => rfl
 | cons x l ih =>
  rw [List.filter_cons, List.filter_cons]
  cases h : p x
  ·rw [if_neg (by decide), if_pos (by unfold nt; rw [h]; rfl)]
   simp only [List.length_cons]; omega
  ·rw [if_pos rfl, if_neg (by unfold nt; rw [h]; decide)]
   simp only [List.length_cons]; omega
theorem beginM_len (l : List Ofr) (x : Nid) (c d : Int) : (beginM l x c d).1.length ≤ l.length + 1 := by
 unfold beginM
 simp only
 repeat' split
 all_goals try (simp; done)
 have h := filt_two (fun p => ltO p ⟨x, c, d, ((l.filter (ofId x)).length : Int)⟩) l
 simp only [List.length_append, List.length_singleton]
 omega
theorem grw_kind (w : Wst) (e : Evt) : Grw w.n (kindW w e).n 1 1 1 := by
 unfold kindW
 split
 ·unfold putW
  split
  ·exact (Grw.refl _).le (by omega) (by omega) (by omega)
  ·exact (grw_write w _).le (by omega) (by omega) (by omega)
 split
 ·unfold sendW
  split
  ·exact (Grw.refl _).le (by omega) (by omega) (by omega)
  ·split
   ·exact ⟨Nat.le_add_right _ _, Nat.le_add_right _ _, .inr rfl, beginM_len _ _ _ _⟩
   ·split
    ·exact (Grw.refl _).le (by omega) (by omega) (by omega)
    ·exact (Grw.refl _).le (by omega) (by omega) (by omega)
 split
 ·unfold signalW
  split
  ·exact (Grw.refl _).le (by omega) (by omega) (by omega)
  ·have h : Grw w.n (w.setO (signalM w.n.ofs e.id e.contact).1).n 0 0 0 := ⟨Nat.le_refl _, Nat.le_refl _, .inr rfl, signalM_len _ _ _⟩
   exact (h.trans (grw_settle _ _ _ _ _)).le (by omega) (by omega) (by omega)
 split
 ·have h : Grw w.n (w.setO (dueM w.n.ofs e.time).2.1).n 0 0 0 := ⟨Nat.le_refl _, Nat.le_refl _, .inr rfl, (dueM_len _ _).2⟩
  exact (h.trans (grw_tm _ _ _ _)).le (by omega) (by omega) (by omega)
 split
 ·unfold expireW
  split
  ·exact (Grw.refl _).le (by omega) (by omega) (by omega)
  ·exact (grw_ex _ _ _ _).le (by omega) (by omega) (by omega)
 split
 ·unfold dropW
  split
  ·exact (grw_remove _ _ _).le (by omega) (by omega) (by omega)
  ·exact (Grw.refl _).le (by omega) (by omega) (by omega)
 ·unfold ticketW
  split
  ·exact (grw_write _ _).le (by omega) (by omega) (by omega)
  ·exact (Grw.refl _).le (by omega) (by omega) (by omega)
theorem acts_kind (w : Wst) (e : Evt) (hz : Sz w 0) : (kindW w e).acts.length ≤ 200000 := by
 have h0 : w.acts.length = 0 := by have := hz.2.2.2.2; omega
 have hw : ∀ l, (w.write l).acts = w.acts := fun l => by cases l <;> rfl
 unfold kindW
 split
 ·unfold putW
  split
  ·show w.acts.length ≤ _; omega
  ·show ((w.write _).acts ++ [_]).length ≤ _; rw [hw]; simp; omega
 split
 ·unfold sendW
  split
  ·omega
  ·split
   ·show (w.acts ++ [_]).length ≤ _; simp; omega
   ·split
    ·omega
    ·show w.acts.length ≤ _; omega
 split
 ·unfold signalW
  split
  ·omega
  ·have h : Sz (w.setO (signalM w.n.ofs e.id e.contact).1) 0 := ⟨hz.1, hz.2.1, hz.2.2.1, Nat.le_trans (signalM_len _ _ _) hz.2.2.2.1, hz.2.2.2.2⟩
   have := (h.settle e.time e.id true e.acc).2.2.2.2
   omega
 split
 ·have h : Sz (w.setO (dueM w.n.ofs e.time).2.1) 0 := ⟨hz.1, hz.2.1, hz.2.2.1, Nat.le_trans (dueM_len _ _).2 hz.2.2.2.1, hz.2.2.2.2⟩
  have := (h.tmN (dueM w.n.ofs e.time).1 e.time (dueM w.n.ofs e.time).1.length).2.2.2.2
  have h2 := (dueM_len w.n.ofs e.time).1
  have h3 := hz.2.2.2.1
  show (tmN _ _ _ _).acts.length ≤ _
  omega
 split
 ·unfold expireW
  split
  ·show w.acts.length ≤ _; omega
  ·have := (hz.exN (expireM w.n.dur e.time).1 e.time (expireM w.n.dur e.time).1.length).2.2.2.2
   have h2 := expireM_len w.n.dur e.time
   have h3 := hz.1
   omega
 split
 ·unfold dropW
  split
  ·have := (hz.remove e.time (findM w.n.dur e.id).1).2.2.2.2
   omega
  ·omega
 ·unfold ticketW
  split
  ·rw [hw]; omega
  ·omega
def Szn (n : Nod) (k : Nat) : Prop := n.dur.items.length ≤ 100000 + k ∧ n.dur.inbox.length ≤ 100000 + k ∧ n.jour.size ≤ 100000 ∧ n.ofs.length ≤ 500 + k
theorem Szn.le {n : Nod} {a b : Nat} (h : Szn n a) (hab : a ≤ b) : Szn n b := ⟨by have := h.1; omega, by have := h.2.1; omega, h.2.2.1, by have := h.2.2.2; omega⟩
theorem szn_zero (k : Nat) : Szn zeroN k := ⟨Nat.zero_le _, Nat.zero_le _, by decide, Nat.zero_le _⟩
theorem Szn.go {n : Nod} {k : Nat} (h : Szn n k) (hk : k ≤ 400) (e : Evt) : Szn (goM n e).1 (k + 1) ∧ (goM n e).2.1.length ≤ 200000 := by
 obtain ⟨h1, h2, h3, h4⟩ := h
 have hz : Sz (startW n) 0 := ⟨show n.dur.items.length ≤ _ by omega, show n.dur.inbox.length ≤ _ by omega, h3, show n.ofs.length ≤ _ by omega, Nat.le_refl _⟩
 unfold goM
 split
 ·exact ⟨szn_zero _, Nat.zero_le _⟩
 split
 ·exact ⟨szn_zero _, Nat.zero_le _⟩
 split
 ·exact ⟨szn_zero _, Nat.zero_le _⟩
 ·obtain ⟨g1, g2, g3, g4⟩ := grw_kind (startW n) e
  have g1 : (kindW (startW n) e).n.dur.items.length ≤ n.dur.items.length + 1 := g1
  have g2 : (kindW (startW n) e).n.dur.inbox.length ≤ n.dur.inbox.length + 1 := g2
  have g4 : (kindW (startW n) e).n.ofs.length ≤ n.ofs.length + 1 := g4
  have g3 : (kindW (startW n) e).n.jour.size ≤ 65536 ∨ (kindW (startW n) e).n.jour = n.jour := g3
  refine ⟨⟨?_, ?_, ?_, ?_⟩, acts_kind _ _ hz⟩
  ·show (kindW (startW n) e).n.dur.items.length ≤ _; omega
  ·show (kindW (startW n) e).n.dur.inbox.length ≤ _; omega
  ·show (kindW (startW n) e).n.jour.size ≤ _
   rcases g3 with g3 | g3
   ·omega
   ·rw [g3]; exact h3
  ·show (kindW (startW n) e).n.ofs.length ≤ _; omega
def playG : Nod → List Mb.Act → List Evt → Int → Nod × List Mb.Act × Int × Int
 | n, out, [], i => (n, out, i, 0)
 | n, out, e :: l, i => if (goM n e).2.2 != 0 then (zeroN, [], i, (goM n e).2.2) else playG (goM n e).1 (out ++ (goM n e).2.1) l (i + 1)
def playM (n : Nod) (l : List Evt) : Nod × List Mb.Act × Int × Int := if chkN n != 0 then (zeroN, [], 0, 1) else playG n [] l 0
def handM (n : Nod) (e : Evt) : Nod × List Mb.Act × Int := if chkN n != 0 then (zeroN, [], 1) else goM n e
def playA (r : Nod × List Mb.Act × Int × Int) : A := .tup [.agg r.1.cells, slAct r.2.1, .int .i64 r.2.2.1, .int .i64 r.2.2.2]
theorem nHandle_ok (n : Nod) (e : Evt) (h : Szn n 100) : FnOK Tryz.prog 27 [.agg n.cells, .agg e.cells] (nodA (handM n e), none) := by
 obtain ⟨h1, h2, h3, h4⟩ := h
 unfold handM
 refine fn_ok CF rfl (by kernel_rfl) Tryz.func27 rfl ?_
 refine Sat.go (Eq.refl _) (NS.call (nCheck_ok n (by omega) (by omega) (by omega)) rfl ?_)
 refine Sat.go (Eq.refl _) (NS.ite (fun a1 => ?_) (fun a1 => ?_))
 ·rw [if_pos a1]
  exact Sat.go (Eq.refl _) (NS.ret rfl rfl (LeA.tup3 (zeroN_le rfl) (LeA.nil' rfl) (LeA.refl _)))
 rw [if_neg (by rw [a1]; decide)]
 refine Sat.go (Eq.refl _) (NS.call (handle_ok n e (by omega) (by omega) (by omega) (by omega)) rfl ?_)
 exact Sat.go (Eq.refl _) (NS.ret rfl rfl (LeA.refl _))
end Go.Proofs.YtggjngbighkdgaaGreat

