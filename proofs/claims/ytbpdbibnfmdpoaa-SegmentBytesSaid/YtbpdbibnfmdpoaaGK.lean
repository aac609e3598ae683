/- The contract of Batch. -/
import Derived.Test.YtbpdbibnfmdpoaaGJ
set_option linter.unusedSimpArgs false
set_option linter.unusedSectionVars false
set_option linter.unusedVariables false
namespace Go.Proofs.Ytbpdbibnfmdpoaa
open Go.Sy Go.Mb
set_option maxRecDepth 100000
set_option linter.unusedVariables false
set_option maxHeartbeats 4000000

noncomputable def CP : Cx := { E := EN, inl := [80], ok := EN_ok }
theorem bat_le {a b : Int} {d : ByteArray} {m : List Spn} {L : List Seg} {e : Int} {x : A} (h : batM a b d m = (L, e)) (hx : LeA x (slB L)) : LeA (.tup [x, .int .i64 e]) (.tup [slB (batM a b d m).1, .int .i64 (batM a b d m).2]) := by rw [h]; exact LeA.tup2 hx (LeA.refl _)
theorem bat_bad {a b : Int} {d : ByteArray} {m : List Spn} {e : Int} (h : batE a b d m = e) (he : (e == 0) = false) : batM a b d m = ([], e) := by
  unfold batM; rw [h, he]; rfl
theorem bat_ok {a b : Int} {d : ByteArray} {m : List Spn} (h : batE a b d m = 0) : batM a b d m = (batL a b d m, 0) := by
  unfold batM; rw [h]; rfl
theorem batE1 {a b : Int} {d : ByteArray} {m : List Spn} (h : inR a 0 tMax = false ∨ inR b 1 tMax = false) : batE a b d m = 2 := by
  unfold batE; rw [if_pos]; rcases h with h | h <;> simp [h]
theorem batE2 {a b : Int} {d : ByteArray} {m : List Spn} (h1 : inR a 0 tMax = true) (h2 : inR b 1 tMax = true) : batE a b d m = if d.size == 0 then 20 else if decide ((d.size : Int) > 65536) then 4 else if !insideM m d.size then 1 else if m.length == 0 then 20 else 0 := by
  unfold batE; rw [if_neg (by simp [h1, h2])]
def cutI (x hi : Int) : Int := if IntKind.i64.wrap (IntKind.i64.wrap (IntKind.i64.wrap (x.tdiv 16) + 1) * 16) < hi then IntKind.i64.wrap (IntKind.i64.wrap (IntKind.i64.wrap (x.tdiv 16) + 1) * 16) else hi
theorem cutI_eq {x hi : Nat} (hx : x < hi) (hh : hi ≤ 65536) : cutI x hi = (cutE x hi : Nat) := by
  have eq1 : (x : Int).tdiv 16 = ((x / 16 : Nat) : Int) := (Int.ofNat_tdiv x 16).symm
  unfold cutI
  rw [eq1, wrap_i64 (n := ((x / 16 : Nat) : Int)) (by omega) (by omega), wrap_i64 (n := ((x / 16 : Nat) : Int) + 1) (by omega) (by omega), wrap_i64 (by omega) (by omega)]
  unfold cutE
  split <;> omega
theorem mapP_snoc (a : Int) (d : ByteArray) (l : List Spn) (x : Spn) : mapP a d (l ++ [x]) = mapP a d l ++ [segP a d x] := by simp [mapP]
theorem pcsL_pos {m : List Spn} (hin : ∀ x ∈ m, 0 ≤ x.lo ∧ x.lo < x.hi) (h : 0 < m.length) : 0 < (pcsL m).length := by
  cases m with
  | nil => simp at h
  | cons x m =>
    have := hin x List.mem_cons_self
    have h2 : pcsL (x :: m) = pcsS x ++ pcsL m := by simp [pcsL]
    rw [h2, List.length_append]
    unfold pcsS
    rw [pcs_go (by omega)]
    simp; omega
/-- The last one is marked. -/
theorem row_last (L : List Seg) (b : Int) (n : Nat) (hn : n + 1 = L.length) (q j : Nat) (hj : j < 8) : (if q = n ∧ 5 ≤ j ∧ j < 5 + 1 then getA [A.kb true] (j - 5) else if q = n ∧ 2 ≤ j ∧ j < 2 + 1 then getA [A.int .i64 b] (j - 2) else rowL Seg.cellsB L q j) = (if q = n ∧ j = 5 then A.kb true else rowL Seg.cellsB (L.set n (lastP b (L.getD n default))) q j) := by
  unfold rowL
  rw [getD_setG _ _ _ _ (by omega)]
  by_cases h : q = n
  · subst h
    rw [if_pos (rfl : q = q)]
    match j, hj with
    | 0, _ => simp [getA, Seg.cellsB, lastP]
    | 1, _ => simp [getA, Seg.cellsB, lastP]
    | 2, _ => simp [getA, Seg.cellsB, lastP]
    | 3, _ => simp [getA, Seg.cellsB, lastP]
    | 4, _ => simp [getA, Seg.cellsB, lastP]
    | 5, _ => simp [getA, Seg.cellsB, lastP]
    | 6, _ => simp [getA, Seg.cellsB, lastP]
    | 7, _ => simp [getA, Seg.cellsB, lastP]
  · rw [if_neg (fun e => h e.1), if_neg (fun e => h e.1), if_neg (fun e => h e.1), if_neg h]
theorem batch_ok (a b : Int) (d : ByteArray) (m : List Spn) : FnOK Try.prog 21 [.int .i64 a, .int .i64 b, .str d, slS m] (.tup [slB (batM a b d m).1, .int .i64 (batM a b d m).2], none) := by
  refine fn_ok CP rfl (by kernel_rfl) Try.func21 rfl ?_
  refine Sat.go (Eq.refl _) (NS.call (gWithin_ok a 0 tMax) rfl ?_)
  refine Sat.go (Eq.refl _) (NS.ite (fun a1 => ?_) (fun a1 => ?_))
  · exact Sat.go (Eq.refl _) (NS.ret rfl rfl (bat_le (bat_bad (batE1 (.inl (not_t a1))) rfl) (LeA.nil' rfl)))
  have a1 : inR a 0 tMax = true := not_f a1
  refine Sat.go (Eq.refl _) (NS.call (gWithin_ok b 1 tMax) rfl ?_)
  refine Sat.go (Eq.refl _) (NS.ite (fun a2 => ?_) (fun a2 => ?_))
  · exact Sat.go (Eq.refl _) (NS.ret rfl rfl (bat_le (bat_bad (batE1 (.inr (not_t a2))) rfl) (LeA.nil' rfl)))
  have a2 : inR b 1 tMax = true := not_f a2
  have he := batE2 (d := d) (m := m) a1 a2
  refine Sat.go (Eq.refl _) (NS.ite (fun a3 => ?_) (fun a3 => ?_))
  · have a3 : (d.size == 0) = true := by rw [← size0]; exact a3
    rw [if_pos a3] at he
    exact Sat.go (Eq.refl _) (NS.ret rfl rfl (bat_le (bat_bad he rfl) (LeA.nil' rfl)))
  have a3 : (d.size == 0) = false := by rw [← size0]; exact a3
  rw [if_neg (by rw [a3]; simp)] at he
  refine Sat.go (Eq.refl _) (NS.ite (fun a4 => ?_) (fun a4 => ?_))
  · rw [if_pos a4] at he
    exact Sat.go (Eq.refl _) (NS.ret rfl rfl (bat_le (bat_bad he rfl) (LeA.nil' rfl)))
  have a4 : ¬ (d.size : Int) > 65536 := of_decide_eq_false a4
  rw [if_neg (by rw [decide_eq_true_eq]; exact a4)] at he
  refine Sat.go (Eq.refl _) (NS.call (inside_ok m d.size) rfl ?_)
  refine Sat.go (Eq.refl _) (NS.ite (fun a5 => ?_) (fun a5 => ?_))
  · rw [if_pos a5] at he
    exact Sat.go (Eq.refl _) (NS.ret rfl rfl (bat_le (bat_bad he rfl) (LeA.nil' rfl)))
  rw [if_neg (by rw [a5]; simp)] at he
  have a5 := not_f a5
  refine Sat.go (Eq.refl _) (NS.ite (fun a6 => ?_) (fun a6 => ?_))
  · rw [if_pos (by rw [← natbeq]; exact a6)] at he
    exact Sat.go (Eq.refl _) (NS.ret rfl rfl (bat_le (bat_bad he rfl) (LeA.nil' rfl)))
  rw [if_neg (by rw [← natbeq, a6]; simp)] at he
  have a6 := len1 a6
  obtain ⟨hin, hml⟩ := inside_all a5
  refine Sat.go (Eq.refl _) (NS.call (pieces_ok m) rfl ?_)
  have hpl : ∀ k, (pcsL (m.take k)).length ≤ 1000 * 65536 := by
    intro k
    have h1 := pcsL_len (t := 65536) (m.take k) fun x hx => by have := (hin x (List.mem_of_mem_take hx)).2.2; omega
    have h2 : (m.take k).length * 65536 ≤ 1000 * 65536 := Nat.mul_le_mul_right _ (by rw [List.length_take]; omega)
    exact Nat.le_trans h1 h2
  refine Sat.go (Eq.refl _) ?_
  refine NS.loop (σ := { k : Nat // k ≤ m.length }) (fun k => [(0, .yld 70), (1, .ip 1 (getA [slS m])), (7, slS m), (8, .int .i64 m.length), (9, .int .i64 k.1)]) (fun k => [(10, .box [.own 71]), (71, .row 24 8 (pcsL (m.take k.1)).length (rowL Seg.cellsB (mapP a d (pcsL (m.take k.1)))))]) (fun k => m.length - k.1) ⟨0, Nat.zero_le _⟩ ?_ ?_
  · refine (weak_promoteB 10 0 71 24 8 (rowL Seg.cellsB []) rfl rfl rfl).trans ?_
    exact weak_hd [] rfl ⟨rfl, rfl, rfl, rfl, rfl, trivial⟩ ⟨⟨_, rfl, _, _, rfl, rfl, rfl⟩, ren_row rfl rfl fun _ _ _ _ => rfl, trivial⟩ (by repeat' (first | exact trivial | refine ⟨.inr rfl, ?_⟩ | refine ⟨.inl rfl, ?_⟩)) (by kernel_rfl)
  rintro ⟨k, hk⟩
  refine Sat.go (Eq.refl _) (NS.ite (fun h => ?_) (fun h => ?_))
  · have h : k < m.length := by have h : (k : Int) < m.length := of_decide_eq_true h
                                omega
    refine Sat.go (Eq.refl _) (NS.need (by exact decide_eq_true ⟨Int.natCast_nonneg _, by show (k : Int) < m.length; omega⟩) ?_)
    obtain ⟨x1, x2, x3⟩ := hin _ (show m.getD k default ∈ m by rw [getD_lt h]; exact List.getElem_mem _)
    have hsn := pcsL_snoc m k h
    have hpk := hpl (k + 1)
    obtain ⟨lo, hlo⟩ := Int.eq_ofNat_of_zero_le x1
    obtain ⟨hi, hhi⟩ := Int.eq_ofNat_of_zero_le (show 0 ≤ (m.getD k default).hi by omega)
    have eS : pcsS (m.getD k default) = pcs lo hi := by unfold pcsS; rw [hlo, hhi]; rfl
    rw [eS] at hsn
    refine Sat.go (Eq.refl _) ?_
    refine NS.loop (σ := { x : Nat × List Spn // pcs lo hi = x.2 ++ pcs x.1 hi ∧ lo ≤ x.1 ∧ x.1 ≤ hi }) (fun x => [(0, .yld 70), (1, .ip 1 (getA [slS m])), (4, .ptr 75 0), (5, .int .i64 x.1.1), (7, slS m), (8, .int .i64 m.length), (9, .int .i64 k)]) (fun x => [(10, .box [.own 71]), (71, .row 24 8 (pcsL (m.take k) ++ x.1.2).length (rowL Seg.cellsB (mapP a d (pcsL (m.take k) ++ x.1.2)))), (75, .box [.int .i64 lo, .int .i64 hi])]) (fun x => hi - x.1.1) ⟨(lo, []), by simp, Nat.le_refl _, by show lo ≤ hi; omega⟩ ?_ ?_
    · exact weak_hd [] rfl ⟨rfl, rfl, rfl, ren_int rfl hlo, rfl, rfl, rfl, trivial⟩ ⟨⟨_, rfl, _, _, rfl, rfl, rfl⟩, ren_row rfl (by simp) fun i hi j hj => (by simp), ⟨_, rfl, _, _, rfl, ren_int rfl hlo, _, _, rfl, ren_int rfl hhi, rfl⟩, trivial⟩ (by repeat' (first | exact trivial | refine ⟨.inr rfl, ?_⟩ | refine ⟨.inl rfl, ?_⟩)) (by kernel_rfl)
    rintro ⟨⟨x, D⟩, hD, hx1, hx2⟩
    have hD : pcs lo hi = D ++ pcs x hi := hD
    have hx2 : x ≤ hi := hx2
    refine Sat.go (Eq.refl _) (NS.ite (fun g => ?_) (fun g => ?_))
    · have g : x < hi := by have g : (x : Int) < hi := of_decide_eq_true g
                            omega
      have hgo := pcs_go g
      have hcg := cut_gt g
      have hcl := cut_le (x := x) (hi := hi)
      have ec := cutI_eq g (by omega)
      refine Sat.go (Eq.refl _) (NS.need (rfl) ?_)
      refine Sat.go (Eq.refl _) (NS.chk (by kernel_rfl) ?_)
      refine Sat.go (Eq.refl _) (NS.need (by exact decide_eq_true (by show 0 ≤ (x : Int) ∧ (x : Int) ≤ cutI x hi ∧ cutI x hi ≤ d.size; rw [ec]; omega)) ?_)
      refine Sat.go (Eq.refl _) (NS.need (decide_eq_true (by show ((pcsL (m.take k) ++ D).length + 1) * _ ≤ _; rw [hsn, hD, hgo] at hpk; simp only [maxRow, List.length_append, List.length_cons] at hpk ⊢; omega)) ?_)
      refine Sat.go (Eq.refl _) (NS.next ⟨(cutE x hi, D ++ [⟨(x : Int), (cutE x hi : Nat)⟩]), by show pcs lo hi = _; rw [hD, hgo]; simp, by show lo ≤ cutE x hi; have hx1 : lo ≤ x := hx1; omega, hcl⟩ (by show hi - cutE x hi < hi - x; omega) ?_)
      refine weak_hd [(71, 161)] rfl ⟨rfl, rfl, rfl, ren_int rfl ec, rfl, rfl, rfl, trivial⟩ ⟨⟨_, rfl, _, _, rfl, rfl, rfl⟩, ?_, ⟨_, rfl, _, _, rfl, rfl, _, _, rfl, rfl, rfl⟩, trivial⟩ (by repeat' (first | exact trivial | refine ⟨.inr rfl, ?_⟩ | refine ⟨.inl rfl, ?_⟩)) (by kernel_rfl)
      refine ren_row rfl (by simp; omega) ?_
      have hr := row_snoc (cells := Seg.cellsB) (l := mapP a d (pcsL (m.take k) ++ D)) (x := segP a d ⟨(x : Int), (cutE x hi : Nat)⟩) (c := 8) (cs := [.int .i64 1, .int .i64 a, .int .i64 0, .int .i64 x, .int .i64 d.size, .bool false, .str (d.extract (Int.toNat (x : Int)) (Int.toNat (cutI x hi))), .nils]) (by rw [ec]; rfl)
      rw [← mapP_snoc, mapP_len, List.append_assoc] at hr
      intro i hi' j hj'
      exact hr i (by simpa [Nat.add_assoc] using hi') j hj'
    have g : ¬ x < hi := by have g : ¬ (x : Int) < hi := of_decide_eq_false g
                            omega
    rw [pcs_end g, List.append_nil] at hD
    have hE : pcsL (m.take k) ++ D = pcsL (m.take (k + 1)) := by rw [hsn, hD]
    refine Sat.go (Eq.refl _) (NS.leave rfl (Eq.refl _) ?_)
    refine Sat.go (Eq.refl _) (NS.next ⟨k + 1, by omega⟩ (by simp; omega) ?_)
    refine weak_hd [] rfl ⟨rfl, rfl, rfl, rfl, ren_int rfl (i64_k (k := k) (n := m.length) (by omega) (by omega)), trivial⟩ ⟨⟨_, rfl, _, _, rfl, rfl, rfl⟩, ren_row rfl (by show (pcsL (m.take k) ++ D).length = _; rw [hE]) fun i hi j hj => ?_, trivial⟩ (by repeat' (first | exact trivial | refine ⟨.inr rfl, ?_⟩ | refine ⟨.inl rfl, ?_⟩)) (by kernel_rfl)
    show rowL Seg.cellsB (mapP a d (pcsL (m.take k) ++ D)) i j = _
    rw [hE]
  have h : ¬ k < m.length := by have h : ¬ (k : Int) < m.length := of_decide_eq_false h
                                omega
  have hk : k ≤ m.length := hk
  obtain rfl : k = m.length := by omega
  have hpos := pcsL_pos (fun x hx => ⟨(hin x hx).1, (hin x hx).2.1⟩) a6
  have hpm := hpl m.length
  rw [List.take_length] at hpm
  have e3 : m.take m.length = m := List.take_length
  have en : IntKind.i64.wrap (((pcsL (m.take m.length)).length : Int) - 1) = (((pcsL m).length - 1 : Nat) : Int) := by rw [List.take_length, wrap_i64 (by omega) (by omega)]; omega
  refine Sat.go (Eq.refl _) (NS.leave rfl (Eq.refl _) ?_)
  refine Sat.go (Eq.refl _) (NS.need (by exact decide_eq_true (by show 0 ≤ IntKind.i64.wrap (((pcsL (m.take m.length)).length : Int) - 1) ∧ IntKind.i64.wrap (((pcsL (m.take m.length)).length : Int) - 1) < (pcsL (m.take m.length)).length; rw [en, e3]; omega)) ?_)
  refine Sat.go (Eq.refl _) (NS.need (by exact decide_eq_true (by show Int.toNat (IntKind.i64.wrap (((pcsL (m.take m.length)).length : Int) - 1)) < (pcsL (m.take m.length)).length; rw [en, e3]; omega)) ?_)
  refine Sat.go (Eq.refl _) (NS.need (by exact decide_eq_true (by show Int.toNat (IntKind.i64.wrap (((pcsL (m.take m.length)).length : Int) - 1)) < (pcsL (m.take m.length)).length; rw [en, e3]; omega)) ?_)
  refine Sat.go (Eq.refl _) (NS.ret rfl rfl (bat_le (bat_ok he) (LeA.slLe (by rw [e3]; exact (batL_len a b d m).symm) fun q hq j hj => ?_)))
  have hr := row_last (mapP a d (pcsL m)) b ((pcsL m).length - 1) (by rw [mapP_len]; omega) q j hj
  show LeA (if q = Int.toNat (IntKind.i64.wrap (((pcsL (m.take m.length)).length : Int) - 1)) ∧ 5 ≤ j ∧ j < 5 + 1 then getA [A.kb true] (j - 5) else if q = Int.toNat (IntKind.i64.wrap (((pcsL (m.take m.length)).length : Int) - 1)) ∧ 2 ≤ j ∧ j < 2 + 1 then getA [A.int .i64 b] (j - 2) else rowL Seg.cellsB (mapP a d (pcsL (m.take m.length))) q j) _
  rw [en, e3]
  rw [show Int.toNat (((pcsL m).length - 1 : Nat) : Int) = (pcsL m).length - 1 from rfl, hr]
  by_cases hqj : q = (pcsL m).length - 1 ∧ j = 5
  · rw [if_pos hqj]
    obtain ⟨h1, h2⟩ := hqj
    subst h2
    have : rowL Seg.cellsB (batL a b d m) q 5 = A.bool true := by
      unfold rowL batL
      rw [getD_setG _ _ _ _ (by rw [mapP_len]; omega), if_pos h1]
      rfl
    rw [this]
    exact LeA.kb true
  · rw [if_neg hqj]
    exact LeA.refl _
end Go.Proofs.Ytbpdbibnfmdpoaa
