/- The contracts of window, Accept and Join. -/
import Derived.Test.YtphegncldncaiaaPC
set_option linter.unusedSimpArgs false
set_option linter.unusedSectionVars false
set_option linter.unusedVariables false
namespace Go.Proofs.Ytphegncldncaiaa
open Go.Sy Go.Mb
set_option maxRecDepth 100000
set_option linter.unusedVariables false
set_option maxHeartbeats 1000000

noncomputable def EW : Env := { P := Try.prog, eqT := lookE [], mu := [49] }
theorem EW_ok : EqOK EW := EN_ok
noncomputable def CW : Cx := { E := EW, inl := [51], ok := EW_ok }
theorem ts_b {l : List Int} {s : Int} (hs : 1 ≤ s ∧ s ≤ 64) (hl : ∀ x ∈ l, 0 ≤ x ∧ x ≤ 1152921504606846976) (h : l ≠ []) : IntKind.i64.wrap (lastN (srt l) - s) = lastN (srt l) - s := by
  have := hl _ (srt_last_mem h)
  exact wrap_i64 (by omega) (by omega)
theorem window0_ok (s : Int) : FnOK Try.prog 31 [.int .i64 s, slN []] (.agg [.int .i64 s, .int .i64 (-1), .nils], none) := by
  refine fn_ok CW rfl (by kernel_rfl) Try.func31 rfl ?_
  refine Sat.go (Eq.refl _) (NS.yes (rfl) ?_)
  exact Sat.go (Eq.refl _) (NS.ret rfl rfl (LeA.refl _))
theorem window_ok (s : Int) (l : List Int) (hs : 1 ≤ s ∧ s ≤ 64) (hv : ∀ x ∈ l, 0 ≤ x ∧ x ≤ 1152921504606846976) (hne : l ≠ []) (hl : l.length ≤ 1000000) : FnOK Try.prog 31 [.int .i64 s, slN l] (.agg [.int .i64 s, .int .i64 (winM s l).top, .own 0], some (.row 3 1 (winM s l).seen.length (rowL nC (winM s l).seen))) := by
  have h0 : l.length ≠ 0 := fun e => hne (List.eq_nil_of_length_eq_zero e)
  have ets := ts_b hs hv hne
  rw [winM_cons hne]
  have c3 := sortI_mu Try.ly189 (by kernel_rfl) l 3 (by omega)
  have hd := srt_len l
  generalize srt l = d at *
  have ck : ∀ L : List Int, L.length ≤ 1000000 → FnOK Try.prog 50 [slN L, keepF s (lastN d)] _ := fun L hL => kept_ok L s (lastN d) hL ets
  have e1 : IntKind.i64.wrap ((l.length : Int) - 1) = ((d.length - 1 : Nat) : Int) := by rw [hd, wrap_i64 (by omega) (by omega)]; omega
  refine fn_ok CW rfl (by kernel_rfl) Try.func31 rfl ?_
  refine Sat.go (Eq.refl _) (NS.no (by simpa using h0) ?_)
  refine Sat.go (Eq.refl _) (NS.call (cloneN_ok l hl) rfl ?_)
  refine Sat.go (Eq.refl _) (NS.mut 13 (Eq.refl _) rfl (c3) rfl ?_)
  rintro ob r ⟨rfl, rfl⟩
  refine Sat.go (Eq.refl _) (NS.need (by rw [e1]; simp; omega) ?_)
  rw [e1]
  refine Sat.go (Eq.refl _) (NS.need (by simp; omega) ?_)
  refine Sat.go (Eq.refl _) (NS.ite (fun h2 => ?_) (fun h2 => ?_))
  · have h2 : d.length < 2 := by rw [hd]; have h2 : (l.length : Int) < 2 := of_decide_eq_true h2
                                 omega
    have hdd : dd (· == ·) d d.length = d := by rw [dd_all (Nat.le_refl _) (fun m hm => by omega), List.take_length]
    rw [hdd]
    refine Sat.go (Eq.refl _) (NS.call ((ck d (by omega)).le (LeL.cons (LeA.sl hd.symm fun i hi j hj => rfl) (LeL.cons (LeA.of (by unfold keepF lastN; rfl)) LeL.nil))) rfl ?_)
    refine Sat.go (Eq.refl _) (NS.retRow 26 rfl rfl (LeA.refl _) ⟨rfl, rfl, rfl, fun _ _ _ _ => rfl⟩ fun _ _ _ _ => flatN _ _ _)
  have h2 : 2 ≤ d.length := by rw [hd]; have h2 : ¬ (l.length : Int) < 2 := of_decide_eq_false h2
                               omega
  refine Sat.go (Eq.refl _) ?_
  refine NS.loop (σ := { k : Nat // 1 ≤ k ∧ k ≤ d.length ∧ ∀ m, m + 1 < k → (d.getD (m + 1) default == d.getD m default) = false }) (fun k => [(0, .own 13), (3, .int .i64 k.1)]) (fun _ => []) (fun k => d.length - k.1) ⟨1, Nat.le_refl _, by omega, fun m hm => by omega⟩ ?_ ?_
  · exact weak_hd [] rfl ⟨rfl, rfl, trivial⟩ trivial (by repeat' (first | exact trivial | refine ⟨.inr rfl, ?_⟩ | refine ⟨.inl rfl, ?_⟩)) (by kernel_rfl)
  rintro ⟨k, hk1, hk, hn⟩
  refine Sat.go (Eq.refl _) (NS.ite (fun h3 => ?_) (fun h3 => ?_))
  · have h3 : k < d.length := by rw [hd]; have h3 : (k : Int) < (l.length : Int) := of_decide_eq_true h3
                                 omega
    have e2 : IntKind.i64.wrap ((k : Int) - 1) = ((k - 1 : Nat) : Int) := by rw [wrap_i64 (by omega) (by omega)]; omega
    refine Sat.go (Eq.refl _) (NS.chk (by kernel_rfl) ?_)
    refine Sat.go (Eq.refl _) (NS.need (by simp; omega) ?_)
    refine Sat.go (Eq.refl _) (NS.need (by simp; omega) ?_)
    refine Sat.go (Eq.refl _) (NS.need (by rw [e2]; simp; omega) ?_)
    rw [e2]
    refine Sat.go (Eq.refl _) (NS.need (by simp; omega) ?_)
    refine Sat.go (Eq.refl _) (NS.ite (fun h4 => ?_) (fun h4 => ?_))
    · have h4 : (d.getD k default == d.getD (k - 1) default) = true := h4
      have hi := CInv.start (eq := (· == ·)) hk1 h3 hn h4
      refine Sat.go (Eq.refl _) (NS.need (by simp; omega) ?_)
      refine Sat.go (Eq.refl _) ?_
      refine NS.loop (σ := { p : Nat × Nat × List Int // CInv (· == ·) d k p.1 p.2.1 p.2.2 }) (fun p => [(0, .own 13), (3, .int .i64 p.1.2.1), (4, .ov 13 1 k ((l.length : Int) - (k : Int)).toNat), (5, .int .i64 p.1.1)]) (fun p => [(13, .row 3 1 l.length (rowL nC p.1.2.2))]) (fun p => d.length - (k + p.1.1)) ⟨(1, k, d), hi⟩ ?_ ?_
      · exact weak_hd [] rfl ⟨rfl, rfl, rfl, rfl, trivial⟩ ⟨ren_row rfl rfl fun _ _ _ _ => rfl, trivial⟩ (by repeat' (first | exact trivial | refine ⟨.inr rfl, ?_⟩ | refine ⟨.inl rfl, ?_⟩)) (by kernel_rfl)
      rintro ⟨⟨k2, kw, L⟩, hi⟩
      simp only at hi
      have b2 := hi.b2
      have b3 := hi.b3
      have b4 := hi.b4
      have hL := hi.len
      refine Sat.go (Eq.refl _) (NS.ite (fun h5 => ?_) (fun h5 => ?_))
      · have h5 : k + k2 < d.length := by
          have h5 : (k2 : Int) < ((((l.length : Int) - (k : Int)).toNat : Nat) : Int) := of_decide_eq_true h5
          omega
        have e3 : IntKind.i64.wrap ((k2 : Int) - 1) = ((k2 - 1 : Nat) : Int) := by rw [wrap_i64 (by omega) (by omega)]; omega
        have e4 : IntKind.i64.wrap ((k2 : Int) + 1) = ((k2 + 1 : Nat) : Int) := by rw [wrap_i64 (by omega) (by omega)]; omega
        have e5 : IntKind.i64.wrap ((kw : Int) + 1) = ((kw + 1 : Nat) : Int) := by rw [wrap_i64 (by omega) (by omega)]; omega
        have p1 := hi.post (k + k2) (by omega)
        have p2 := hi.post (k + (k2 - 1)) (by omega)
        refine Sat.go (Eq.refl _) (NS.chk (by kernel_rfl) ?_)
        refine Sat.go (Eq.refl _) (NS.need (by simp; omega) ?_)
        refine Sat.go (Eq.refl _) (NS.need (by simp; omega) ?_)
        refine Sat.go (Eq.refl _) (NS.need (by rw [e3]; simp; omega) ?_)
        rw [e3]
        refine Sat.go (Eq.refl _) (NS.need (by simp; omega) ?_)
        refine Sat.go (Eq.refl _) (NS.ite (fun h6 => ?_) (fun h6 => ?_))
        · have h6 : (L.getD (k + k2) default != L.getD (k + (k2 - 1)) default) = true := h6
          rw [p1, p2] at h6
          refine Sat.go (Eq.refl _) (NS.need (by simp; omega) ?_)
          refine Sat.go (Eq.refl _) (NS.need (by simp; omega) ?_)
          refine Sat.go (Eq.refl _) (NS.need (by simp; omega) ?_)
          refine Sat.go (Eq.refl _) (NS.need (by simp; omega) ?_)
          refine Sat.go (Eq.refl _) (NS.next ⟨(k2 + 1, kw + 1, L.set kw (d.getD (k + k2) default)), hi.new h5 (by rw [show k + k2 - 1 = k + (k2 - 1) by omega]; simpa using h6)⟩ (by simp only; omega) ?_)
          refine weak_hd [] rfl ⟨rfl, ren_int rfl e5, rfl, ren_int rfl e4, trivial⟩ ⟨ren_row rfl rfl fun q hq j hj => ?_, trivial⟩ (by repeat' (first | exact trivial | refine ⟨.inr rfl, ?_⟩ | refine ⟨.inl rfl, ?_⟩)) (by kernel_rfl)
          have hrs := row_setG (cells := nC) L kw (L.getD (k + k2) default) (by omega) q j hj
          show _ = rowL nC (L.set kw (d.getD (k + k2) default)) q j
          rw [← p1]
          exact hrs
        · have h6 : (L.getD (k + k2) default != L.getD (k + (k2 - 1)) default) = false := h6
          rw [p1, p2] at h6
          refine Sat.go (Eq.refl _) (NS.next ⟨(k2 + 1, kw, L), hi.same h5 (by rw [show k + k2 - 1 = k + (k2 - 1) by omega]; simpa using h6)⟩ (by simp only; omega) ?_)
          exact weak_hd [] rfl ⟨rfl, rfl, rfl, ren_int rfl e4, trivial⟩ ⟨ren_row rfl rfl fun _ _ _ _ => rfl, trivial⟩ (by repeat' (first | exact trivial | refine ⟨.inr rfl, ?_⟩ | refine ⟨.inl rfl, ?_⟩)) (by kernel_rfl)
      · have h5 : k + k2 = d.length := by
          have h5 : ¬ (k2 : Int) < ((((l.length : Int) - (k : Int)).toNat : Nat) : Int) := of_decide_eq_false h5
          omega
        have hpl := hi.pl
        have hpre := hi.pre
        rw [h5] at hpl hpre
        refine Sat.go (Eq.refl _) (NS.leave rfl (Eq.refl _) ?_)
        refine Sat.go (Eq.refl _) (NS.need (by simp; omega) ?_)
        refine Sat.go (Eq.refl _) (NS.need (by simp; omega) ?_)
        refine Sat.go (Eq.refl _) (NS.need (by simp; omega) ?_)
        refine Sat.go (Eq.refl _) (NS.leave rfl (Eq.refl _) ?_)
        refine Sat.go (Eq.refl _) (NS.call ((ck (dd (· == ·) d d.length) (by omega)).le (LeL.cons (LeA.sl ?_ fun i hi j hj => ?_) (LeL.cons (LeA.of (by unfold keepF lastN; rfl)) LeL.nil))) rfl ?_)
        · show ((kw : Int) - ((0 : Nat) : Int)).toNat = _
          omega
        · have hi' : i < kw := by have hi' : i < ((kw : Int) - ((0 : Nat) : Int)).toNat := hi
                                  omega
          have e7 : rowL nC L i j = rowL nC (dd (· == ·) d d.length) i j := by unfold rowL; rw [hpre i hi']
          rw [← e7]
          show (if kw ≤ 0 + i ∧ 0 + i < kw + ((l.length : Int) - (kw : Int)).toNat then _ else rowL nC L (0 + i) j) = _
          rw [if_neg (by omega), Nat.zero_add]
        refine Sat.go (Eq.refl _) (NS.retRow 26 rfl rfl (LeA.refl _) ⟨rfl, rfl, rfl, fun _ _ _ _ => rfl⟩ fun _ _ _ _ => flatN _ _ _)
    · have h4 : (d.getD k default == d.getD (k - 1) default) = false := h4
      refine Sat.go (Eq.refl _) (NS.next ⟨k + 1, by omega, by omega, fun m hm => ?_⟩ (by simp; omega) ?_)
      · by_cases e : m + 1 = k
        · rw [show k - 1 = m by omega, ← e] at h4; exact h4
        · exact hn m (by omega)
      · exact weak_hd [] rfl ⟨rfl, ren_int rfl (i64_k (k := k) (n := d.length) (by omega) (by omega)), trivial⟩ trivial (by repeat' (first | exact trivial | refine ⟨.inr rfl, ?_⟩ | refine ⟨.inl rfl, ?_⟩)) (by kernel_rfl)
  · have h3 : k = d.length := by have h3 : ¬ (k : Int) < (l.length : Int) := of_decide_eq_false h3
                                 omega
    subst h3
    have hdd : dd (· == ·) d d.length = d := by rw [dd_all (Nat.le_refl _) hn, List.take_length]
    rw [hdd]
    refine Sat.go (Eq.refl _) (NS.leave rfl (Eq.refl _) ?_)
    refine Sat.go (Eq.refl _) (NS.call ((ck d (by omega)).le (LeL.cons (LeA.sl hd.symm fun i hi j hj => rfl) (LeL.cons (LeA.of (by unfold keepF lastN; rfl)) LeL.nil))) rfl ?_)
    refine Sat.go (Eq.refl _) (NS.retRow 26 rfl rfl (LeA.refl _) ⟨rfl, rfl, rfl, fun _ _ _ _ => rfl⟩ fun _ _ _ _ => flatN _ _ _)
end Go.Proofs.Ytphegncldncaiaa
