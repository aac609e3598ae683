/- Merge: its parts. -/
import Derived.Test.YthfbahebeembeaaUS
import Derived.Test.YthfbahebeembeaaLYG
import Derived.Test.YthfbahebeembeaaSyGrow
set_option linter.unusedSimpArgs false
set_option linter.unusedSectionVars false
set_option linter.unusedVariables false
namespace Go.Mb
open Go.Sy
set_option linter.unusedVariables false
def slLC (ls : List (List Chg)) : A := .sl 1 ls.length (rowL (fun l => [slChg l]) ls)
def sumL (ls : List (List Chg)) : Nat := ls.flatten.length
theorem sumL_take {ls : List (List Chg)} {k : Nat} (h : k < ls.length) : (ls.take (k + 1)).flatten = (ls.take k).flatten ++ ls.getD k default := by
  rw [take_snoc h]; simp
theorem sumL_le (ls : List (List Chg)) (k : Nat) : ((ls.take k).flatten).length ≤ ls.flatten.length := by
  have : ls.flatten = (ls.take k).flatten ++ (ls.drop k).flatten := by rw [← List.flatten_append, List.take_append_drop]
  rw [this, List.length_append]; omega
end Go.Mb
namespace Go.Proofs.Ythfbahebeembeaa
open Go.Sy Go.Mb
set_option maxRecDepth 100000
set_option linter.unusedVariables false
set_option maxHeartbeats 4000000
theorem info_chg : ∃ i0 z, Try.prog.info? 52 = some i0 ∧ i0.zero = some z ∧ z.cells.size = i0.size ∧ i0.size = 11 ∧ i0.bytes = 88 := ⟨_, _, rfl, rfl, rfl, rfl, rfl⟩
theorem grow_ok (n : Nat) (hn : n ≤ 1000000) : FnOK Try.prog 79 [.nils, .int .i64 n] (.own 0, some (.row 52 11 0 (rowL Chg.cells []))) := by
  obtain ⟨i0, z, h1, h2, h3, h4, h5⟩ := info_chg
  have := growN_ok Try.lyGrow (by kernel_rfl) (i0 := i0) (z := z) h1 h2 h3 (by omega) n (by rw [h5]; unfold maxRow; omega) (rowL Chg.cells [])
  rw [h4] at this
  exact this
theorem concat_row (ls : List (List Chg)) (h1 : ls.length ≤ 1000) (h2 : ls.flatten.length ≤ 1000000) : FnOK Try.prog 47 [slLC ls] (.own 0, some (.row 52 11 ls.flatten.length (rowL Chg.cells ls.flatten))) := by
  refine fn_ok CN rfl (by kernel_rfl) Try.func47 rfl ?_
  refine Sat.go (Eq.refl _) ?_
  refine NS.loop (σ := { k : Nat // k ≤ ls.length }) (fun k => [(0, slLC ls), (3, .int .i64 ((ls.take k.1).flatten.length : Nat)), (9, slLC ls), (10, .int .i64 ls.length), (11, .int .i64 k.1)]) (fun _ => []) (fun k => ls.length - k.1) ⟨0, Nat.zero_le _⟩ ?_ ?_
  · exact weak_hd [] rfl ⟨rfl, rfl, rfl, rfl, rfl, trivial⟩ trivial trivial (by kernel_rfl)
  · rintro ⟨k, hk⟩
    refine Sat.go (Eq.refl _) (NS.ite (fun a => ?_) (fun a => ?_))
    · have a : k < ls.length := by simpa using a
      have hs := sumL_take a
      have hle := sumL_le ls (k + 1)
      have hlen : ((ls.take (k + 1)).flatten).length = ((ls.take k).flatten).length + (ls.getD k default).length := by rw [hs, List.length_append]
      have hw : IntKind.i64.wrap ((((ls.take k).flatten).length : Int) + ((ls.getD k default).length : Int)) = (((ls.take (k + 1)).flatten).length : Int) := by rw [wrap_i64 (by omega) (by omega), hlen]; omega
      refine Sat.go (Eq.refl _) (NS.need (by simp; omega) ?_)
      refine Sat.go (Eq.refl _) (NS.no (by rw [decide_eq_false_iff_not]; intro hc; have hc : IntKind.i64.wrap ((((ls.take k).flatten).length : Int) + ((ls.getD k default).length : Int)) < 0 := hc; rw [hw] at hc; omega) ?_)
      refine Sat.go (Eq.refl _) (NS.next ⟨k + 1, a⟩ (by simp; omega) ?_)
      exact weak_hd [] rfl ⟨rfl, ren_int rfl hw, rfl, rfl, ren_int rfl (i64_k (k := k) (n := ls.length) a (by omega)), trivial⟩ trivial trivial (by kernel_rfl)
    · have a : ls.length ≤ k := by simpa using a
      refine Sat.go (Eq.refl _) (NS.leave rfl (Eq.refl _) ?_)
      rw [take_all a]
      refine Sat.go (Eq.refl _) (NS.call (grow_ok ls.flatten.length h2) rfl ?_)
      refine Sat.go (Eq.refl _) ?_
      refine NS.loop (σ := { k : Nat // k ≤ ls.length }) (fun k => [(6, .own 24), (25, slLC ls), (26, .int .i64 ls.length), (27, .int .i64 k.1)]) (fun k => [(24, .row 52 11 ((ls.take k.1).flatten.length) (rowL Chg.cells (ls.take k.1).flatten))]) (fun k => ls.length - k.1) ⟨0, Nat.zero_le _⟩ ?_ ?_
      · exact weak_hd [] rfl ⟨rfl, rfl, rfl, rfl, trivial⟩ ⟨ren_row rfl rfl fun _ _ _ _ => rfl, trivial⟩ trivial (by kernel_rfl)
      rintro ⟨k, hk⟩
      refine Sat.go (Eq.refl _) (NS.ite (fun b => ?_) (fun b => ?_))
      · have b : k < ls.length := by simpa using b
        have hs := sumL_take b
        have hle := sumL_le ls (k + 1)
        have hlen : ((ls.take (k + 1)).flatten).length = ((ls.take k).flatten).length + (ls.getD k default).length := by rw [hs, List.length_append]
        refine Sat.go (Eq.refl _) (NS.need (by simp; omega) ?_)
        refine Sat.go (Eq.refl _) (NS.need (decide_eq_true (by show ((ls.take k).flatten.length + (ls.getD k default).length) * 89 ≤ maxRow; unfold maxRow; omega)) ?_)
        refine Sat.go (Eq.refl _) (NS.next ⟨k + 1, b⟩ (by simp; omega) ?_)
        exact weak_hd [(24, 33)] rfl ⟨rfl, rfl, rfl, ren_int rfl (i64_k (k := k) (n := ls.length) b (by omega)), trivial⟩ ⟨ren_row rfl hlen.symm fun i hi j hj => (rowL_append Chg.cells (ls.take k).flatten (ls.getD k default) i j).trans (by rw [← hs]), trivial⟩ trivial (by kernel_rfl)
      · have b : ls.length ≤ k := by simpa using b
        refine Sat.go (Eq.refl _) (NS.leave rfl (Eq.refl _) ?_)
        refine Sat.go (Eq.refl _) (NS.retRow 24 rfl rfl (LeA.refl _) ⟨rfl, rfl, by rw [take_all b], fun i hi j hj => by rw [take_all b]⟩ fun _ _ _ _ => flatChg _ _ _)
theorem gaps_ok (l : List Chg) (hl : l.length ≤ 1000000) : FnOK Try.prog 74 [slChg l] (.tup [.bool (gapL l), .bool (ordL l)], none) := by
  refine fn_ok CN rfl (by kernel_rfl) Try.func74 rfl ?_
  refine Sat.go (Eq.refl _) ?_
  refine NS.loop (σ := { k : Nat // k ≤ l.length }) (fun k => [(0, slChg l), (4, .bool (anyK gapX l k.1)), (5, .bool (anyK ordX l k.1)), (9, slChg l), (10, .int .i64 l.length), (11, .int .i64 k.1)]) (fun _ => []) (fun k => l.length - k.1) ⟨0, Nat.zero_le _⟩ ?_ ?_
  · exact weak_hd [] rfl ⟨rfl, .inr rfl, .inr rfl, rfl, rfl, rfl, trivial⟩ trivial trivial (by kernel_rfl)
  rintro ⟨k, hk⟩
  refine Sat.go (Eq.refl _) (NS.ite (fun a => ?_) (fun a => ?_))
  · have a : k < l.length := by simpa using a
    rcases k with _ | k
    · have e1 : anyK gapX l 1 = ((l.getD 0 default).cnt != 1) := rfl
      have e2 : anyK ordX l 1 = false := rfl
      cases hc1 : ((l.getD 0 default).cnt != 1) <;> rw [hc1] at e1
      · repeat' (first | (refine Sat.go (Eq.refl _) (NS.chk (by kernel_rfl) ?_)) | (refine Sat.go (Eq.refl _) (NS.need (by simp; omega) ?_)) | (refine Sat.go (Eq.refl _) (NS.no (by first | rfl | exact hc1 | (simp <;> fail)) ?_)) | (refine Sat.go (Eq.refl _) (NS.next ⟨1, a⟩ (by simp; omega) ?_); exact weak_hd [] rfl ⟨rfl, ren_b (.inr rfl) e1.symm, ren_b (.inr rfl) e2.symm, rfl, rfl, rfl, trivial⟩ trivial trivial (by kernel_rfl)))
      · repeat' (first | (refine Sat.go (Eq.refl _) (NS.chk (by kernel_rfl) ?_)) | (refine Sat.go (Eq.refl _) (NS.need (by simp; omega) ?_)) | (refine Sat.go (Eq.refl _) (NS.yes (hc1) ?_)) | (refine Sat.go (Eq.refl _) (NS.no (by first | rfl | (simp <;> fail)) ?_)) | (refine Sat.go (Eq.refl _) (NS.next ⟨1, a⟩ (by simp; omega) ?_); exact weak_hd [] rfl ⟨rfl, ren_b (.inr rfl) e1.symm, ren_b (.inr rfl) e2.symm, rfl, rfl, rfl, trivial⟩ trivial trivial (by kernel_rfl)))
    · have hp : IntKind.i64.wrap (((k + 1 : Nat) : Int) - 1) = (k : Int) := by rw [wrap_i64 (by omega) (by omega)]; omega
      have e1 : anyK gapX l (k + 2) = (anyK gapX l (k + 1) || if (l.getD k default).org == (l.getD (k + 1) default).org then (l.getD (k + 1) default).cnt != IntKind.i64.wrap ((l.getD k default).cnt + 1) else (l.getD (k + 1) default).cnt != 1) := rfl
      have e2 : anyK ordX l (k + 2) = (anyK ordX l (k + 1) || ((l.getD k default).org == (l.getD (k + 1) default).org && decide ((l.getD (k + 1) default).stamp ≤ (l.getD k default).stamp))) := rfl
      have hk0 : decide (((k + 1 : Nat) : Int) > 0) = true := by rw [decide_eq_true_eq]; omega
      refine Sat.go (Eq.refl _) (NS.need (by simp; omega) ?_)
      refine Sat.go (Eq.refl _) (NS.chk (by kernel_rfl) ?_)
      refine Sat.go (Eq.refl _) (NS.yes (by simp) ?_)
      repeat' (first | (refine Sat.go (Eq.refl _) (NS.chk (by kernel_rfl) ?_)) | (refine Sat.go (Eq.refl _) (NS.need (by (try dsimp only); simp only [hp, Int.toNat_natCast, decide_eq_true_eq]; omega) ?_)))
      cases hs : ((l.getD k default).org == (l.getD (k + 1) default).org) with
      | false =>
        rw [hs, if_neg (by simp)] at e1
        rw [hs, Bool.false_and, Bool.or_false] at e2
        refine Sat.go (Eq.refl _) (NS.ite (fun g => ?_) (fun g => ?_))
        · have g : anyK gapX l (k + 1) = true := g
          repeat' (first | (refine Sat.go (Eq.refl _) (NS.chk (by kernel_rfl) ?_)))
          refine Sat.go (Eq.refl _) (NS.ite (fun o => ?_) (fun o => ?_))
          · have o : anyK ordX l (k + 1) = true := o
            refine Sat.go (Eq.refl _) (NS.next ⟨k + 2, a⟩ (by simp; omega) ?_)
            exact weak_hd [] rfl ⟨rfl, ren_b (.inr rfl) (by rw [e1, g]; rfl), ren_b (.inr rfl) (by rw [e2, o]), rfl, rfl, ren_int rfl (i64_k (k := k + 1) (n := l.length) a (by omega)), trivial⟩ trivial trivial (by kernel_rfl)
          · have o : anyK ordX l (k + 1) = false := o
            refine Sat.go (Eq.refl _) (NS.no (by show ((l.getD (IntKind.i64.wrap (((k + 1 : Nat) : Int) - 1)).toNat default).org == (l.getD (k + 1) default).org) = false; rw [hp, Int.toNat_natCast, hs]) ?_)
            refine Sat.go (Eq.refl _) (NS.next ⟨k + 2, a⟩ (by simp; omega) ?_)
            exact weak_hd [] rfl ⟨rfl, ren_b (.inr rfl) (by rw [e1, g]; rfl), ren_b (.inr rfl) (by rw [e2, o]), rfl, rfl, ren_int rfl (i64_k (k := k + 1) (n := l.length) a (by omega)), trivial⟩ trivial trivial (by kernel_rfl)
        · have g : anyK gapX l (k + 1) = false := g
          refine Sat.go (Eq.refl _) (NS.yes (by show (!((l.getD (IntKind.i64.wrap (((k + 1 : Nat) : Int) - 1)).toNat default).org == (l.getD (k + 1) default).org)) = true; rw [hp, Int.toNat_natCast, hs]; rfl) ?_)
          refine Sat.go (Eq.refl _) (NS.ite (fun c => ?_) (fun c => ?_))
          · have c : ((l.getD (k + 1) default).cnt != 1) = true := c
            repeat' (first | (refine Sat.go (Eq.refl _) (NS.chk (by kernel_rfl) ?_)))
            refine Sat.go (Eq.refl _) (NS.ite (fun o => ?_) (fun o => ?_))
            · have o : anyK ordX l (k + 1) = true := o
              refine Sat.go (Eq.refl _) (NS.next ⟨k + 2, a⟩ (by simp; omega) ?_)
              exact weak_hd [] rfl ⟨rfl, ren_b (.inr rfl) (by rw [e1, g, c]; rfl), ren_b (.inr rfl) (by rw [e2, o]), rfl, rfl, ren_int rfl (i64_k (k := k + 1) (n := l.length) a (by omega)), trivial⟩ trivial trivial (by kernel_rfl)
            · have o : anyK ordX l (k + 1) = false := o
              refine Sat.go (Eq.refl _) (NS.no (by show ((l.getD (IntKind.i64.wrap (((k + 1 : Nat) : Int) - 1)).toNat default).org == (l.getD (k + 1) default).org) = false; rw [hp, Int.toNat_natCast, hs]) ?_)
              refine Sat.go (Eq.refl _) (NS.next ⟨k + 2, a⟩ (by simp; omega) ?_)
              exact weak_hd [] rfl ⟨rfl, ren_b (.inr rfl) (by rw [e1, g, c]; rfl), ren_b (.inr rfl) (by rw [e2, o]), rfl, rfl, ren_int rfl (i64_k (k := k + 1) (n := l.length) a (by omega)), trivial⟩ trivial trivial (by kernel_rfl)
          · have c : ((l.getD (k + 1) default).cnt != 1) = false := c
            refine Sat.go (Eq.refl _) (NS.no (by show ((l.getD (IntKind.i64.wrap (((k + 1 : Nat) : Int) - 1)).toNat default).org == (l.getD (k + 1) default).org) = false; rw [hp, Int.toNat_natCast, hs]) ?_)
            repeat' (first | (refine Sat.go (Eq.refl _) (NS.chk (by kernel_rfl) ?_)))
            refine Sat.go (Eq.refl _) (NS.ite (fun o => ?_) (fun o => ?_))
            · have o : anyK ordX l (k + 1) = true := o
              refine Sat.go (Eq.refl _) (NS.next ⟨k + 2, a⟩ (by simp; omega) ?_)
              exact weak_hd [] rfl ⟨rfl, ren_b (.inr rfl) (by rw [e1, g, c]; rfl), ren_b (.inr rfl) (by rw [e2, o]), rfl, rfl, ren_int rfl (i64_k (k := k + 1) (n := l.length) a (by omega)), trivial⟩ trivial trivial (by kernel_rfl)
            · have o : anyK ordX l (k + 1) = false := o
              refine Sat.go (Eq.refl _) (NS.no (by show ((l.getD (IntKind.i64.wrap (((k + 1 : Nat) : Int) - 1)).toNat default).org == (l.getD (k + 1) default).org) = false; rw [hp, Int.toNat_natCast, hs]) ?_)
              refine Sat.go (Eq.refl _) (NS.next ⟨k + 2, a⟩ (by simp; omega) ?_)
              exact weak_hd [] rfl ⟨rfl, ren_b (.inr rfl) (by rw [e1, g, c]; rfl), ren_b (.inr rfl) (by rw [e2, o]), rfl, rfl, ren_int rfl (i64_k (k := k + 1) (n := l.length) a (by omega)), trivial⟩ trivial trivial (by kernel_rfl)
      | true =>
        rw [hs, if_pos rfl] at e1
        rw [hs, Bool.true_and] at e2
        refine Sat.go (Eq.refl _) (NS.ite (fun g => ?_) (fun g => ?_))
        · have g : anyK gapX l (k + 1) = true := g
          repeat' (first | (refine Sat.go (Eq.refl _) (NS.chk (by kernel_rfl) ?_)))
          refine Sat.go (Eq.refl _) (NS.ite (fun o => ?_) (fun o => ?_))
          · have o : anyK ordX l (k + 1) = true := o
            refine Sat.go (Eq.refl _) (NS.next ⟨k + 2, a⟩ (by simp; omega) ?_)
            exact weak_hd [] rfl ⟨rfl, ren_b (.inr rfl) (by rw [e1, g]; rfl), ren_b (.inr rfl) (by rw [e2, o]; rfl), rfl, rfl, ren_int rfl (i64_k (k := k + 1) (n := l.length) a (by omega)), trivial⟩ trivial trivial (by kernel_rfl)
          · have o : anyK ordX l (k + 1) = false := o
            refine Sat.go (Eq.refl _) (NS.yes (by show ((l.getD (IntKind.i64.wrap (((k + 1 : Nat) : Int) - 1)).toNat default).org == (l.getD (k + 1) default).org) = true; rw [hp, Int.toNat_natCast, hs]) ?_)
            repeat' (first | (refine Sat.go (Eq.refl _) (NS.chk (by kernel_rfl) ?_)) | (refine Sat.go (Eq.refl _) (NS.need (by (try dsimp only); simp only [hp, Int.toNat_natCast, decide_eq_true_eq]; omega) ?_)))
            refine Sat.go (Eq.refl _) (NS.next ⟨k + 2, a⟩ (by simp; omega) ?_)
            exact weak_hd [] rfl ⟨rfl, ren_b (.inr rfl) (by rw [e1, g]; rfl), ren_b (.inl rfl) (by rw [e2, o, Bool.false_or, hp, Int.toNat_natCast]; rfl), rfl, rfl, ren_int rfl (i64_k (k := k + 1) (n := l.length) a (by omega)), trivial⟩ trivial trivial (by kernel_rfl)
        · have g : anyK gapX l (k + 1) = false := g
          refine Sat.go (Eq.refl _) (NS.no (by show (!((l.getD (IntKind.i64.wrap (((k + 1 : Nat) : Int) - 1)).toNat default).org == (l.getD (k + 1) default).org)) = false; rw [hp, Int.toNat_natCast, hs]; rfl) ?_)
          refine Sat.go (Eq.refl _) (NS.yes (by show ((l.getD (IntKind.i64.wrap (((k + 1 : Nat) : Int) - 1)).toNat default).org == (l.getD (k + 1) default).org) = true; rw [hp, Int.toNat_natCast, hs]) ?_)
          repeat' (first | (refine Sat.go (Eq.refl _) (NS.chk (by kernel_rfl) ?_)) | (refine Sat.go (Eq.refl _) (NS.need (by (try dsimp only); simp only [hp, Int.toNat_natCast, decide_eq_true_eq]; omega) ?_)))
          repeat' (first | (refine Sat.go (Eq.refl _) (NS.chk (by kernel_rfl) ?_)))
          refine Sat.go (Eq.refl _) (NS.ite (fun o => ?_) (fun o => ?_))
          · have o : anyK ordX l (k + 1) = true := o
            refine Sat.go (Eq.refl _) (NS.next ⟨k + 2, a⟩ (by simp; omega) ?_)
            exact weak_hd [] rfl ⟨rfl, ren_b (.inl rfl) (by rw [e1, g, Bool.false_or, hp, Int.toNat_natCast]; rfl), ren_b (.inr rfl) (by rw [e2, o]; rfl), rfl, rfl, ren_int rfl (i64_k (k := k + 1) (n := l.length) a (by omega)), trivial⟩ trivial trivial (by kernel_rfl)
          · have o : anyK ordX l (k + 1) = false := o
            refine Sat.go (Eq.refl _) (NS.yes (by show ((l.getD (IntKind.i64.wrap (((k + 1 : Nat) : Int) - 1)).toNat default).org == (l.getD (k + 1) default).org) = true; rw [hp, Int.toNat_natCast, hs]) ?_)
            repeat' (first | (refine Sat.go (Eq.refl _) (NS.chk (by kernel_rfl) ?_)) | (refine Sat.go (Eq.refl _) (NS.need (by (try dsimp only); simp only [hp, Int.toNat_natCast, decide_eq_true_eq]; omega) ?_)))
            refine Sat.go (Eq.refl _) (NS.next ⟨k + 2, a⟩ (by simp; omega) ?_)
            exact weak_hd [] rfl ⟨rfl, ren_b (.inl rfl) (by rw [e1, g, Bool.false_or, hp, Int.toNat_natCast]; rfl), ren_b (.inl rfl) (by rw [e2, o, Bool.false_or, hp, Int.toNat_natCast]; rfl), rfl, rfl, ren_int rfl (i64_k (k := k + 1) (n := l.length) a (by omega)), trivial⟩ trivial trivial (by kernel_rfl)
  · have a : l.length ≤ k := by simpa using a
    obtain rfl : k = l.length := by omega
    refine Sat.go (Eq.refl _) (NS.leave rfl (Eq.refl _) ?_)
    exact Sat.go (Eq.refl _) (NS.ret rfl rfl (LeA.refl _))
end Go.Proofs.Ythfbahebeembeaa
