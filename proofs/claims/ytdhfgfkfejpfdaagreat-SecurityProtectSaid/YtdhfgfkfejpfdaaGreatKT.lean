/- The tag of a string. -/
import Derived.Test.YtdhfgfkfejpfdaaGreatKTA
set_option linter.unusedSimpArgs false
set_option linter.unusedSectionVars false
set_option linter.unusedVariables false
namespace Go.Proofs.YtdhfgfkfejpfdaaGreat
open Go.Sy Go.Mb
set_option maxRecDepth 100000
set_option linter.unusedVariables false
set_option maxHeartbeats 4000000

theorem wordE_ok {n : Nat} {el : Nat → Nat → A} (l : List Nat) (hn : n = l.length) (he : ∀ i, i < n → ∀ j, j < 1 → el i j = rowL bC l i j) (hl : ∀ x ∈ l, x < 256) (h8 : 8 ≤ l.length) (hm : l.length ≤ 1000000) : FnOK Tryz.prog 72 [.sl 1 n el] (.int .u64 (wordL l : Nat), none) :=
  (word_ok l hl h8 hm).le (LeL.cons (LeA.sl hn he) LeL.nil)
theorem strEl_drop (s : ByteArray) (k i j : Nat) (hj : j < 1) : strEl s (i + k) j = rowL bC ((ls s).drop k) i j := by
  rw [strEl_row s (i + k) j hj]
  obtain rfl : j = 0 := by omega
  unfold rowL
  rw [List.getD_eq_getElem?_getD, List.getD_eq_getElem?_getD, List.getElem?_drop, Nat.add_comm]
theorem gdl {l m : List Nat} {i : Nat} (h : i < l.length) : (l ++ m).getD i 0 = l.getD i 0 := getD_append_left (α := Nat) h
theorem gdr {l m : List Nat} {i : Nat} (h : l.length ≤ i) : (l ++ m).getD i 0 = m.getD (i - l.length) 0 := getD_append_right (α := Nat) h
theorem sl_eq {n n' : Nat} {el el' : Nat → Nat → A} (hn : n = n') (h : ∀ i j, el i j = el' i j) : A.sl 1 n el = A.sl 1 n' el' := by
  subst hn
  rw [show el = el' from funext fun i => funext fun j => h i j]
def wordsF (s : ByteArray) : A := .fn 89 [.ip 1 (getA [.str s])]
theorem words_ok (s : ByteArray) : FnOK Tryz.prog 73 [.str s] (wordsF s, none) := by
  refine fn_ok CN rfl (by kernel_rfl) Tryz.func73 rfl ?_
  exact Sat.go (Eq.refl _) (NS.ret rfl rfl (LeA.refl _))
theorem bytesN_len (m : Nat) : ∀ k, (bytesN m k).length = k
  | 0 => rfl
  | k + 1 => by rw [bytesN, List.length_append, bytesN_len m k]; rfl
theorem byteStep {m k : Nat} (hm : m < 2 ^ 64) (hk : k < 8) : IntKind.u8.wrap ((m : Int).fdiv (2 ^ (min (IntKind.i64.wrap (8 * (k : Int))).toNat IntKind.u64.bits))) = ((m / 2 ^ (8 * k) % 256 : Nat) : Int) := by
  have e0 : min (IntKind.i64.wrap (8 * (k : Int))).toNat IntKind.u64.bits = 8 * k := by
    have : IntKind.u64.bits = 64 := rfl
    rw [this, wrap_i64 (by omega) (by omega)]; omega
  rw [e0, shrU, wrap_u8m]; omega
theorem appNil_ok (m : Nat) (hm : m < 2 ^ 64) : FnOK Tryz.prog 55 [.nils, .int .u64 m] (.own 0, some (.row 5 1 8 (rowL bC (bytesN m 8)))) := by
  refine fn_ok CN rfl (by kernel_rfl) Tryz.func55 rfl ?_
  refine Sat.go (Eq.refl _) ?_
  refine NS.loop (σ := { k : Nat // k ≤ 8 }) (fun k => [(0, .own 7), (1, .int .u64 m), (6, .int .i64 k.1)]) (fun k => [(7, .row 5 1 (bytesN m k.1).length (rowL bC (bytesN m k.1)))]) (fun k => 8 - k.1) ⟨0, by omega⟩ ?_ ?_
  · refine (weak_promote 0 7 5 1 (rowL bC []) rfl rfl).trans ?_
    exact weak_hd [] rfl ⟨rfl, rfl, rfl, trivial⟩ ⟨ren_row rfl rfl fun _ _ _ _ => rfl, trivial⟩ trivial (by kernel_rfl)
  rintro ⟨k, hk⟩
  refine Sat.go (Eq.refl _) (NS.ite (fun a => ?_) (fun a => ?_))
  · have a : k < 8 := by have a : decide ((k : Int) < 8) = true := a; have := of_decide_eq_true a; omega
    refine Sat.go (Eq.refl _) (NS.need (by show decide (0 ≤ IntKind.i64.wrap (8 * (k : Int))) = true; rw [wrap_i64 (by omega) (by omega)]; exact decide_eq_true (by omega)) ?_)
    refine Sat.go (Eq.refl _) (NS.need (decide_eq_true (by simp only [maxRow]; show ((bytesN m k).length + 1) * (0 + 1 + 1) ≤ _; rw [bytesN_len]; omega)) ?_)
    refine Sat.go (Eq.refl _) (NS.next ⟨k + 1, by omega⟩ (by show 8 - (k + 1) < 8 - k; omega) ?_)
    refine weak_hd [(7, 16)] rfl ⟨rfl, rfl, ren_int rfl (i64_k (k := k) (n := 8) a (by omega)), trivial⟩ ⟨?_, trivial⟩ trivial (by kernel_rfl)
    refine ren_row rfl ?_ fun i hi j hj => ?_
    · show (bytesN m k).length + 1 = (bytesN m (k + 1)).length
      rw [bytesN_len, bytesN_len]
    · show _ = rowL bC (bytesN m (k + 1)) i j
      exact row_snoc (cells := bC) (l := bytesN m k) (x := m / 2 ^ (8 * k) % 256) (congrArg (fun y => [A.int .u8 y]) (byteStep hm a)) i (by have hi : i < (bytesN m (k + 1)).length := hi; rw [bytesN_len] at hi ⊢; exact hi) j hj
  have a : k = 8 := by have a : decide ((k : Int) < 8) = false := a; have := of_decide_eq_false a; have hk : k ≤ 8 := hk; omega
  subst a
  refine Sat.go (Eq.refl _) (NS.leave rfl (Eq.refl _) ?_)
  refine Sat.go (Eq.refl _) (NS.retRow 7 rfl rfl (LeA.refl _) ⟨rfl, rfl, bytesN_len m 8, fun _ _ _ _ => rfl⟩ fun _ _ _ _ => flatB _ _ _)
noncomputable def ET : Env := { P := Tryz.prog, eqT := lookE eqTab, frz := [6, 10, 14] }
theorem ET_ok : EqOK ET := eqOK_of eqTab_ok
noncomputable def TG : Cx := { E := ET, inl := [89, 74], ok := ET_ok }
theorem tag_ok (key s : ByteArray) (hk : key.size = 16) (hs : s.size ≤ 100000) : FnOK Tryz.prog 53 [.str key, .str s] (.str (tagM key s), none) := by
  have hkl : (ls key).length = 16 := by rw [ls_len, hk]
  refine fn_ok TG rfl (by kernel_rfl) Tryz.func53 rfl ?_
  refine Sat.go (Eq.refl _) (NS.chk (by kernel_rfl) ?_)
  refine Sat.go (Eq.refl _) (NS.need (decide_eq_true (by simp only [maxRow]; omega)) ?_)
  refine Sat.go (Eq.refl _) (NS.call (wordE_ok (ls key) (by rw [hkl]; exact hk) (fun i hi j hj => strEl_row key i j hj) (ls_lt key) (by omega) (by omega)) rfl ?_)
  refine Sat.go (Eq.refl _) (NS.need (decide_eq_true (by omega)) ?_)
  have he : ls (key.extract (8 : Int).toNat (key.size : Int).toNat) = (ls key).drop 8 := by
    rw [ls_extract, take_all (by rw [hkl, hk]; exact Nat.le_refl _)]; rfl
  have hes : (key.extract (8 : Int).toNat (key.size : Int).toNat).size = 8 := by rw [← ls_len, he, List.length_drop, hkl]
  refine Sat.go (Eq.refl _) (NS.need (decide_eq_true (by rw [hes]; decide)) ?_)
  refine Sat.go (Eq.refl _) (NS.call (wordE_ok ((ls key).drop 8) (by rw [List.length_drop, hkl]; exact hes) (fun i hi j hj => by rw [strEl_row _ i j hj, he]) (drop_lt (ls_lt key) 8) (by rw [List.length_drop, hkl]; decide) (by rw [List.length_drop, hkl]; decide)) rfl ?_)
  refine Sat.go (Eq.refl _) (NS.call (words_ok s) rfl ?_)
  have h0 := sip0_ok (ls_lt key)
  have x1 := xorU (wordL_lt (ls_lt key)) (show 8317987319222330741 < 2 ^ 64 by decide)
  have x2 := xorU (wordL_lt (drop_lt (ls_lt key) 8)) (show 7237128888997146477 < 2 ^ 64 by decide)
  have x3 := xorU (wordL_lt (ls_lt key)) (show 7816392313619706465 < 2 ^ 64 by decide)
  have x4 := xorU (wordL_lt (drop_lt (ls_lt key) 8)) (show 8387220255154660723 < 2 ^ 64 by decide)
  refine Sat.go (Eq.refl _) (NS.need (decide_eq_true (by simp only [maxRow]; omega)) ?_)
  have hsl := ls_len s
  refine Sat.go (Eq.refl _) ?_
  refine NS.loop (σ := { k : Nat // 8 * k ≤ s.size }) (fun k => [(0, .yld 61), (1, .ip 1 (getA [.str s])), (3, .sl 1 (s.size - 8 * k.1) (fun i j => strEl s (i + 8 * k.1) j))]) (fun k => [(7, .box (Hs.cells (foldW (ls s) (sip0 (ls key)) k.1)))]) (fun k => s.size - 8 * k.1) ⟨0, by omega⟩ ?_ ?_
  · exact weak_hd [] rfl ⟨rfl, rfl, rfl, trivial⟩ ⟨⟨_, rfl, _, _, rfl, ren_int rfl x1, _, _, rfl, ren_int rfl x2, _, _, rfl, ren_int rfl x3, _, _, rfl, ren_int rfl x4, rfl⟩, trivial⟩ (by repeat' (first | exact trivial | refine ⟨.inr rfl, ?_⟩ | refine ⟨.inl rfl, ?_⟩)) (by kernel_rfl)
  rintro ⟨k, hk⟩
  have hk : 8 * k ≤ s.size := hk
  refine Sat.go (Eq.refl _) (NS.ite (fun q => ?_) (fun q => ?_))
  · have q : 8 ≤ s.size - 8 * k := by have q : decide (((s.size - 8 * k : Nat) : Int) ≥ 8) = true := q; have := of_decide_eq_true q; omega
    have hlw : ((ls s).drop (8 * k)).length = s.size - 8 * k := by rw [List.length_drop, hsl]
    refine Sat.go (Eq.refl _) (NS.call (wordE_ok ((ls s).drop (8 * k)) hlw.symm (fun i hi j hj => strEl_drop s (8 * k) i j hj) (drop_lt (ls_lt s) _) (by omega) (by omega)) rfl ?_)
    have hm := wordL_lt (drop_lt (ls_lt s) (8 * k))
    have hok := foldW_ok (ls_lt s) h0 k
    have hf : foldW (ls s) (sip0 (ls key)) (k + 1) = absb (foldW (ls s) (sip0 (ls key)) k) (wordL ((ls s).drop (8 * k))) := rfl
    repeat' (refine Sat.go (Eq.refl _) ?_; first | (refine NS.no (rfl) ?_) | (refine NS.yes (rfl) ?_) | (refine NS.chk (by kernel_rfl) ?_) | (refine NS.call (rot13_ok _) rfl ?_) | (refine NS.call (rot32_ok _) rfl ?_) | (refine NS.call (rot16_ok _) rfl ?_) | (refine NS.call (rot21_ok _) rfl ?_) | (refine NS.call (rot17_ok _) rfl ?_))
    refine Sat.go (Eq.refl _) (NS.need (decide_eq_true (by show (0 : Int) ≤ 8 ∧ 8 ≤ ((s.size - 8 * k : Nat) : Int) ∧ ((s.size - 8 * k : Nat) : Int) ≤ ((s.size - 8 * k : Nat) : Int); omega)) ?_)
    refine Sat.go (Eq.refl _) (NS.next ⟨k + 1, by omega⟩ (by show s.size - 8 * (k + 1) < s.size - 8 * k; omega) ?_)
    obtain ⟨e1, e2, e3, e4⟩ := abs_eq hok hm
    rw [← hf] at e1 e2 e3 e4
    simp only [xI, aI, RA, RB, RC, RD] at e1 e2 e3 e4
    refine weak_hd [] rfl ⟨rfl, rfl, ?_, trivial⟩ ⟨⟨_, rfl, _, _, rfl, ren_int rfl e1, _, _, rfl, ren_int rfl e2, _, _, rfl, ren_int rfl e3, _, _, rfl, ren_int rfl e4, rfl⟩, trivial⟩ (by repeat' (first | exact trivial | refine ⟨.inr rfl, ?_⟩ | refine ⟨.inl rfl, ?_⟩)) (by kernel_rfl)
    · refine sl_eq ?_ fun i j => ?_
      · show (((s.size - 8 * k : Nat) : Int) - 8).toNat = s.size - 8 * (k + 1)
        omega
      · show strEl s _ j = strEl s _ j
        congr 1
        simp; omega
  have q : s.size - 8 * k < 8 := by have q : decide (((s.size - 8 * k : Nat) : Int) ≥ 8) = false := q; have := of_decide_eq_false q; omega
  have hk8 : k = s.size / 8 := by omega
  refine Sat.go (Eq.refl _) (NS.leave rfl (Eq.refl _) ?_)
  refine Sat.go (Eq.refl _) (NS.need (allN_row fun i hi => rfl) ?_)
  repeat' (refine Sat.go (Eq.refl _) ?_; first | (refine NS.no (rfl) ?_) | (refine NS.yes (rfl) ?_) | (refine NS.chk (by kernel_rfl) ?_))
  have hlast : ∀ i, i < 8 → (lastB (ls s)).getD i 0 = if i = 7 then s.size % 256 else if i < s.size - 8 * k then (ls s).getD (i + 8 * k) 0 else 0 := by
    intro i hi
    have hlen : (ls s).length = s.size := ls_len s
    unfold lastB
    rw [hlen, ← hk8]
    by_cases h7 : i = 7
    · subst h7
      rw [if_pos rfl, gdr (by simp; omega)]
      rw [show 7 - _ = 0 by simp; omega]; rfl
    · rw [if_neg h7, gdl (by simp; omega)]
      split <;> rename_i h
      · rw [gdl (by simp; omega), List.getD_eq_getElem?_getD, List.getD_eq_getElem?_getD, List.getElem?_drop, Nat.add_comm]
      · rw [gdr (by simp; omega)]
        simp [List.getD_eq_getElem?_getD, List.getElem?_replicate]
        split <;> rfl
  have hg : ∀ i, ((u8Of (strEl s (i + 8 * k) 0) : Int)) = (((ls s).getD (i + 8 * k) 0 : Nat) : Int) := fun i => by rw [← ls_get]; rfl
  refine Sat.go (Eq.refl _) (NS.call (wordE_ok (lastB (ls s)) (by rw [lastB_len]) (fun i hi j hj => ?_) (lastB_lt (ls_lt s)) (by rw [lastB_len]; exact Nat.le_refl _) (by rw [lastB_len]; decide)) rfl ?_)
  · obtain rfl : j = 0 := by omega
    show _ = A.int .u8 (((lastB (ls s)).getD i 0 : Nat) : Int)
    rw [hlast i hi]
    rcases (by omega : i = 0 ∨ i = 1 ∨ i = 2 ∨ i = 3 ∨ i = 4 ∨ i = 5 ∨ i = 6 ∨ i = 7) with rfl | rfl | rfl | rfl | rfl | rfl | rfl | rfl
    · show A.int .u8 (if 0 < s.size - 8 * k then u8Of (strEl s (0 + 8 * k) 0) else 0) = A.int .u8 (((if 0 < s.size - 8 * k then (ls s).getD (0 + 8 * k) 0 else 0) : Nat) : Int)
      rw [hg]; split <;> rfl
    · show A.int .u8 (if 1 < s.size - 8 * k then u8Of (strEl s (1 + 8 * k) 0) else 0) = A.int .u8 (((if 1 < s.size - 8 * k then (ls s).getD (1 + 8 * k) 0 else 0) : Nat) : Int)
      rw [hg]; split <;> rfl
    · show A.int .u8 (if 2 < s.size - 8 * k then u8Of (strEl s (2 + 8 * k) 0) else 0) = A.int .u8 (((if 2 < s.size - 8 * k then (ls s).getD (2 + 8 * k) 0 else 0) : Nat) : Int)
      rw [hg]; split <;> rfl
    · show A.int .u8 (if 3 < s.size - 8 * k then u8Of (strEl s (3 + 8 * k) 0) else 0) = A.int .u8 (((if 3 < s.size - 8 * k then (ls s).getD (3 + 8 * k) 0 else 0) : Nat) : Int)
      rw [hg]; split <;> rfl
    · show A.int .u8 (if 4 < s.size - 8 * k then u8Of (strEl s (4 + 8 * k) 0) else 0) = A.int .u8 (((if 4 < s.size - 8 * k then (ls s).getD (4 + 8 * k) 0 else 0) : Nat) : Int)
      rw [hg]; split <;> rfl
    · show A.int .u8 (if 5 < s.size - 8 * k then u8Of (strEl s (5 + 8 * k) 0) else 0) = A.int .u8 (((if 5 < s.size - 8 * k then (ls s).getD (5 + 8 * k) 0 else 0) : Nat) : Int)
      rw [hg]; split <;> rfl
    · show A.int .u8 (if 6 < s.size - 8 * k then u8Of (strEl s (6 + 8 * k) 0) else 0) = A.int .u8 (((if 6 < s.size - 8 * k then (ls s).getD (6 + 8 * k) 0 else 0) : Nat) : Int)
      rw [hg]; split <;> rfl
    · show A.int .u8 (IntKind.u8.wrap (s.size : Int)) = A.int .u8 ((s.size % 256 : Nat) : Int)
      rw [wrap_u8m]; rfl
  have hm2 := wordL_lt (lastB_lt (ls_lt s))
  have hok2 := foldW_ok (ls_lt s) h0 k
  repeat' (refine Sat.go (Eq.refl _) ?_; first | (refine NS.no (rfl) ?_) | (refine NS.yes (rfl) ?_) | (refine NS.chk (by kernel_rfl) ?_) | (refine NS.call (rot13_ok _) rfl ?_) | (refine NS.call (rot32_ok _) rfl ?_) | (refine NS.call (rot16_ok _) rfl ?_) | (refine NS.call (rot21_ok _) rfl ?_) | (refine NS.call (rot17_ok _) rfl ?_))
  obtain ⟨e1, e2, e3, e4⟩ := abs_eq hok2 hm2
  generalize hT : absb (foldW (ls s) (sip0 (ls key)) k) (wordL (lastB (ls s))) = T at e1 e2 e3 e4
  have hTok : T.ok := hT ▸ absb_ok hok2 hm2
  have hT2 : absb (foldW (ls s) (sip0 (ls key)) ((ls s).length / 8)) (wordL (lastB (ls s))) = T := by rw [hsl, ← hk8]; exact hT
  simp only [xI, aI, RA, RB, RC, RD] at e1 e2 e3 e4
  have e5 := xorU hTok.2.2.1 (show 255 < 2 ^ 64 by decide)
  rw [← e3] at e5
  obtain ⟨R, hR0, hRs⟩ : ∃ R : Nat → Hs, R 0 = ⟨T.a, T.b, T.c ^^^ 255, T.d⟩ ∧ ∀ q, R (q + 1) = rnd (R q) := ⟨rndK _, rfl, fun _ => rfl⟩
  have hR4 : R 4 = finS T := by rw [hRs, hRs, hRs, hRs, hR0]; rfl
  have e1 := e1.trans (show ((T.a : Nat) : Int) = ((R 0).a : Int) by rw [hR0])
  have e2 := e2.trans (show ((T.b : Nat) : Int) = ((R 0).b : Int) by rw [hR0])
  have e5 := e5.trans (show ((T.c ^^^ 255 : Nat) : Int) = ((R 0).c : Int) by rw [hR0])
  have e4 := e4.trans (show ((T.d : Nat) : Int) = ((R 0).d : Int) by rw [hR0])
  have hRok : ∀ q, (R q).ok := fun q => by
    induction q with
    | zero => rw [hR0]; exact ⟨hTok.1, hTok.2.1, xor_lt hTok.2.2.1 (by decide), hTok.2.2.2⟩
    | succ q ih => rw [hRs]; exact rnd_ok ih
  refine Sat.go (Eq.refl _) ?_
  refine NS.loop (σ := { q : Nat // q ≤ 4 }) (fun q => [(7, .ptr 7 0), (44, .int .i64 q.1)]) (fun q => [(7, .box (Hs.cells (R q.1)))]) (fun q => 4 - q.1) ⟨0, by omega⟩ ?_ ?_
  · exact weak_hd [] rfl ⟨rfl, rfl, trivial⟩ ⟨⟨_, rfl, _, _, rfl, ren_int rfl e1, _, _, rfl, ren_int rfl e2, _, _, rfl, ren_int rfl e5, _, _, rfl, ren_int rfl e4, rfl⟩, trivial⟩ trivial (by kernel_rfl)
  rintro ⟨q, hq⟩
  have hr := hRok q
  refine Sat.go (Eq.refl _) (NS.ite (fun a => ?_) (fun a => ?_))
  · have a : q < 4 := by have a : decide ((q : Int) < 4) = true := a; have := of_decide_eq_true a; omega
    repeat' (refine Sat.go (Eq.refl _) ?_; first | (refine NS.no (rfl) ?_) | (refine NS.yes (rfl) ?_) | (refine NS.chk (by kernel_rfl) ?_) | (refine NS.call (rot13_ok _) rfl ?_) | (refine NS.call (rot32_ok _) rfl ?_) | (refine NS.call (rot16_ok _) rfl ?_) | (refine NS.call (rot21_ok _) rfl ?_) | (refine NS.call (rot17_ok _) rfl ?_))
    obtain ⟨r1, r2, r3, r4⟩ := RR_eq hr
    rw [← hRs] at r1 r2 r3 r4
    simp only [xI, aI, RA, RB, RC, RD] at r1 r2 r3 r4
    refine Sat.go (Eq.refl _) (NS.next ⟨q + 1, by omega⟩ (by show 4 - (q + 1) < 4 - q; omega) ?_)
    exact weak_hd [] rfl ⟨rfl, ren_int rfl (i64_k (k := q) (n := 4) a (by omega)), trivial⟩ ⟨⟨_, rfl, _, _, rfl, ren_int rfl r1, _, _, rfl, ren_int rfl r2, _, _, rfl, ren_int rfl r3, _, _, rfl, ren_int rfl r4, rfl⟩, trivial⟩ trivial (by kernel_rfl)
  have a : q = 4 := by have a : decide ((q : Int) < 4) = false := a; have := of_decide_eq_false a; have hq : q ≤ 4 := hq; omega
  subst a
  refine Sat.go (Eq.refl _) (NS.leave rfl (Eq.refl _) ?_)
  repeat' (refine Sat.go (Eq.refl _) ?_; first | (refine NS.no (rfl) ?_) | (refine NS.yes (rfl) ?_) | (refine NS.chk (by kernel_rfl) ?_))
  have hh : hashL (ls key) (ls s) = (((R 4).a ^^^ (R 4).b) ^^^ (R 4).c) ^^^ (R 4).d := by rw [hR4, ← hT2]; rfl
  have hx1 := xor_lt hr.1 hr.2.1
  have hx2 := xor_lt hx1 hr.2.2.1
  have hx3 := xor_lt hx2 hr.2.2.2
  have eH : xI (xI (xI (R 4).a (R 4).b) (R 4).c) (R 4).d = ((hashL (ls key) (ls s) : Nat) : Int) := by
    rw [hh, xI_eq hr.1 hr.2.1, xI_eq hx1 hr.2.2.1, xI_eq hx2 hr.2.2.2]
  refine Sat.go (Eq.refl _) (NS.call (((appNil_ok (hashL (ls key) (ls s)) (by rw [hh]; exact hx3)).le (LeL.cons (LeA.refl _) (LeL.cons (LeA.of (congrArg (A.int .u64) eH)) LeL.nil)))) rfl ?_)
  refine Sat.go (Eq.refl _) (NS.need (allN_row fun i hi => rfl) ?_)
  have hbt := bytesOf_row (tagL (ls key) (ls s))
  rw [show (tagL (ls key) (ls s)).length = 8 from bytesN_len _ 8] at hbt
  refine Sat.go (Eq.refl _) (NS.ret rfl rfl (LeA.of (congrArg A.str ?_)))
  exact hbt
end Go.Proofs.YtdhfgfkfejpfdaaGreat
