import Derived.Test.YtggjngbighkdgaaGreatB09
set_option linter.unusedSimpArgs false
set_option linter.unusedSectionVars false
set_option linter.unusedVariables false
namespace Go.Proofs.YtggjngbighkdgaaGreat
open Go.Sy Go.Mb
set_option maxRecDepth 100000
set_option maxHeartbeats 2000000
theorem rNums_ok (l : List Int) (hl : l.length ≤ 1000) (hi : ∀ x ∈ l, inI x = true) : FnOK Tryz.prog 202 [slN l] (.str (bs (encL l)), none) := by
 refine fn_ok VN rfl (by kernel_rfl) Tryz.func202 rfl ?_
 refine Sat.go (Eq.refl _) ?_
 refine NS.loop (σ := { k : Nat // k ≤ l.length }) (fun k => [(0, slN l), (3, .str (bs (encL (l.take k.1)))), (4, .int .i64 k.1)]) (fun k => []) (fun k => l.length - k.1) ⟨0, Nat.zero_le _⟩ ?_ ?_
 ·exact weak_hd [] rfl ⟨rfl, ren_str rfl (by simp [encL]; rfl), rfl, trivial⟩ trivial trivial (by kernel_rfl)
 rintro ⟨k, hk⟩
 have hel := encL_len (l := l.take k) fun x hx => hi x (List.mem_of_mem_take hx)
 simp only [List.length_take] at hel
 refine Sat.go (Eq.refl _) (NS.ite (fun h => ?_) (fun h => ?_))
 ·have h : k < l.length := by simpa using h
  refine Sat.go (Eq.refl _) (NS.need (by simp; omega) ?_)
  have c2 := rInt_ok (l.getD k default)
  have hx : inI (l.getD k default) = true := hi _ (by rw [getD_lt h]; exact List.getElem_mem h)
  rw [intM_ok hx] at c2
  have hxl := encI_len hx
  refine Sat.go (Eq.refl _) (NS.call (c2) rfl ?_)
  refine Sat.go (Eq.refl _) (NS.need (decide_eq_true (by rw [bs_len, bs_len]; show (encL (l.take k)).length + _ ≤ _; omega)) ?_)
  refine Sat.go (Eq.refl _) (NS.next ⟨k + 1, by omega⟩ (by simp; omega) ?_)
  refine weak_hd [] rfl ⟨rfl, ren_str rfl ?_, ren_int rfl (i64_k (k := k) (n := l.length) (by omega) (by omega)), trivial⟩ trivial trivial (by kernel_rfl)
  show bs (encL (l.take k)) ++ bs (encI (l.getD k default)) = bs (encL (l.take (k + 1)))
  rw [← bs_append, encL_snoc l k h]
 ·have hk' : ¬ k < l.length := by simpa using h
  obtain rfl : k = l.length := by omega
  refine Sat.go (Eq.refl _) (NS.leave rfl (Eq.refl _) ?_)
  rw [show l.take l.length = l from List.take_length]
  exact Sat.go (Eq.refl _) (NS.ret rfl rfl (LeA.refl _))
theorem rBit_ok (b : Bool) : FnOK Tryz.prog 164 [.bool b] (.int .i64 (cuI b), none) := by
 cases b
 ·refine fn_ok CN rfl (by kernel_rfl) Tryz.func164 rfl ?_
  refine Sat.go (Eq.refl _) (NS.no (rfl) ?_)
  exact Sat.go (Eq.refl _) (NS.ret rfl rfl (LeA.refl _))
 ·refine fn_ok CN rfl (by kernel_rfl) Tryz.func164 rfl ?_
  refine Sat.go (Eq.refl _) (NS.yes (rfl) ?_)
  exact Sat.go (Eq.refl _) (NS.ret rfl rfl (LeA.refl _))
theorem rIdNums_ok (x : Nid) (hi : ∀ y ∈ idI x, inI y = true) : FnOK Tryz.prog 203 [.agg x.cells] (.str (bs (encL (idI x))), none) := by
 refine fn_ok CN rfl (by kernel_rfl) Tryz.func203 rfl ?_
 refine Sat.go (Eq.refl _) (NS.call ((rNums_ok (idI x) (by show 5 ≤ 1000; decide) hi).le (LeL.cons (LeA.sl rfl fun i hi j hj => ?_) LeL.nil)) rfl ?_)
 ·have hj : j < 1 := hj
  obtain rfl : j = 0 := by omega
  have hi : i < 5 := hi
  rcases (by omega : i = 0 ∨ i = 1 ∨ i = 2 ∨ i = 3 ∨ i = 4) with rfl | rfl | rfl | rfl | rfl <;> rfl
 exact Sat.go (Eq.refl _) (NS.ret rfl rfl (LeA.refl _))
theorem rEnc_ok (r : Jrec) : FnOK Tryz.prog 148 [.agg r.cells] (encA (encRM r), none) := by
 have c := rCheck_ok r
 unfold encRM encA
 by_cases h : (recErr r != 0) = true
 ·rw [if_pos h]
  refine fn_ok CN rfl (by kernel_rfl) Tryz.func148 rfl ?_
  refine Sat.go (Eq.refl _) (NS.call (c) rfl ?_)
  refine Sat.go (Eq.refl _) (NS.yes (h) ?_)
  exact Sat.go (Eq.refl _) (NS.ret rfl rfl (LeA.refl _))
 rw [if_neg h]
 have h : recErr r = 0 := by simpa using h
 have hin := conI_in h
 rw [h] at c
 rcases recErr_zero.1 h with g | g
 ·have hs : stoK r.kind = true := by unfold stoK; rcases g.kind with e | e <;> rw [e] <;> rfl
  have hsz : r.item.data.size ≤ 65536 := by have := itemErr_zero g.item; have := this.2.2.2.2.2; rw [inR_iff] at this; omega
  have hi : conI r = [r.kind, r.time] ++ ([r.item.ticket] ++ idI r.item.id ++ [r.item.dest, r.item.expires, r.item.prio, cuI r.item.custody]) := if_pos hs
  rw [hi] at hin
  have hin1 : ∀ y ∈ [r.kind, r.time], inI y = true := fun y hy => hin y (List.mem_append_left _ hy)
  have hin2 : ∀ y ∈ [r.item.ticket], inI y = true := fun y hy => hin y (List.mem_append_right _ (List.mem_append_left _ (List.mem_append_left _ hy)))
  have hin3 : ∀ y ∈ idI r.item.id, inI y = true := fun y hy => hin y (List.mem_append_right _ (List.mem_append_left _ (List.mem_append_right _ hy)))
  have hin4 : ∀ y ∈ [r.item.dest, r.item.expires, r.item.prio, cuI r.item.custody], inI y = true := fun y hy => hin y (List.mem_append_right _ (List.mem_append_right _ hy))
  have c1 := rNums_ok [r.kind, r.time] (by show 2 ≤ 1000; decide) hin1
  have c2 := rNums_ok [r.item.ticket] (by show 1 ≤ 1000; decide) hin2
  have c3 := rIdNums_ok r.item.id hin3
  have c4 := rNums_ok [r.item.dest, r.item.expires, r.item.prio, cuI r.item.custody] (by show 4 ≤ 1000; decide) hin4
  have b1 := bsn_len hin1 (by show 2 ≤ 20; decide)
  have b2 := bsn_len hin2 (by show 1 ≤ 20; decide)
  have b3 := bsn_len hin3 (by show 5 ≤ 20; decide)
  have b4 := bsn_len hin4 (by show 4 ≤ 20; decide)
  have ct : FnOK Tryz.prog 204 [.str r.item.data] (.tup [.str (bs (txtL r.item.data)), .int .i64 0], none) := by
   have c0 := rText_ok r.item.data
   rw [textN_ok hsz] at c0
   exact c0
  have hl : ls (bs (encL [r.kind, r.time]) ++ bs (encL [r.item.ticket]) ++ bs (encL (idI r.item.id)) ++ bs (encL [r.item.dest, r.item.expires, r.item.prio, cuI r.item.custody]) ++ bs (txtL r.item.data)) = conL r := by
   rw [ls_append, ls_append, ls_append, ls_append, ls_bs (encL_lt2 _), ls_bs (encL_lt2 _), ls_bs (encL_lt2 _), ls_bs (encL_lt2 _), ls_bs (fun x hx => by
    rcases List.mem_append.1 hx with h | h
    ·exact encZ_mem h
    ·exact ls_lt _ x h)]
   unfold conL
   rw [if_pos hs, hi]
   simp only [encL, List.flatMap_append, List.append_assoc]
  have htl : (bs (txtL r.item.data)).size ≤ 65600 := by
   have := encI_len (inI_nat (n := r.item.data.size) (by omega))
   rw [bs_len, txtL, List.length_append, ls_len]; omega
  refine fn_ok CN rfl (by kernel_rfl) Tryz.func148 rfl ?_
  refine Sat.go (Eq.refl _) (NS.call (c) rfl ?_)
  refine Sat.go (Eq.refl _) (NS.no (rfl) ?_)
  refine Sat.go (Eq.refl _) (NS.call (c1.le (LeL.cons (LeA.sl rfl fun i hi j hj => ?_) LeL.nil)) rfl ?_)
  ·have hj : j < 1 := hj
   obtain rfl : j = 0 := by omega
   have hi : i < 2 := hi
   rcases (by omega : i = 0 ∨ i = 1) with rfl | rfl <;> rfl
  refine Sat.go (Eq.refl _) (NS.no (by rcases g.kind with hk | hk <;> rw [hk] <;> rfl) ?_)
  refine Sat.go (Eq.refl _) (NS.no (by rcases g.kind with hk | hk <;> rw [hk] <;> rfl) ?_)
  refine Sat.go (Eq.refl _) (NS.chk (by kernel_rfl) ?_)
  refine Sat.go (Eq.refl _) (NS.call (c2.le (LeL.cons (LeA.sl rfl fun i hi j hj => ?_) LeL.nil)) rfl ?_)
  ·have hj : j < 1 := hj
   obtain rfl : j = 0 := by omega
   have hi : i < 1 := hi
   obtain rfl : i = 0 := by omega
   rfl
  refine Sat.go (Eq.refl _) (NS.need (decide_eq_true (by omega)) ?_)
  refine Sat.go (Eq.refl _) (NS.call (c3) rfl ?_)
  refine Sat.go (Eq.refl _) (NS.need (decide_eq_true (by rw [ByteArray.size_append]; omega)) ?_)
  refine Sat.go (Eq.refl _) (NS.call (rBit_ok r.item.custody) rfl ?_)
  refine Sat.go (Eq.refl _) (NS.call (c4.le (LeL.cons (LeA.sl rfl fun i hi j hj => ?_) LeL.nil)) rfl ?_)
  ·have hj : j < 1 := hj
   obtain rfl : j = 0 := by omega
   have hi : i < 4 := hi
   rcases (by omega : i = 0 ∨ i = 1 ∨ i = 2 ∨ i = 3) with rfl | rfl | rfl | rfl <;> rfl
  refine Sat.go (Eq.refl _) (NS.need (decide_eq_true (by rw [ByteArray.size_append, ByteArray.size_append]; omega)) ?_)
  refine Sat.go (Eq.refl _) (NS.call (ct) rfl ?_)
  refine Sat.go (Eq.refl _) (NS.need (decide_eq_true (by rw [ByteArray.size_append, ByteArray.size_append, ByteArray.size_append]; omega)) ?_)
  have cse := rSeal_ok (bs (encL [r.kind, r.time]) ++ bs (encL [r.item.ticket]) ++ bs (encL (idI r.item.id)) ++ bs (encL [r.item.dest, r.item.expires, r.item.prio, cuI r.item.custody]) ++ bs (txtL r.item.data))
  rw [sealN (l := conL r) hl] at cse
  by_cases hb : (conL r).length > 65536
  ·rw [if_pos (decide_eq_true hb)] at cse
   rw [if_pos (decide_eq_true hb)]
   refine Sat.go (Eq.refl _) (NS.call (cse) rfl ?_)
   exact Sat.go (Eq.refl _) (NS.ret rfl rfl (LeA.refl _))
  ·rw [if_neg (by simpa using hb)] at cse
   rw [if_neg (by simpa using hb)]
   refine Sat.go (Eq.refl _) (NS.call (cse) rfl ?_)
   exact Sat.go (Eq.refl _) (NS.ret rfl rfl (LeA.refl _))
 ·have hs : ¬ stoK r.kind = true := by unfold stoK; rcases g.kind with e | e <;> rw [e] <;> decide
  have hi : conI r = [r.kind, r.time] ++ (idI r.id ++ if r.kind == 4 then [r.ticket] else []) := if_neg hs
  rw [hi] at hin
  have hin1 : ∀ y ∈ [r.kind, r.time], inI y = true := fun y hy => hin y (List.mem_append_left _ hy)
  have hin2 : ∀ y ∈ idI r.id, inI y = true := fun y hy => hin y (List.mem_append_right _ (List.mem_append_left _ hy))
  have c1 := rNums_ok [r.kind, r.time] (by show 2 ≤ 1000; decide) hin1
  have c2 := rIdNums_ok r.id hin2
  have b1 := bsn_len hin1 (by show 2 ≤ 20; decide)
  have b2 := bsn_len hin2 (by show 5 ≤ 20; decide)
  refine fn_ok CN rfl (by kernel_rfl) Tryz.func148 rfl ?_
  refine Sat.go (Eq.refl _) (NS.call (c) rfl ?_)
  refine Sat.go (Eq.refl _) (NS.no (rfl) ?_)
  refine Sat.go (Eq.refl _) (NS.call (c1.le (LeL.cons (LeA.sl rfl fun i hi j hj => ?_) LeL.nil)) rfl ?_)
  ·have hj : j < 1 := hj
   obtain rfl : j = 0 := by omega
   have hi : i < 2 := hi
   rcases (by omega : i = 0 ∨ i = 1) with rfl | rfl <;> rfl
  rcases g.kind with hk | hk
  ·have hl : ls (bs (encL [r.kind, r.time]) ++ bs (encL (idI r.id))) = conL r := by
    rw [ls_append, ls_bs (encL_lt2 _), ls_bs (encL_lt2 _)]
    unfold conL
    rw [if_neg hs, hi, if_neg (by rw [hk]; decide)]
    simp only [encL, List.flatMap_append, List.append_nil]
   refine Sat.go (Eq.refl _) (NS.yes (by rw [hk]; rfl) ?_)
   refine Sat.go (Eq.refl _) (NS.call (c2) rfl ?_)
   refine Sat.go (Eq.refl _) (NS.need (decide_eq_true (by omega)) ?_)
   have cse := rSeal_ok (bs (encL [r.kind, r.time]) ++ bs (encL (idI r.id)))
   rw [sealN (l := conL r) hl] at cse
   by_cases hb : (conL r).length > 65536
   ·rw [if_pos (decide_eq_true hb)] at cse
    rw [if_pos (decide_eq_true hb)]
    refine Sat.go (Eq.refl _) (NS.call (cse) rfl ?_)
    exact Sat.go (Eq.refl _) (NS.ret rfl rfl (LeA.refl _))
   ·rw [if_neg (by simpa using hb)] at cse
    rw [if_neg (by simpa using hb)]
    refine Sat.go (Eq.refl _) (NS.call (cse) rfl ?_)
    exact Sat.go (Eq.refl _) (NS.ret rfl rfl (LeA.refl _))
  ·have hin3 : ∀ y ∈ [r.ticket], inI y = true := fun y hy => hin y (List.mem_append_right _ (List.mem_append_right _ (by rw [if_pos (by rw [hk]; rfl)]; exact hy)))
   have c3 := rNums_ok [r.ticket] (by show 1 ≤ 1000; decide) hin3
   have b3 := bsn_len hin3 (by show 1 ≤ 20; decide)
   have hl : ls (bs (encL [r.kind, r.time]) ++ bs (encL (idI r.id)) ++ bs (encL [r.ticket])) = conL r := by
    rw [ls_append, ls_append, ls_bs (encL_lt2 _), ls_bs (encL_lt2 _), ls_bs (encL_lt2 _)]
    unfold conL
    rw [if_neg hs, hi, if_pos (by rw [hk]; rfl)]
    simp only [encL, List.flatMap_append, List.append_nil, List.append_assoc]
   refine Sat.go (Eq.refl _) (NS.no (by rw [hk]; rfl) ?_)
   refine Sat.go (Eq.refl _) (NS.yes (by rw [hk]; rfl) ?_)
   refine Sat.go (Eq.refl _) (NS.chk (by kernel_rfl) ?_)
   refine Sat.go (Eq.refl _) (NS.call (c2) rfl ?_)
   refine Sat.go (Eq.refl _) (NS.need (decide_eq_true (by omega)) ?_)
   refine Sat.go (Eq.refl _) (NS.call (c3.le (LeL.cons (LeA.sl rfl fun i hi j hj => ?_) LeL.nil)) rfl ?_)
   ·have hj : j < 1 := hj
    obtain rfl : j = 0 := by omega
    have hi : i < 1 := hi
    obtain rfl : i = 0 := by omega
    rfl
   refine Sat.go (Eq.refl _) (NS.need (decide_eq_true (by rw [ByteArray.size_append]; omega)) ?_)
   have cse := rSeal_ok (bs (encL [r.kind, r.time]) ++ bs (encL (idI r.id)) ++ bs (encL [r.ticket]))
   rw [sealN (l := conL r) hl] at cse
   by_cases hb : (conL r).length > 65536
   ·rw [if_pos (decide_eq_true hb)] at cse
    rw [if_pos (decide_eq_true hb)]
    refine Sat.go (Eq.refl _) (NS.call (cse) rfl ?_)
    exact Sat.go (Eq.refl _) (NS.ret rfl rfl (LeA.refl _))
   ·rw [if_neg (by simpa using hb)] at cse
    rw [if_neg (by simpa using hb)]
    refine Sat.go (Eq.refl _) (NS.call (cse) rfl ?_)
    exact Sat.go (Eq.refl _) (NS.ret rfl rfl (LeA.refl _))
end Go.Proofs.YtggjngbighkdgaaGreat

namespace Go.Mb
open Go.Sy
structure IntsAt (n : Nat) (L : List Nat) (k : Nat) (m : List Int) (T : List Nat) : Prop where
 le : k ≤ n
 ln : m.length = k
 lt : ∀ x ∈ T, x < 256
 res : rdNs n L = (rdNs (n - k) T).map fun p => (m ++ p.1, p.2)
theorem IntsAt.start {n : Nat} {L : List Nat} (h : ∀ x ∈ L, x < 256) : IntsAt n L 0 [] L := ⟨Nat.zero_le _, rfl, h, by rw [Nat.sub_zero]; cases rdNs n L <;> rfl⟩
theorem IntsAt.next {n k : Nat} {L T : List Nat} {m : List Int} (h : IntsAt n L k m T) (hk : k < n) {a : Int} {b : Nat} (hr : rdI T = (a, b, 0)) : IntsAt n L (k + 1) (m ++ [a]) (T.drop b) := by
 refine ⟨hk, by simp [h.ln], fun x hx => h.lt x (List.mem_of_mem_drop hx), ?_⟩
 rw [h.res, show n - k = (n - (k + 1)) + 1 by omega, rdNs, hr]
 rw [if_neg (by simp)]
 cases rdNs (n - (k + 1)) (T.drop b) with
 | none => rfl
 | some p => simp
theorem IntsAt.err {n k : Nat} {L T : List Nat} {m : List Int} (h : IntsAt n L k m T) (hk : k < n) (hr : (rdI T).2.2 ≠ 0) : rdNs n L = none := by
 rw [h.res, show n - k = (n - (k + 1)) + 1 by omega, rdNs, if_pos (by simpa using hr)]; rfl
theorem IntsAt.fin {n : Nat} {L T : List Nat} {m : List Int} (h : IntsAt n L n m T) : rdNs n L = some (m, T) := by
 rw [h.res, Nat.sub_self, rdNs]; simp
theorem exB {T : List Nat} (hT : ∀ x ∈ T, x < 256) (b : Nat) (hb : b ≤ T.length) : (bs T).extract (Int.toNat ((b : Nat) : Int)) (Int.toNat (((bs T).size : Nat) : Int)) = bs (T.drop b) := by
 rw [← bs_ls ((bs T).extract _ _), ls_extract, ls_bs hT]
 show bs ((T.take (bs T).size).drop b) = _
 rw [bs_len, List.take_length]
def intsA : Option (List Int × List Nat) → A
 | none => .tup [.junk, .str .empty, .bool false]
 | some (m, r) => .tup [slN m, .str (bs r), .bool true]
end Go.Mb
namespace Go.Proofs.YtggjngbighkdgaaGreat
open Go.Sy Go.Mb
set_option maxRecDepth 100000
set_option maxHeartbeats 2000000
theorem rAppend_ok (s : ByteArray) (l : List Jrec) (hs : s.size ≤ 100000) (hl : l.length ≤ 1000) : FnOK Tryz.prog 94 [.str s, slR l] (encA (appM (ls s) l), none) := by
 unfold appM
 refine fn_ok CN rfl (by kernel_rfl) Tryz.func94 rfl ?_
 refine Sat.go (Eq.refl _) ?_
 refine NS.loop (σ := { k : Nat // k ≤ l.length ∧ ∀ i, i < k → (encRM (l.getD i default)).2 = 0 }) (fun k => [(0, .str (bs (accJ (ls s) (l.take k.1)))), (1, slR l), (6, .int .i64 k.1)]) (fun k => []) (fun k => l.length - k.1) ⟨0, Nat.zero_le _, fun i hi => absurd hi (Nat.not_lt_zero _)⟩ ?_ ?_
 ·exact weak_hd [] rfl ⟨ren_str rfl (by simp [accJ, bs_ls]), rfl, rfl, trivial⟩ trivial trivial (by kernel_rfl)
 rintro ⟨k, hk, hI⟩
 have hal : (bs (accJ (ls s) (l.take k))).size ≤ 100000000 := by
  have := accJ_len (ls s) (l.take k)
  rw [ls_len, List.length_take] at this
  rw [bs_len]; omega
 refine Sat.go (Eq.refl _) (NS.ite (fun h => ?_) (fun h => ?_))
 ·have h : k < l.length := by simpa using h
  refine Sat.go (Eq.refl _) (NS.need (by simp; omega) ?_)
  refine Sat.go (Eq.refl _) (NS.call (rEnc_ok (l.getD k default)) rfl ?_)
  by_cases he : (encRM (l.getD k default)).2 = 0
  ·refine Sat.go (Eq.refl _) (NS.no (by show ((encRM (l.getD k default)).2 != 0) = false; rw [he]; rfl) ?_)
   have hrl := encRM_len (l.getD k default)
   refine Sat.go (Eq.refl _) (NS.need (decide_eq_true (by rw [bs_len (encRM _).1]; show (bs (accJ (ls s) (l.take k))).size + _ ≤ _; omega)) ?_)
   refine Sat.go (Eq.refl _) (NS.next ⟨k + 1, by omega, fun i hi => by rcases (by omega : i < k ∨ i = k) with a | rfl; exact hI i a; exact he⟩ (by simp; omega) ?_)
   refine weak_hd [] rfl ⟨ren_str rfl ?_, rfl, ren_int rfl (i64_k (k := k) (n := l.length) (by omega) (by omega)), trivial⟩ trivial trivial (by kernel_rfl)
   show bs (accJ (ls s) (l.take k)) ++ bs (encRM (l.getD k default)).1 = bs (accJ (ls s) (l.take (k + 1)))
   rw [take_snoc h, accJ_snoc, bs_append]
  ·refine Sat.go (Eq.refl _) (NS.yes (by show ((encRM (l.getD k default)).2 != 0) = true; simpa using he) ?_)
   have e := appJ_at h hI he (s := ls s)
   rw [e]
   rw [if_pos (by simpa using he)]
   exact Sat.go (Eq.refl _) (NS.leaveOut rfl (Eq.refl _) (NS.ret rfl rfl (LeA.refl _)))
 ·have hk' : ¬ k < l.length := by simpa using h
  obtain rfl : k = l.length := by omega
  rw [show l.take l.length = l from List.take_length] at hal
  have e := appJ_all hI (s := ls s)
  rw [e, if_neg (by simp)]
  have e2 : (((bs (accJ (ls s) l)).size : Nat) : Int) = ((accJ (ls s) l).length : Nat) := by rw [bs_len]
  refine Sat.go (Eq.refl _) (NS.leave rfl (Eq.refl _) ?_)
  rw [show l.take l.length = l from List.take_length]
  by_cases hb : (accJ (ls s) l).length > 65536
  ·rw [if_pos (by simpa using hb)]
   refine Sat.go (Eq.refl _) (NS.yes (decide_eq_true (by rw [e2]; omega)) ?_)
   exact Sat.go (Eq.refl _) (NS.ret rfl rfl (LeA.refl _))
  ·rw [if_neg (by simpa using hb)]
   refine Sat.go (Eq.refl _) (NS.no (decide_eq_false (by rw [e2]; omega)) ?_)
   exact Sat.go (Eq.refl _) (NS.ret rfl rfl (LeA.refl _))
theorem rInts_ok (L : List Nat) (hL : ∀ x ∈ L, x < 256) (n : Nat) (hn : n ≤ 20) : FnOK Tryz.prog 163 [.str (bs L), .int .i64 (n : Nat)] (intsA (rdNs n L), none) := by
 refine fn_ok CN rfl (by kernel_rfl) Tryz.func163 rfl ?_
 refine Sat.go (Eq.refl _) ?_
 refine NS.loop (σ := { p : Nat × List Int × List Nat // IntsAt n L p.1 p.2.1 p.2.2 }) (fun p => [(0, .str (bs p.1.2.2)), (1, .int .i64 (n : Nat)), (7, .own 7), (8, .int .i64 p.1.1)]) (fun p => [(7, .row 3 1 p.1.2.1.length (rowL nC p.1.2.1))]) (fun p => n - p.1.1) ⟨(0, [], L), IntsAt.start hL⟩ ?_ ?_
 ·exact weak_hd [(7, 12)] rfl ⟨rfl, rfl, rfl, rfl, trivial⟩ ⟨ren_row rfl rfl fun i hi => absurd hi (Nat.not_lt_zero i), trivial⟩ trivial (by kernel_rfl)
 rintro ⟨⟨k, m, T⟩, u⟩
 have u : IntsAt n L k m T := u
 have hk := u.le
 have hm := u.ln
 have c2 := rReadInt_ok (bs T)
 rw [ls_bs u.lt] at c2
 refine Sat.go (Eq.refl _) (NS.ite (fun h => ?_) (fun h => ?_))
 ·have h : (k : Int) < (n : Int) := of_decide_eq_true h
  have h : k < n := by omega
  rcases rdI_cases T with ⟨a, b, hr⟩ | ⟨e, he, hr⟩
  ·have hb := (rdI_ok u.lt hr).2.2.1
   rw [hr] at c2
   refine Sat.go (Eq.refl _) (NS.call (c2) rfl ?_)
   refine Sat.go (Eq.refl _) (NS.no (rfl) ?_)
   refine Sat.go (Eq.refl _) (NS.need (decide_eq_true (by show (m.length + 1) * _ ≤ _; simp only [maxRow]; omega)) ?_)
   refine Sat.go (Eq.refl _) (NS.need (decide_eq_true ⟨Int.natCast_nonneg b, by rw [bs_len]; show (b : Int) ≤ (T.length : Int); omega, Int.le_refl _⟩) ?_)
   refine Sat.go (Eq.refl _) (NS.next ⟨(k + 1, m ++ [a], T.drop b), u.next h hr⟩ (by simp only; omega) ?_)
   exact weak_hd [(7, 30)] rfl ⟨ren_str rfl (exB u.lt b hb), rfl, rfl, ren_int rfl (i64_k (k := k) (n := 100000) (by omega) (by omega)), trivial⟩ ⟨ren_row rfl (by simp) (fun i hi j hj => row_snoc (cells := nC) (x := a) rfl i (by simpa using hi) j hj), trivial⟩ trivial (by kernel_rfl)
  ·rw [hr] at c2
   rw [u.err h (by rw [hr]; simpa using he)]
   refine Sat.go (Eq.refl _) (NS.call (c2) rfl ?_)
   refine Sat.go (Eq.refl _) (NS.yes (by simpa using he) ?_)
   exact Sat.go (Eq.refl _) (NS.leaveOut rfl (Eq.refl _) (NS.ret rfl rfl (LeA.tup3 (LeA.junk _) (LeA.refl _) (LeA.refl _))))
 ·have h : ¬ (k : Int) < (n : Int) := of_decide_eq_false h
  obtain rfl : k = n := by omega
  rw [u.fin]
  refine Sat.go (Eq.refl _) (NS.leave rfl (Eq.refl _) ?_)
  exact Sat.go (Eq.refl _) (NS.ret rfl rfl (LeA.refl _))
end Go.Proofs.YtggjngbighkdgaaGreat

namespace Go.Mb
open Go.Sy
theorem rdNs_lt : ∀ {n : Nat} {l : List Nat} {m : List Int} {r : List Nat}, rdNs n l = some (m, r) → (∀ x ∈ l, x < 256) → (∀ x ∈ r, x < 256) ∧ r.length ≤ l.length
 | 0, l, m, r, h, hl => by simp only [rdNs, Option.some.injEq, Prod.mk.injEq] at h; rw [← h.2]; exact ⟨hl, Nat.le_refl _⟩
 | n + 1, l, m, r, h, hl => by
  rw [rdNs] at h
  split at h
  ·cases h
  ·split at h
   ·cases h
   ·rename_i m' r' e
    simp only [Option.some.injEq, Prod.mk.injEq] at h
    obtain ⟨_, rfl⟩ := h
    have := rdNs_lt e (fun x hx => hl x (List.mem_of_mem_drop hx))
    rw [List.length_drop] at this
    exact ⟨this.1, by omega⟩
end Go.Mb
namespace Go.Proofs.YtggjngbighkdgaaGreat
open Go.Sy Go.Mb
set_option maxRecDepth 100000
set_option maxHeartbeats 2000000
theorem rIdOf_ok (m : List Int) (h : 5 ≤ m.length) : FnOK Tryz.prog 165 [slN m] (.agg (nidOf m).cells, none) := by
 refine fn_ok CN rfl (by kernel_rfl) Tryz.func165 rfl ?_
 refine Sat.go (Eq.refl _) (NS.chk (by kernel_rfl) ?_)
 repeat' (first | (refine Sat.go (Eq.refl _) (NS.need (decide_eq_true (by show _ ∧ _ < (m.length : Int); omega)) ?_)))
 exact Sat.go (Eq.refl _) (NS.ret rfl rfl (LeA.refl _))
theorem rParse_ok (L : List Nat) (hL : ∀ x ∈ L, x < 256) (hs : L.length ≤ 100000) : ∃ r : Jrec, FnOK Tryz.prog 104 [.str (bs L)] (.tup [.agg r.cells, .bool (parR L).isSome], none) ∧ ∀ x, parR L = some x → r = x := by
 have c1 := rInts_ok L hL 2 (by omega)
 cases h1 : rdNs 2 L with
 | none =>
  rw [h1] at c1
  have e : parR L = none := by unfold parR; rw [h1]
  refine ⟨.zero, ?_, fun x hx => by rw [e] at hx; cases hx⟩
  rw [e]
  refine fn_ok CN rfl (by kernel_rfl) Tryz.func104 rfl ?_
  refine Sat.go (Eq.refl _) (NS.call (c1) rfl ?_)
  refine Sat.go (Eq.refl _) (NS.yes (rfl) ?_)
  exact Sat.go (Eq.refl _) (NS.ret rfl rfl (LeA.refl _))
 | some p =>
  obtain ⟨m, M⟩ := p
  rw [h1] at c1
  have hm := rdNs_len h1
  have hM := rdNs_lt h1 hL
  obtain ⟨k, t, rfl⟩ : ∃ k t, m = [k, t] := by
   match m, hm with
   | [k, t], _ => exact ⟨k, t, rfl⟩
  by_cases hk2 : k = 2
  ·subst hk2
   have hP : parR L = parI 2 t M := parR_I h1 rfl rfl
   have c2 := rInts_ok M hM.1 5 (by omega)
   cases h2 : rdNs 5 M with
   | none =>
    have e : parR L = none := by rw [hP]; unfold parI; rw [show (if ((2 : Int) == 4) = true then 6 else 5) = 5 from rfl, h2]
    rw [h2] at c2
    refine ⟨.zero, ?_, fun x hx => by rw [e] at hx; cases hx⟩
    rw [e]
    refine fn_ok CN rfl (by kernel_rfl) Tryz.func104 rfl ?_
    refine Sat.go (Eq.refl _) (NS.call (c1) rfl ?_)
    refine Sat.go (Eq.refl _) (NS.no (rfl) ?_)
    refine Sat.go (Eq.refl _) (NS.chk (by kernel_rfl) ?_)
    refine Sat.go (Eq.refl _) (NS.need (decide_eq_true (by show _ ∧ (0 : Int) < ((2 : Nat) : Int); omega)) ?_)
    refine Sat.go (Eq.refl _) (NS.need (decide_eq_true (by show _ ∧ (1 : Int) < ((2 : Nat) : Int); omega)) ?_)
    refine Sat.go (Eq.refl _) (NS.yes (rfl) ?_)
    refine Sat.go (Eq.refl _) (NS.call (rBit_ok (2 == (4 : Int))) rfl ?_)
    refine Sat.go (Eq.refl _) (NS.call (c2) rfl ?_)
    refine Sat.go (Eq.refl _) (NS.yes (rfl) ?_)
    exact Sat.go (Eq.refl _) (NS.ret rfl rfl (LeA.refl _))
   | some p =>
    obtain ⟨m2, R⟩ := p
    rw [h2] at c2
    have hm2 := rdNs_len h2
    have hR := rdNs_lt h2 hM.1
    by_cases hz : R = []
    ·have ecs := rIdOf_ok m2 (by omega)
     obtain ⟨rec, hrec⟩ : ∃ rec : Jrec, (⟨2, .zero, nidOf m2, 0, t⟩ : Jrec) = rec := ⟨_, rfl⟩
     have e : parR L = okR rec := by rw [hP, ← hrec]; unfold parI; rw [show (if ((2 : Int) == 4) = true then 6 else 5) = 5 from rfl, h2]; simp only; rw [if_pos (by rw [hz]; rfl)]; rfl
     have e2 : (parR L).isSome = (recErr rec == 0) := by
      rw [e]; unfold okR; cases h : recErr rec == 0 <;> rfl
     refine ⟨rec, ?_, fun x hx => by rw [e] at hx; unfold okR at hx; split at hx; exact (Option.some.inj hx); cases hx⟩
     rw [e2]
     have hcl : [A.int .i64 2, .int .i64 0, .int .i64 0, .int .i64 0, .int .i64 0, .int .i64 0, .int .i64 0, .int .i64 0, .int .i64 0, .int .i64 0, .bool false, .str .empty] ++ (nidOf m2).cells ++ [.int .i64 0, .int .i64 t] = rec.cells := by rw [← hrec]; rfl
     refine fn_ok CN rfl (by kernel_rfl) Tryz.func104 rfl ?_
     refine Sat.go (Eq.refl _) (NS.call (c1) rfl ?_)
     refine Sat.go (Eq.refl _) (NS.no (rfl) ?_)
     refine Sat.go (Eq.refl _) (NS.chk (by kernel_rfl) ?_)
     refine Sat.go (Eq.refl _) (NS.need (decide_eq_true (by show _ ∧ (0 : Int) < ((2 : Nat) : Int); omega)) ?_)
     refine Sat.go (Eq.refl _) (NS.need (decide_eq_true (by show _ ∧ (1 : Int) < ((2 : Nat) : Int); omega)) ?_)
     refine Sat.go (Eq.refl _) (NS.yes (rfl) ?_)
     refine Sat.go (Eq.refl _) (NS.call (rBit_ok (2 == (4 : Int))) rfl ?_)
     refine Sat.go (Eq.refl _) (NS.call (c2) rfl ?_)
     refine Sat.go (Eq.refl _) (NS.no (rfl) ?_)
     refine Sat.go (Eq.refl _) (NS.no (by show (!((bs R).toList == (⟨#[]⟩ : ByteArray).toList)) = false; exact emp_f hz) ?_)
     refine Sat.go (Eq.refl _) (NS.call (ecs) rfl ?_)
     refine Sat.go (Eq.refl _) (NS.no (rfl) ?_)
     refine Sat.go (Eq.refl _) (NS.chk (by kernel_rfl) ?_)
     refine Sat.go (Eq.refl _) (NS.call ((rCheck_ok rec).le (LeL.cons (LeA.of (congrArg A.agg hcl)) LeL.nil)) rfl ?_)
     exact Sat.go (Eq.refl _) (NS.ret rfl rfl (LeA.tup2 (LeA.of (congrArg A.agg hcl)) (LeA.refl _)))
    ·have e : parR L = none := by rw [hP]; unfold parI; rw [show (if ((2 : Int) == 4) = true then 6 else 5) = 5 from rfl, h2]; simp only; rw [if_neg (by intro h; exact hz (List.isEmpty_iff.1 h))]
     refine ⟨.zero, ?_, fun x hx => by rw [e] at hx; cases hx⟩
     rw [e]
     refine fn_ok CN rfl (by kernel_rfl) Tryz.func104 rfl ?_
     refine Sat.go (Eq.refl _) (NS.call (c1) rfl ?_)
     refine Sat.go (Eq.refl _) (NS.no (rfl) ?_)
     refine Sat.go (Eq.refl _) (NS.chk (by kernel_rfl) ?_)
     refine Sat.go (Eq.refl _) (NS.need (decide_eq_true (by show _ ∧ (0 : Int) < ((2 : Nat) : Int); omega)) ?_)
     refine Sat.go (Eq.refl _) (NS.need (decide_eq_true (by show _ ∧ (1 : Int) < ((2 : Nat) : Int); omega)) ?_)
     refine Sat.go (Eq.refl _) (NS.yes (rfl) ?_)
     refine Sat.go (Eq.refl _) (NS.call (rBit_ok (2 == (4 : Int))) rfl ?_)
     refine Sat.go (Eq.refl _) (NS.call (c2) rfl ?_)
     refine Sat.go (Eq.refl _) (NS.no (rfl) ?_)
     refine Sat.go (Eq.refl _) (NS.yes (by show (!((bs R).toList == (⟨#[]⟩ : ByteArray).toList)) = true; exact emp_t hz) ?_)
     exact Sat.go (Eq.refl _) (NS.ret rfl rfl (LeA.refl _))
  by_cases hk4 : k = 4
  ·subst hk4
   have hP : parR L = parI 4 t M := parR_I h1 rfl rfl
   have c2 := rInts_ok M hM.1 6 (by omega)
   cases h2 : rdNs 6 M with
   | none =>
    have e : parR L = none := by rw [hP]; unfold parI; rw [show (if ((4 : Int) == 4) = true then 6 else 5) = 6 from rfl, h2]
    rw [h2] at c2
    refine ⟨.zero, ?_, fun x hx => by rw [e] at hx; cases hx⟩
    rw [e]
    refine fn_ok CN rfl (by kernel_rfl) Tryz.func104 rfl ?_
    refine Sat.go (Eq.refl _) (NS.call (c1) rfl ?_)
    refine Sat.go (Eq.refl _) (NS.no (rfl) ?_)
    refine Sat.go (Eq.refl _) (NS.chk (by kernel_rfl) ?_)
    refine Sat.go (Eq.refl _) (NS.need (decide_eq_true (by show _ ∧ (0 : Int) < ((2 : Nat) : Int); omega)) ?_)
    refine Sat.go (Eq.refl _) (NS.need (decide_eq_true (by show _ ∧ (1 : Int) < ((2 : Nat) : Int); omega)) ?_)
    refine Sat.go (Eq.refl _) (NS.no (rfl) ?_)
    refine Sat.go (Eq.refl _) (NS.yes (rfl) ?_)
    refine Sat.go (Eq.refl _) (NS.call (rBit_ok (4 == (4 : Int))) rfl ?_)
    refine Sat.go (Eq.refl _) (NS.call (c2) rfl ?_)
    refine Sat.go (Eq.refl _) (NS.yes (rfl) ?_)
    exact Sat.go (Eq.refl _) (NS.ret rfl rfl (LeA.refl _))
   | some p =>
    obtain ⟨m2, R⟩ := p
    rw [h2] at c2
    have hm2 := rdNs_len h2
    have hR := rdNs_lt h2 hM.1
    by_cases hz : R = []
    ·have ecs := rIdOf_ok m2 (by omega)
     obtain ⟨rec, hrec⟩ : ∃ rec : Jrec, (⟨4, .zero, nidOf m2, (m2.getD 5 0), t⟩ : Jrec) = rec := ⟨_, rfl⟩
     have e : parR L = okR rec := by rw [hP, ← hrec]; unfold parI; rw [show (if ((4 : Int) == 4) = true then 6 else 5) = 6 from rfl, h2]; simp only; rw [if_pos (by rw [hz]; rfl)]; rfl
     have e2 : (parR L).isSome = (recErr rec == 0) := by
      rw [e]; unfold okR; cases h : recErr rec == 0 <;> rfl
     refine ⟨rec, ?_, fun x hx => by rw [e] at hx; unfold okR at hx; split at hx; exact (Option.some.inj hx); cases hx⟩
     rw [e2]
     have hcl : [A.int .i64 4, .int .i64 0, .int .i64 0, .int .i64 0, .int .i64 0, .int .i64 0, .int .i64 0, .int .i64 0, .int .i64 0, .int .i64 0, .bool false, .str .empty] ++ (nidOf m2).cells ++ [.int .i64 (m2.getD 5 0), .int .i64 t] = rec.cells := by rw [← hrec]; rfl
     refine fn_ok CN rfl (by kernel_rfl) Tryz.func104 rfl ?_
     refine Sat.go (Eq.refl _) (NS.call (c1) rfl ?_)
     refine Sat.go (Eq.refl _) (NS.no (rfl) ?_)
     refine Sat.go (Eq.refl _) (NS.chk (by kernel_rfl) ?_)
     refine Sat.go (Eq.refl _) (NS.need (decide_eq_true (by show _ ∧ (0 : Int) < ((2 : Nat) : Int); omega)) ?_)
     refine Sat.go (Eq.refl _) (NS.need (decide_eq_true (by show _ ∧ (1 : Int) < ((2 : Nat) : Int); omega)) ?_)
     refine Sat.go (Eq.refl _) (NS.no (rfl) ?_)
     refine Sat.go (Eq.refl _) (NS.yes (rfl) ?_)
     refine Sat.go (Eq.refl _) (NS.call (rBit_ok (4 == (4 : Int))) rfl ?_)
     refine Sat.go (Eq.refl _) (NS.call (c2) rfl ?_)
     refine Sat.go (Eq.refl _) (NS.no (rfl) ?_)
     refine Sat.go (Eq.refl _) (NS.no (by show (!((bs R).toList == (⟨#[]⟩ : ByteArray).toList)) = false; exact emp_f hz) ?_)
     refine Sat.go (Eq.refl _) (NS.call (ecs) rfl ?_)
     refine Sat.go (Eq.refl _) (NS.yes (rfl) ?_)
     refine Sat.go (Eq.refl _) (NS.need (decide_eq_true (by show _ ∧ (5 : Int) < (m2.length : Int); omega)) ?_)
     refine Sat.go (Eq.refl _) (NS.chk (by kernel_rfl) ?_)
     refine Sat.go (Eq.refl _) (NS.call ((rCheck_ok rec).le (LeL.cons (LeA.of (congrArg A.agg hcl)) LeL.nil)) rfl ?_)
     exact Sat.go (Eq.refl _) (NS.ret rfl rfl (LeA.tup2 (LeA.of (congrArg A.agg hcl)) (LeA.refl _)))
    ·have e : parR L = none := by rw [hP]; unfold parI; rw [show (if ((4 : Int) == 4) = true then 6 else 5) = 6 from rfl, h2]; simp only; rw [if_neg (by intro h; exact hz (List.isEmpty_iff.1 h))]
     refine ⟨.zero, ?_, fun x hx => by rw [e] at hx; cases hx⟩
     rw [e]
     refine fn_ok CN rfl (by kernel_rfl) Tryz.func104 rfl ?_
     refine Sat.go (Eq.refl _) (NS.call (c1) rfl ?_)
     refine Sat.go (Eq.refl _) (NS.no (rfl) ?_)
     refine Sat.go (Eq.refl _) (NS.chk (by kernel_rfl) ?_)
     refine Sat.go (Eq.refl _) (NS.need (decide_eq_true (by show _ ∧ (0 : Int) < ((2 : Nat) : Int); omega)) ?_)
     refine Sat.go (Eq.refl _) (NS.need (decide_eq_true (by show _ ∧ (1 : Int) < ((2 : Nat) : Int); omega)) ?_)
     refine Sat.go (Eq.refl _) (NS.no (rfl) ?_)
     refine Sat.go (Eq.refl _) (NS.yes (rfl) ?_)
     refine Sat.go (Eq.refl _) (NS.call (rBit_ok (4 == (4 : Int))) rfl ?_)
     refine Sat.go (Eq.refl _) (NS.call (c2) rfl ?_)
     refine Sat.go (Eq.refl _) (NS.no (rfl) ?_)
     refine Sat.go (Eq.refl _) (NS.yes (by show (!((bs R).toList == (⟨#[]⟩ : ByteArray).toList)) = true; exact emp_t hz) ?_)
     exact Sat.go (Eq.refl _) (NS.ret rfl rfl (LeA.refl _))
  have hP : parR L = parS k t M := by
   cases hs : stoK k with
   | true => exact parR_S h1 hs
   | false =>
    rw [parR_x h1 hs (by show (k == 2 || k == 4) = false; simp [hk2, hk4])]
    simp only [stoK, Bool.or_eq_false_iff, beq_eq_false_iff_ne, ne_eq] at hs
    unfold parS
    split
    ·rfl
    ·split
     ·rfl
     ·rw [okR_none (recErr_kind8 ⟨hs.1, hs.2, hk4⟩ hk2)]
  have c2 := rInts_ok M hM.1 10 (by omega)
  cases h2 : rdNs 10 M with
  | none =>
   rw [h2] at c2
   have e : parR L = none := by rw [hP]; unfold parS; rw [h2]
   refine ⟨.zero, ?_, fun x hx => by rw [e] at hx; cases hx⟩
   rw [e]
   refine fn_ok CN rfl (by kernel_rfl) Tryz.func104 rfl ?_
   refine Sat.go (Eq.refl _) (NS.call (c1) rfl ?_)
   refine Sat.go (Eq.refl _) (NS.no (rfl) ?_)
   refine Sat.go (Eq.refl _) (NS.chk (by kernel_rfl) ?_)
   refine Sat.go (Eq.refl _) (NS.need (decide_eq_true (by show _ ∧ (0 : Int) < ((2 : Nat) : Int); omega)) ?_)
   refine Sat.go (Eq.refl _) (NS.need (decide_eq_true (by show _ ∧ (1 : Int) < ((2 : Nat) : Int); omega)) ?_)
   refine Sat.go (Eq.refl _) (NS.no (by show (k == 2) = false; simpa using hk2) ?_)
   refine Sat.go (Eq.refl _) (NS.no (by show (k == 4) = false; simpa using hk4) ?_)
   refine Sat.go (Eq.refl _) (NS.call (c2) rfl ?_)
   refine Sat.go (Eq.refl _) (NS.yes (rfl) ?_)
   exact Sat.go (Eq.refl _) (NS.ret rfl rfl (LeA.refl _))
  | some p =>
   obtain ⟨m2, R⟩ := p
   rw [h2] at c2
   have hm2 := rdNs_len h2
   have hR := rdNs_lt h2 hM.1
   have cin := in_ok (m2.getD 9 0) 0 1
   cases hc : inR (m2.getD 9 0) 0 1 with
   | false =>
    have e : parR L = none := by
     rw [hP]; unfold parS; rw [h2]
     simp only
     rw [if_pos]
     have q : (m2.getD 9 0 == 0 || m2.getD 9 0 == 1) = false := by
      have hc : ¬ (0 ≤ m2.getD 9 0 ∧ m2.getD 9 0 ≤ 1) := fun h => by rw [inR_iff.2 h] at hc; cases hc
      simp only [Bool.or_eq_false_iff, beq_eq_false_iff_ne, ne_eq]
      omega
     rw [q]; simp
    refine ⟨.zero, ?_, fun x hx => by rw [e] at hx; cases hx⟩
    rw [e]
    refine fn_ok CN rfl (by kernel_rfl) Tryz.func104 rfl ?_
    refine Sat.go (Eq.refl _) (NS.call (c1) rfl ?_)
    refine Sat.go (Eq.refl _) (NS.no (rfl) ?_)
    refine Sat.go (Eq.refl _) (NS.chk (by kernel_rfl) ?_)
    refine Sat.go (Eq.refl _) (NS.need (decide_eq_true (by show _ ∧ (0 : Int) < ((2 : Nat) : Int); omega)) ?_)
    refine Sat.go (Eq.refl _) (NS.need (decide_eq_true (by show _ ∧ (1 : Int) < ((2 : Nat) : Int); omega)) ?_)
    refine Sat.go (Eq.refl _) (NS.no (by show (k == 2) = false; simpa using hk2) ?_)
    refine Sat.go (Eq.refl _) (NS.no (by show (k == 4) = false; simpa using hk4) ?_)
    refine Sat.go (Eq.refl _) (NS.call (c2) rfl ?_)
    refine Sat.go (Eq.refl _) (NS.no (rfl) ?_)
    refine Sat.go (Eq.refl _) (NS.need (decide_eq_true (by show _ ∧ (9 : Int) < (m2.length : Int); omega)) ?_)
    refine Sat.go (Eq.refl _) (NS.call (cin) rfl ?_)
    refine Sat.go (Eq.refl _) (NS.yes (by rw [hc]; rfl) ?_)
    exact Sat.go (Eq.refl _) (NS.ret rfl rfl (LeA.refl _))
   | true =>
    have ct := rReadText_ok (bs R) (by rw [bs_len]; have := hR.2; have := hM.2; omega)
    rw [ls_bs hR.1] at ct
    have q : (m2.getD 9 0 == 0 || m2.getD 9 0 == 1) = true := by
     have hc := inR_iff.1 hc
     simp only [Bool.or_eq_true, beq_iff_eq]
     omega
    by_cases he : (rdT R).2.2 = 0
    ·by_cases hkl : (rdT R).2.1 = R.length
     ·obtain ⟨rec, hrec⟩ : ∃ rec : Jrec, (⟨k, ⟨m2.getD 0 0, nidOf (m2.drop 1), m2.getD 6 0, m2.getD 7 0, m2.getD 8 0, m2.getD 9 0 == 1, bs (rdT R).1⟩, .zero, 0, t⟩ : Jrec) = rec := ⟨_, rfl⟩
      have e : parR L = okR rec := by
       rw [hP, ← hrec]; unfold parS; rw [h2]; simp only
       rw [if_neg (by rw [he, hkl, q]; simp)]
      have e2 : (parR L).isSome = (recErr rec == 0) := by
       rw [e]; unfold okR; cases h : recErr rec == 0 <;> rfl
      refine ⟨rec, ?_, fun x hx => by rw [e] at hx; unfold okR at hx; split at hx; exact (Option.some.inj hx); cases hx⟩
      rw [e2]
      have hcl : [A.int .i64 k, .int .i64 (m2.getD 0 0)] ++ (nidOf (m2.drop 1)).cells ++ [.int .i64 (m2.getD 6 0), .int .i64 (m2.getD 7 0), .int .i64 (m2.getD 8 0), .bool (m2.getD 9 0 == 1), .str (bs (rdT R).1), .int .i64 0, .int .i64 0, .int .i64 0, .int .i64 0, .int .i64 0, .int .i64 0, .int .i64 t] = rec.cells := by rw [← hrec]; rfl
      have ecs := rIdOf_ok (m2.drop 1) (by rw [List.length_drop]; omega)
      refine fn_ok CN rfl (by kernel_rfl) Tryz.func104 rfl ?_
      refine Sat.go (Eq.refl _) (NS.call (c1) rfl ?_)
      refine Sat.go (Eq.refl _) (NS.no (rfl) ?_)
      refine Sat.go (Eq.refl _) (NS.chk (by kernel_rfl) ?_)
      refine Sat.go (Eq.refl _) (NS.need (decide_eq_true (by show _ ∧ (0 : Int) < ((2 : Nat) : Int); omega)) ?_)
      refine Sat.go (Eq.refl _) (NS.need (decide_eq_true (by show _ ∧ (1 : Int) < ((2 : Nat) : Int); omega)) ?_)
      refine Sat.go (Eq.refl _) (NS.no (by show (k == 2) = false; simpa using hk2) ?_)
      refine Sat.go (Eq.refl _) (NS.no (by show (k == 4) = false; simpa using hk4) ?_)
      refine Sat.go (Eq.refl _) (NS.call (c2) rfl ?_)
      refine Sat.go (Eq.refl _) (NS.no (rfl) ?_)
      refine Sat.go (Eq.refl _) (NS.need (decide_eq_true (by show _ ∧ (9 : Int) < (m2.length : Int); omega)) ?_)
      refine Sat.go (Eq.refl _) (NS.call (cin) rfl ?_)
      refine Sat.go (Eq.refl _) (NS.no (by rw [hc]; rfl) ?_)
      refine Sat.go (Eq.refl _) (NS.call (ct) rfl ?_)
      refine Sat.go (Eq.refl _) (NS.no (by show ((rdT R).2.2 != 0) = false; rw [he]; rfl) ?_)
      refine Sat.go (Eq.refl _) (NS.no (by show ((((rdT R).2.1 : Nat) : Int) != (((bs R).size : Nat) : Int)) = false; rw [hkl, bs_len]; simp) ?_)
      refine Sat.go (Eq.refl _) (NS.chk (by kernel_rfl) ?_)
      refine Sat.go (Eq.refl _) (NS.need (decide_eq_true (by show _ ∧ (0 : Int) < (m2.length : Int); omega)) ?_)
      refine Sat.go (Eq.refl _) (NS.need (decide_eq_true (by show (0 : Int) ≤ 1 ∧ (1 : Int) ≤ (m2.length : Int) ∧ (m2.length : Int) ≤ (m2.length : Int); omega)) ?_)
      refine Sat.go (Eq.refl _) (NS.call (ecs.le (LeL.cons (LeA.sl ?_ fun i hi j hj => ?_) LeL.nil)) rfl ?_)
      ·show ((m2.length : Int) - 1).toNat = _; rw [List.length_drop]; omega
      ·have hj : j < 1 := hj
       obtain rfl : j = 0 := by omega
       show A.int .i64 (m2.getD (1 + i) default) = A.int .i64 ((m2.drop 1).getD i default)
       rw [List.getD_eq_getElem?_getD, List.getD_eq_getElem?_getD, List.getElem?_drop]
      refine Sat.go (Eq.refl _) (NS.need (decide_eq_true (by show _ ∧ (6 : Int) < (m2.length : Int); omega)) ?_)
      refine Sat.go (Eq.refl _) (NS.need (decide_eq_true (by show _ ∧ (7 : Int) < (m2.length : Int); omega)) ?_)
      refine Sat.go (Eq.refl _) (NS.need (decide_eq_true (by show _ ∧ (8 : Int) < (m2.length : Int); omega)) ?_)
      refine Sat.go (Eq.refl _) (NS.need (decide_eq_true (by show _ ∧ (9 : Int) < (m2.length : Int); omega)) ?_)
      refine Sat.go (Eq.refl _) (NS.chk (by kernel_rfl) ?_)
      refine Sat.go (Eq.refl _) (NS.call ((rCheck_ok rec).le (LeL.cons (LeA.of (congrArg A.agg hcl)) LeL.nil)) rfl ?_)
      exact Sat.go (Eq.refl _) (NS.ret rfl rfl (LeA.tup2 (LeA.of (congrArg A.agg hcl)) (LeA.refl _)))
     ·have e : parR L = none := by
       rw [hP]; unfold parS; rw [h2]
       simp only
       rw [if_pos (by rw [he, bne_iff_ne.2 hkl]; rfl)]
      refine ⟨.zero, ?_, fun x hx => by rw [e] at hx; cases hx⟩
      rw [e]
      refine fn_ok CN rfl (by kernel_rfl) Tryz.func104 rfl ?_
      refine Sat.go (Eq.refl _) (NS.call (c1) rfl ?_)
      refine Sat.go (Eq.refl _) (NS.no (rfl) ?_)
      refine Sat.go (Eq.refl _) (NS.chk (by kernel_rfl) ?_)
      refine Sat.go (Eq.refl _) (NS.need (decide_eq_true (by show _ ∧ (0 : Int) < ((2 : Nat) : Int); omega)) ?_)
      refine Sat.go (Eq.refl _) (NS.need (decide_eq_true (by show _ ∧ (1 : Int) < ((2 : Nat) : Int); omega)) ?_)
      refine Sat.go (Eq.refl _) (NS.no (by show (k == 2) = false; simpa using hk2) ?_)
      refine Sat.go (Eq.refl _) (NS.no (by show (k == 4) = false; simpa using hk4) ?_)
      refine Sat.go (Eq.refl _) (NS.call (c2) rfl ?_)
      refine Sat.go (Eq.refl _) (NS.no (rfl) ?_)
      refine Sat.go (Eq.refl _) (NS.need (decide_eq_true (by show _ ∧ (9 : Int) < (m2.length : Int); omega)) ?_)
      refine Sat.go (Eq.refl _) (NS.call (cin) rfl ?_)
      refine Sat.go (Eq.refl _) (NS.no (by rw [hc]; rfl) ?_)
      refine Sat.go (Eq.refl _) (NS.call (ct) rfl ?_)
      refine Sat.go (Eq.refl _) (NS.no (by show ((rdT R).2.2 != 0) = false; rw [he]; rfl) ?_)
      refine Sat.go (Eq.refl _) (NS.yes (by show ((((rdT R).2.1 : Nat) : Int) != (((bs R).size : Nat) : Int)) = true; rw [bs_len, bne_iff_ne]; intro h; exact hkl (by exact_mod_cast h)) ?_)
      exact Sat.go (Eq.refl _) (NS.ret rfl rfl (LeA.refl _))
    ·have e : parR L = none := by
      rw [hP]; unfold parS; rw [h2]
      simp only
      rw [if_pos (by rw [bne_iff_ne.2 he]; rfl)]
     refine ⟨.zero, ?_, fun x hx => by rw [e] at hx; cases hx⟩
     rw [e]
     refine fn_ok CN rfl (by kernel_rfl) Tryz.func104 rfl ?_
     refine Sat.go (Eq.refl _) (NS.call (c1) rfl ?_)
     refine Sat.go (Eq.refl _) (NS.no (rfl) ?_)
     refine Sat.go (Eq.refl _) (NS.chk (by kernel_rfl) ?_)
     refine Sat.go (Eq.refl _) (NS.need (decide_eq_true (by show _ ∧ (0 : Int) < ((2 : Nat) : Int); omega)) ?_)
     refine Sat.go (Eq.refl _) (NS.need (decide_eq_true (by show _ ∧ (1 : Int) < ((2 : Nat) : Int); omega)) ?_)
     refine Sat.go (Eq.refl _) (NS.no (by show (k == 2) = false; simpa using hk2) ?_)
     refine Sat.go (Eq.refl _) (NS.no (by show (k == 4) = false; simpa using hk4) ?_)
     refine Sat.go (Eq.refl _) (NS.call (c2) rfl ?_)
     refine Sat.go (Eq.refl _) (NS.no (rfl) ?_)
     refine Sat.go (Eq.refl _) (NS.need (decide_eq_true (by show _ ∧ (9 : Int) < (m2.length : Int); omega)) ?_)
     refine Sat.go (Eq.refl _) (NS.call (cin) rfl ?_)
     refine Sat.go (Eq.refl _) (NS.no (by rw [hc]; rfl) ?_)
     refine Sat.go (Eq.refl _) (NS.call (ct) rfl ?_)
     refine Sat.go (Eq.refl _) (NS.yes (by show ((rdT R).2.2 != 0) = true; simpa using he) ?_)
     exact Sat.go (Eq.refl _) (NS.ret rfl rfl (LeA.refl _))
theorem rRead_ok (s : ByteArray) : FnOK Tryz.prog 68 [.str s] (.tup [slR (rdJA (ls s)).1, .int .i64 ((rdJA (ls s)).2.1 : Nat), .int .i64 (rdJA (ls s)).2.2], none) := by
 have hL := ls_lt s
 have hn := ls_len s
 by_cases hb : (s.size : Int) > 65536
 ·have e : rdJA (ls s) = ([], 0, 4) := by unfold rdJA; rw [hn, if_pos (decide_eq_true hb)]
  rw [e]
  refine fn_ok CN rfl (by kernel_rfl) Tryz.func68 rfl ?_
  refine Sat.go (Eq.refl _) (NS.yes (decide_eq_true hb) ?_)
  exact Sat.go (Eq.refl _) (NS.ret rfl rfl (LeA.tup3 (LeA.sl rfl fun i hi => absurd hi (Nat.not_lt_zero i)) (LeA.refl _) (LeA.refl _)))
 have e : rdJA (ls s) = ((rdJ (ls s)).1, (rdJ (ls s)).2, 0) := by unfold rdJA; rw [hn, if_neg (by simpa using hb)]
 rw [e]
 refine fn_ok CN rfl (by kernel_rfl) Tryz.func68 rfl ?_
 refine Sat.go (Eq.refl _) (NS.no (decide_eq_false hb) ?_)
 refine Sat.go (Eq.refl _) ?_
 refine NS.loop (σ := { p : Nat × List Jrec // RdAt (ls s) p.1 p.2 }) (fun p => [(0, .str s), (5, .own 5), (6, .int .i64 p.1.1)]) (fun p => [(5, .row 101 19 p.1.2.length (rowL Jrec.cells p.1.2))]) (fun p => (ls s).length - p.1.1) ⟨(0, []), RdAt.start _⟩ ?_ ?_
 ·exact weak_hd [(5, 12)] rfl ⟨rfl, rfl, rfl, trivial⟩ ⟨ren_row rfl rfl fun i hi => absurd hi (Nat.not_lt_zero i), trivial⟩ trivial (by kernel_rfl)
 rintro ⟨⟨q, o⟩, hR⟩
 have hR : RdAt (ls s) q o := hR
 have hle := hR.le
 have hol := hR.len
 have hqb : q ≤ 65536 := by omega
 have hdl : ((ls s).drop q).length ≤ 65536 := by rw [List.length_drop]; omega
 have c := rOpen_ok (s.extract (Int.toNat ((q : Nat) : Int)) (Int.toNat ((s.size : Nat) : Int))) (by rw [← ls_len, dropJ s q (by omega)]; omega)
 rw [dropJ s q (by omega)] at c
 have hdt : ∀ x ∈ (ls s).drop q, x < 256 := fun x hx => hL x (List.mem_of_mem_drop hx)
 refine Sat.go (Eq.refl _) (NS.need (by show decide (0 ≤ ((q : Nat) : Int) ∧ ((q : Nat) : Int) ≤ s.size ∧ (s.size : Int) ≤ s.size) = true; rw [decide_eq_true_eq]; omega) ?_)
 obtain ⟨T, n, eo, hO⟩ : ∃ T n eo, opL ((ls s).drop q) = (T, n, eo) := ⟨_, _, _, rfl⟩
 rw [hO] at c
 refine Sat.go (Eq.refl _) (NS.call (c) rfl ?_)
 by_cases he : eo = 0
 ·refine Sat.go (Eq.refl _) (NS.no (by show (eo != 0) = false; rw [he]; rfl) ?_)
  subst he
  have hts := opL_lt hdt
  have htl := (opL_len ((ls s).drop q)).1
  rw [hO] at hts htl
  have htl : T.length ≤ ((ls s).drop q).length := htl
  obtain ⟨r, cp, hr⟩ := rParse_ok T hts (by omega)
  refine Sat.go (Eq.refl _) (NS.call (cp) rfl ?_)
  cases hp : parR T with
  | none =>
   have hf : fstJ ((ls s).drop q) = none := by unfold fstJ; rw [hO]; simp only; rw [if_neg (by simp), hp]
   have hfin := hR.fin hL hf
   rw [hfin]
   refine Sat.go (Eq.refl _) (NS.yes (rfl) ?_)
   refine Sat.go (Eq.refl _) (NS.leaveOut rfl (Eq.refl _) (NS.ret rfl rfl (LeA.refl _)))
  | some x =>
   obtain rfl := hr x hp
   have hf : fstJ ((ls s).drop q) = some (r, n) := by unfold fstJ; rw [hO]; simp only; rw [if_neg (by simp), hp]
   obtain ⟨hN, hn0, hle2⟩ := hR.next hL hf
   refine Sat.go (Eq.refl _) (NS.no (rfl) ?_)
   refine Sat.go (Eq.refl _) (NS.need (decide_eq_true (by simp only [maxRow]; show (o.length + 1) * (159 + 1 + 1) ≤ _; omega)) ?_)
   refine Sat.go (Eq.refl _) (NS.next ⟨(q + n, o ++ [r]), hN⟩ (by show (ls s).length - (q + n) < (ls s).length - q; omega) ?_)
   exact weak_hd [(5, 41)] rfl ⟨rfl, rfl, ren_int rfl (show IntKind.i64.wrap ((q : Nat) + (n : Nat) : Int) = ((q + n : Nat) : Int) by rw [wrap_i64 (by omega) (by omega)]; omega), trivial⟩ ⟨ren_row rfl (by simp) (fun i hi j hj => row_snoc (cells := Jrec.cells) (x := r) rfl i (by simpa using hi) j hj), trivial⟩ trivial (by kernel_rfl)
 ·have hf : fstJ ((ls s).drop q) = none := by unfold fstJ; rw [hO, if_pos (by simpa using he)]
  have hfin := hR.fin hL hf
  rw [hfin]
  refine Sat.go (Eq.refl _) (NS.yes (by show (eo != 0) = true; simpa using he) ?_)
  refine Sat.go (Eq.refl _) (NS.leaveOut rfl (Eq.refl _) (NS.ret rfl rfl (LeA.refl _)))
end Go.Proofs.YtggjngbighkdgaaGreat

namespace Go.Proofs.YtggjngbighkdgaaGreat
open Go.Sy Go.Mb
set_option maxRecDepth 100000
set_option maxHeartbeats 4000000
theorem rFind_ok' (d : Dur) (id : Nid) (h1 : d.items.length ≤ 1000000) : FnOK Tryz.prog 72 [.agg d.cells, .agg id.cells] (.tup [.agg (findM d id).1.cells, .bool (findM d id).2], none) := by
 have hx := idx_lt (hasId id) d.items
 refine fn_ok CF rfl (by kernel_rfl) Tryz.func72 rfl ?_
 refine Sat.go (Eq.refl _) (NS.call (rIndex_ok d.items id h1) rfl ?_)
 refine Sat.go (Eq.refl _) (NS.ite (fun h0 => ?_) (fun h0 => ?_))
 ·have hn : idx (hasId id) d.items = -1 := by simpa using h0
  rw [show findM d id = (.zero, false) by unfold findM; rw [if_neg (by omega)]]
  exact Sat.go (Eq.refl _) (NS.ret rfl rfl (LeA.refl _))
 ·have hn : 0 ≤ idx (hasId id) d.items := by
   rcases idx_cases (hasId id) d.items with ⟨h2, _⟩ | ⟨k, _, h2, _⟩
   ·rw [h2] at h0; simp at h0
   ·omega
  rw [show findM d id = (d.items.getD (idx (hasId id) d.items).toNat default, true) by unfold findM; rw [if_pos hn]]
  refine Sat.go (Eq.refl _) (NS.need (decide_eq_true (by omega)) ?_)
  exact Sat.go (Eq.refl _) (NS.ret rfl rfl (LeA.refl _))
theorem sameO_ok (l m : List Ofr) (hl : l.length ≤ 1000000) : FnOK Tryz.prog 66 [slOfr l, slOfr m] (.bool (sameBy Ofr.eqv l m), none) := by
 refine fn_ok CF rfl (by kernel_rfl) Tryz.func66 rfl ?_
 refine Sat.go (Eq.refl _) (NS.ite (fun h0 => ?_) (fun h0 => ?_))
 ·exact Sat.go (Eq.refl _) (NS.ret rfl rfl (LeA.of (congrArg A.bool ((sameBy_len (fun _ _ => Ofr.eqv_iff) (by intro e; rw [e] at h0; simp at h0)).symm))))
 have hlm : l.length = m.length := by simp only [bne_eq_false_iff_eq] at h0; omega
 refine Sat.go (Eq.refl _) ?_
 refine NS.loop (σ := { k : Nat // k ≤ l.length ∧ ∀ i, i < k → Ofr.eqv (l.getD i default) (m.getD i default) = true }) (fun k => [(0, slOfr l), (1, slOfr m), (5, .int .i64 k.1)]) (fun _ => []) (fun k => l.length - k.1) ⟨0, Nat.zero_le _, fun i hi => by omega⟩ ?_ ?_
 ·exact weak_hd [] rfl ⟨rfl, rfl, rfl, trivial⟩ trivial trivial (by kernel_rfl)
 rintro ⟨k, hk, hn⟩
 refine Sat.go (Eq.refl _) (NS.ite (fun h => ?_) (fun h => ?_))
 ·have h : k < l.length := by simpa using h
  refine Sat.go (Eq.refl _) (NS.chk (by kernel_rfl) ?_)
  refine Sat.go (Eq.refl _) (NS.need (by simp; omega) ?_)
  refine Sat.go (Eq.refl _) (NS.need (by simp; omega) ?_)
  refine Sat.go (Eq.refl _) (NS.ite (fun h2 => ?_) (fun h2 => ?_))
  ·exact Sat.go (Eq.refl _) (NS.leaveOut rfl (Eq.refl _) (NS.ret rfl rfl (LeA.of (congrArg A.bool ((sameBy_f (k := k) (fun _ _ => Ofr.eqv_iff) (not_t h2)).symm)))))
  ·refine Sat.go (Eq.refl _) (NS.next ⟨k + 1, by omega, fun i hi => ?_⟩ (by simp; omega) ?_)
   ·by_cases hik : i = k
    ·subst hik; exact not_f h2
    ·exact hn i (by omega)
   ·exact weak_hd [] rfl ⟨rfl, rfl, ren_int rfl (i64_k (by omega) (by omega)), trivial⟩ trivial trivial (by kernel_rfl)
 ·have h : ¬ k < l.length := by simpa using h
  refine Sat.go (Eq.refl _) (NS.leave rfl (Eq.refl _) ?_)
  exact Sat.go (Eq.refl _) (NS.ret rfl rfl (LeA.of (congrArg A.bool ((sameBy_t (fun _ _ => Ofr.eqv_iff) hlm fun i hi => hn i (by omega)).symm))))
theorem rSameN_ok (n : Nod) (h1 : n.dur.items.length ≤ 1000000) (h2 : n.dur.inbox.length ≤ 1000000) (h3 : n.ofs.length ≤ 1000000) : FnOK Tryz.prog 19 [.agg n.cells, .agg n.cells] (.bool true, none) := by
 have c1 := same_ok n.dur n.dur h1 h2
 rw [sameD_iff.2 rfl] at c1
 have c2 := sameO_ok n.ofs n.ofs h3
 rw [(sameBy_iff (fun _ _ => Ofr.eqv_iff)).2 rfl] at c2
 refine fn_ok CF rfl (by kernel_rfl) Tryz.func19 rfl ?_
 refine Sat.go (Eq.refl _) (NS.yes (by simp) ?_)
 refine Sat.go (Eq.refl _) (NS.yes (by simp) ?_)
 refine Sat.go (Eq.refl _) (NS.yes (by simp) ?_)
 refine Sat.go (Eq.refl _) (NS.yes (by simp) ?_)
 refine Sat.go (Eq.refl _) (NS.yes (by simp) ?_)
 refine Sat.go (Eq.refl _) (NS.call (c1) rfl ?_)
 refine Sat.go (Eq.refl _) (NS.yes (rfl) ?_)
 refine Sat.go (Eq.refl _) (NS.call (c2) rfl ?_)
 exact Sat.go (Eq.refl _) (NS.ret rfl rfl (LeA.refl _))
def greatN (n : Nod) : Bool := greatD n.dur || decide ((n.ofs.length : Int) > 12) || decide ((n.jour.size : Int) > 3000)
theorem greatN_ok (n : Nod) : FnOK Tryz.prog 15 [.agg n.cells] (.bool (greatN n), none) := by
 refine fn_ok CF rfl (by kernel_rfl) Tryz.func15 rfl ?_
 refine Sat.go (Eq.refl _) (NS.call (great_ok n.dur) rfl ?_)
 refine Sat.go (Eq.refl _) (NS.ite (fun a1 => ?_) (fun a1 => ?_))
 ·exact Sat.go (Eq.refl _) (NS.ret rfl rfl (LeA.of (congrArg A.bool (by unfold greatN; rw [a1]; rfl))))
 refine Sat.go (Eq.refl _) (NS.ite (fun a2 => ?_) (fun a2 => ?_))
 ·exact Sat.go (Eq.refl _) (NS.ret rfl rfl (LeA.of (congrArg A.bool (by unfold greatN; rw [a1, show decide ((n.ofs.length : Int) > 12) = true from a2]; rfl))))
 exact Sat.go (Eq.refl _) (NS.ret rfl rfl (LeA.of (congrArg A.bool (by unfold greatN; rw [a1, show decide ((n.ofs.length : Int) > 12) = false from a2]; rfl))))
def rchkN (n : Nod) : Int :=
 if !inR n.self 0 15 || !inR n.quota 0 1073741824 || !inR n.last 0 (n.jour.size : Int) then 2
 else if decide ((n.jour.size : Int) > 65536) then 1
 else if !n.up then (if IntKind.i64.wrap (IntKind.i64.wrap ((n.dur.items.length : Int) + (n.dur.inbox.length : Int)) + (n.ofs.length : Int)) > 0 then 1 else 0)
 else if (((rdJA (ls n.jour)).2.1 : Nat) : Int) != (n.jour.size : Int) then 1
 else if !sameD (jrnD n).1 n.dur then 1
 else if usedM (jrnD n).1.items > n.quota then 1
 else if chkO n.ofs != 0 then 1
 else if n.ofs.any fun o => !(findM (jrnD n).1 o.id).2 then 1 else 0
theorem rCheckN_ok (n : Nod) (h1 : n.dur.items.length ≤ 1000000) (h2 : n.dur.inbox.length ≤ 1000000) : FnOK Tryz.prog 21 [.agg n.cells] (.int .i64 (rchkN n), none) := by
 obtain ⟨hj1, hj2⟩ := jrnD_len n
 have hl := rdJA_len (ls n.jour)
 have cf := rFold_ok (rdJA (ls n.jour)).1 (by omega)
 change FnOK _ _ _ (durA (jrnD n), none) at cf
 have c1 := same_ok (jrnD n).1 n.dur (by omega) (by omega)
 have c2 := rUsed_ok (jrnD n).1 (by omega)
 have no : ∀ {n lo hi : Int}, ¬ (lo ≤ n ∧ n ≤ hi) → inR n lo hi = false := fun h => by rw [← Bool.not_eq_true, inR_iff]; exact h
 have bad : (inR n.self 0 15 = false ∨ inR n.quota 0 1073741824 = false ∨ inR n.last 0 (n.jour.size : Int) = false) → rchkN n = 2 := by
  intro h
  unfold rchkN
  rw [if_pos]
  rcases h with h | h | h <;> rw [h] <;> simp
 refine fn_ok CF rfl (by kernel_rfl) Tryz.func21 rfl ?_
 refine Sat.go (Eq.refl _) (NS.ite (fun a1 => ?_) (fun a1 => ?_))
 ·rw [bad (.inl (no (by have := of_decide_eq_true a1; omega)))]
  exact Sat.go (Eq.refl _) (NS.ret rfl rfl (LeA.refl _))
 refine Sat.go (Eq.refl _) (NS.ite (fun a2 => ?_) (fun a2 => ?_))
 ·rw [bad (.inl (no (by have := of_decide_eq_true a2; omega)))]
  exact Sat.go (Eq.refl _) (NS.ret rfl rfl (LeA.refl _))
 refine Sat.go (Eq.refl _) (NS.ite (fun a3 => ?_) (fun a3 => ?_))
 ·rw [bad (.inr (.inl (no (by have := of_decide_eq_true a3; omega))))]
  exact Sat.go (Eq.refl _) (NS.ret rfl rfl (LeA.refl _))
 refine Sat.go (Eq.refl _) (NS.ite (fun a4 => ?_) (fun a4 => ?_))
 ·rw [bad (.inr (.inl (no (by have := of_decide_eq_true a4; omega))))]
  exact Sat.go (Eq.refl _) (NS.ret rfl rfl (LeA.refl _))
 refine Sat.go (Eq.refl _) (NS.ite (fun a5 => ?_) (fun a5 => ?_))
 ·rw [bad (.inr (.inr (no (by have := of_decide_eq_true a5; omega))))]
  exact Sat.go (Eq.refl _) (NS.ret rfl rfl (LeA.refl _))
 refine Sat.go (Eq.refl _) (NS.ite (fun a6 => ?_) (fun a6 => ?_))
 ·rw [bad (.inr (.inr (no (by have := of_decide_eq_true a6; omega))))]
  exact Sat.go (Eq.refl _) (NS.ret rfl rfl (LeA.refl _))
 have b1 := of_decide_eq_false a1
 have b2 := of_decide_eq_false a2
 have b3 := of_decide_eq_false a3
 have b4 := of_decide_eq_false a4
 have b5 := of_decide_eq_false a5
 have b6 := of_decide_eq_false a6
 unfold rchkN
 rw [if_neg (by rw [inR_iff.2 ⟨by omega, by omega⟩, inR_iff.2 ⟨by omega, by omega⟩, inR_iff.2 ⟨by omega, by omega⟩]; decide)]
 refine Sat.go (Eq.refl _) (NS.ite (fun a7 => ?_) (fun a7 => ?_))
 ·rw [if_pos a7]
  exact Sat.go (Eq.refl _) (NS.ret rfl rfl (LeA.refl _))
 rw [if_neg (by rw [show decide ((n.jour.size : Int) > 65536) = false from a7]; decide)]
 refine Sat.go (Eq.refl _) (NS.ite (fun a8 => ?_) (fun a8 => ?_))
 ·rw [if_pos a8]
  refine Sat.go (Eq.refl _) (NS.ite (fun a9 => ?_) (fun a9 => ?_))
  ·rw [if_pos (of_decide_eq_true a9)]
   exact Sat.go (Eq.refl _) (NS.ret rfl rfl (LeA.refl _))
  ·rw [if_neg (of_decide_eq_false a9)]
   exact Sat.go (Eq.refl _) (NS.ret rfl rfl (LeA.refl _))
 rw [if_neg (by rw [a8]; decide)]
 refine Sat.go (Eq.refl _) (NS.call (rRead_ok n.jour) rfl ?_)
 refine Sat.go (Eq.refl _) (NS.call (cf) rfl ?_)
 refine Sat.go (Eq.refl _) (NS.chk (by kernel_rfl) ?_)
 refine Sat.go (Eq.refl _) (NS.ite (fun d1 => ?_) (fun d1 => ?_))
 ·rw [if_pos d1]
  exact Sat.go (Eq.refl _) (NS.ret rfl rfl (LeA.refl _))
 rw [if_neg (by rw [d1]; decide)]
 refine Sat.go (Eq.refl _) (NS.call (c1) rfl ?_)
 refine Sat.go (Eq.refl _) (NS.ite (fun d2 => ?_) (fun d2 => ?_))
 ·rw [if_pos d2]
  exact Sat.go (Eq.refl _) (NS.ret rfl rfl (LeA.refl _))
 rw [if_neg (by rw [d2]; decide)]
 refine Sat.go (Eq.refl _) (NS.call (c2) rfl ?_)
 refine Sat.go (Eq.refl _) (NS.ite (fun d3 => ?_) (fun d3 => ?_))
 ·rw [if_pos (of_decide_eq_true d3)]
  exact Sat.go (Eq.refl _) (NS.ret rfl rfl (LeA.refl _))
 rw [if_neg (of_decide_eq_false d3)]
 refine Sat.go (Eq.refl _) (NS.call (rcCheck_ok n.ofs) rfl ?_)
 refine Sat.go (Eq.refl _) (NS.ite (fun d4 => ?_) (fun d4 => ?_))
 ·rw [if_pos d4]
  exact Sat.go (Eq.refl _) (NS.ret rfl rfl (LeA.refl _))
 rw [if_neg (by rw [d4]; decide)]
 have hlo : n.ofs.length ≤ 64 := chkO_len (by simpa using d4)
 obtain ⟨D, hD⟩ : ∃ D, D = (jrnD n).1 := ⟨_, rfl⟩
 rw [← hD] at hj1 hj2
 rw [← hD]
 refine Sat.go (Eq.refl _) ?_
 refine NS.loop (σ := { k : Nat // k ≤ n.ofs.length ∧ ∀ i, i < k → (!(findM D (n.ofs.getD i default).id).2) = false }) (fun k => [(1, .ptr 1 0), (6, .ptr 6 0), (8, .int .i64 k.1)]) (fun k => [(1, .box n.cells), (6, .box D.cells)]) (fun k => n.ofs.length - k.1) ⟨0, Nat.zero_le _, fun i hi => by omega⟩ ?_ ?_
 ·exact weak_hd [] rfl ⟨rfl, rfl, rfl, trivial⟩ ⟨⟨_, rfl, renNod _ _⟩, ⟨_, rfl, ⟨_, _, rfl, rfl, _, _, rfl, rfl, rfl⟩⟩, trivial⟩ trivial (by kernel_rfl)
 rintro ⟨k, hk, hn⟩
 refine Sat.go (Eq.refl _) (NS.ite (fun h => ?_) (fun h => ?_))
 ·have h : k < n.ofs.length := by simpa using h
  refine Sat.go (Eq.refl _) (NS.chk (by kernel_rfl) ?_)
  refine Sat.go (Eq.refl _) (NS.need (by simp; omega) ?_)
  refine Sat.go (Eq.refl _) (NS.call (rFind_ok' D (n.ofs.getD k default).id (by omega)) rfl ?_)
  refine Sat.go (Eq.refl _) (NS.ite (fun h2 => ?_) (fun h2 => ?_))
  ·exact Sat.go (Eq.refl _) (NS.leaveOut rfl (Eq.refl _) (NS.ret rfl rfl (LeA.of (congrArg (A.int .i64) (by rw [if_pos (any_t (k := k) h h2)])))))
  ·refine Sat.go (Eq.refl _) (NS.next ⟨k + 1, by omega, fun i hi => ?_⟩ (by simp; omega) ?_)
   ·by_cases hik : i = k
    ·subst hik; exact h2
    ·exact hn i (by omega)
   ·exact weak_hd [] rfl ⟨rfl, rfl, ren_int rfl (i64_k (by omega) (by omega)), trivial⟩ ⟨⟨_, rfl, renNod _ _⟩, ⟨_, rfl, ⟨_, _, rfl, rfl, _, _, rfl, rfl, rfl⟩⟩, trivial⟩ trivial (by kernel_rfl)
 ·have h : ¬ k < n.ofs.length := by simpa using h
  refine Sat.go (Eq.refl _) (NS.leave rfl (Eq.refl _) ?_)
  exact Sat.go (Eq.refl _) (NS.ret rfl rfl (LeA.of (congrArg (A.int .i64) (by rw [if_neg (by rw [any_f fun i hi => hn i (by omega)]; decide)]))))
end Go.Proofs.YtggjngbighkdgaaGreat

namespace Go.Proofs.YtggjngbighkdgaaGreat
open Go.Sy Go.Mb
set_option maxRecDepth 100000
def ofAt (x : Nid) (c : Int) (o : Ofr) : Bool := o.id.eqv x && (c == -1 || o.contact == c)
def rWrM (n : Nod) (l : List Jrec) : Nod × Int := if (appM (ls n.jour) l).2 != 0 then (n, 4) else ({ n with jour := bs (appM (ls n.jour) l).1, dur := effs l n.dur }, 0)
def rRemM (n : Nod) (id : Nid) (now : Int) : Nod × List Mb.Act × Int :=
 ({ (rWrM n [⟨2, .zero, id, 0, now⟩]).1 with ofs := n.ofs.filter (nt (ofId id)) }, [⟨5, (findM n.dur id).1, 0, 0⟩], (rWrM n [⟨2, .zero, id, 0, now⟩]).2)
def rEndM (n : Nod) (id : Nid) (s a : Bool) (now : Int) : Nod × List Mb.Act × Int :=
 if decM (findM n.dur id).1.custody s a == 3 then (n, [⟨4, (findM n.dur id).1, 0, 0⟩], 0) else rRemM n id now
def rKind (n : Nod) (e : Evt) (r : Int) : Int := if r == 1 || r == 2 || (r == 3 && idx (ofAt e.item.id (-1)) n.ofs == -1) then 2 else 3
def rPutM (n : Nod) (e : Evt) (p : List Jrec × Int × Int) : Nod × List Mb.Act × Int :=
 ({ (rWrM n p.1).1 with last := if 0 < p.1.length then ((rWrM n p.1).1.jour.size : Int) else (rWrM n p.1).1.last }, [⟨rKind n e p.2.1, e.item, 0, p.2.1⟩], (rWrM n p.1).2)
def rSendM (n : Nod) (e : Evt) : Nod × List Mb.Act × Int :=
 if !(findM n.dur e.id).2 then (n, [], 0)
 else if idx (ofAt e.id e.contact) n.ofs ≥ 0 then (n, [], 0)
 else if (beginM n.ofs e.id e.contact e.due).2 != 0 then (n, [], 4)
 else ({ n with ofs := (beginM n.ofs e.id e.contact e.due).1 }, [⟨1, (findM n.dur e.id).1, e.contact, 0⟩], 0)
def rSigM (n : Nod) (e : Evt) : Nod × List Mb.Act × Int :=
 if idx (ofAt e.id e.contact) n.ofs == -1 then (n, [], 0)
 else rEndM { n with ofs := n.ofs.eraseIdx (idx (ofAt e.id e.contact) n.ofs).toNat } e.id true e.acc e.time
def rTmN (due : List Ofr) (now : Int) (n : Nod) : Nat → Nod × List Mb.Act × Int
 | 0 => (n, [], 0)
 | k + 1 => if (rTmN due now n k).2.2 != 0 then rTmN due now n k
  else if decide (0 < k) && (due.getD k default).id.eqv (due.getD (k - 1) default).id then rTmN due now n k
  else if (rEndM (rTmN due now n k).1 (due.getD k default).id false false now).2.2 != 0 then ((rTmN due now n k).1, [], (rEndM (rTmN due now n k).1 (due.getD k default).id false false now).2.2)
  else ((rEndM (rTmN due now n k).1 (due.getD k default).id false false now).1, (rTmN due now n k).2.1 ++ (rEndM (rTmN due now n k).1 (due.getD k default).id false false now).2.1, 0)
def rTimM (n : Nod) (e : Evt) : Nod × List Mb.Act × Int := rTmN (dueM n.ofs e.time).1 e.time { n with ofs := (dueM n.ofs e.time).2.1 } (dueM n.ofs e.time).1.length
def rExN (items : List Itm) (now : Int) (n : Nod) : Nat → Nod × List Mb.Act × Int
 | 0 => (n, [], 0)
 | k + 1 => if (rExN items now n k).2.2 != 0 then rExN items now n k
  else if (items.getD k default).expires > now then rExN items now n k
  else if (rRemM (rExN items now n k).1 (items.getD k default).id now).2.2 != 0 then ((rExN items now n k).1, [], (rRemM (rExN items now n k).1 (items.getD k default).id now).2.2)
  else ((rRemM (rExN items now n k).1 (items.getD k default).id now).1, (rExN items now n k).2.1 ++ [(rRemM (rExN items now n k).1 (items.getD k default).id now).2.1.getD 0 default], 0)
def rExpM (n : Nod) (e : Evt) : Nod × List Mb.Act × Int := rExN n.dur.items e.time n n.dur.items.length
def lastN (n : Nod) : Nod := { n with last := (n.jour.size : Int) }
def rGoM (n : Nod) (e : Evt) : Nod × List Mb.Act × Int :=
 if e.kind == 1 then rPutM (lastN n) e (putM n.dur n.self n.quota e.item e.time)
 else if e.kind == 2 then rSendM (lastN n) e
 else if e.kind == 3 then rSigM (lastN n) e
 else if e.kind == 4 then rTimM (lastN n) e
 else if e.kind == 5 then rExpM (lastN n) e
 else if !(findM n.dur e.id).2 then (lastN n, [], 0)
 else if e.kind == 6 then rRemM (lastN n) e.id e.time
 else ((rWrM (lastN n) [⟨4, .zero, e.id, e.ticket, e.time⟩]).1, [], (rWrM (lastN n) [⟨4, .zero, e.id, e.ticket, e.time⟩]).2)
structure RecsOK (n : Nod) (e : Evt) : Prop where
 put : e.kind = 1 → ∀ r ∈ (putM n.dur n.self n.quota e.item e.time).1, recErr r = 0
 id : e.kind = 3 ∨ e.kind = 6 → recErr ⟨2, .zero, e.id, 0, e.time⟩ = 0
 due : e.kind = 4 → ∀ o ∈ (dueM n.ofs e.time).1, recErr ⟨2, .zero, o.id, 0, e.time⟩ = 0
 exp : e.kind = 5 → ∀ x ∈ n.dur.items, recErr ⟨2, .zero, x.id, 0, e.time⟩ = 0
 tick : e.kind = 7 → recErr ⟨4, .zero, e.id, e.ticket, e.time⟩ = 0
end Go.Proofs.YtggjngbighkdgaaGreat

namespace Go.Proofs.YtggjngbighkdgaaGreat
open Go.Sy Go.Mb
set_option maxRecDepth 100000
set_option maxHeartbeats 4000000
theorem chkS_zero (l : List Ofr) : ∀ (n k : Nat), chkS l n k = 0 ↔ ∀ i, k ≤ i → i < k + n → vOf (l.getD i default) = true ∧ (0 < i → ltO (l.getD (i - 1) default) (l.getD i default) = true)
 | 0, k => by unfold chkS; simp; intro i h1 h2; omega
 | n + 1, k => by
  unfold chkS
  have ih := chkS_zero l n (k + 1)
  constructor
  ·intro h i h1 h2
   split at h
   ·cases h
   rename_i a1
   split at h
   ·cases h
   rename_i a2
   rcases Nat.eq_or_lt_of_le h1 with e | e
   ·subst e
    refine ⟨by simpa using a1, fun hk => ?_⟩
    simp only [Bool.and_eq_true, decide_eq_true_eq, Bool.not_eq_true', not_and, Bool.not_eq_false] at a2
    exact a2 hk
   ·exact ih.1 h i e (by omega)
  ·intro h
   obtain ⟨a1, a2⟩ := h k (Nat.le_refl _) (by omega)
   rw [if_neg (by rw [a1]; decide), if_neg]
   ·exact ih.2 fun i h1 h2 => h i (by omega) (by omega)
   ·simp only [Bool.and_eq_true, decide_eq_true_eq, Bool.not_eq_true', not_and, Bool.not_eq_false]
    exact a2
def Ofs (l : List Ofr) : Prop := l.length ≤ 64 ∧ (∀ o ∈ l, vOf o = true) ∧ l.Pairwise ofLt
theorem ofs_iff (l : List Ofr) : chkO l = 0 ↔ Ofs l := by
 unfold chkO Ofs
 constructor
 ·intro h
  split at h
  ·cases h
  rename_i hl
  have hl : l.length ≤ 64 := by simp only [decide_eq_true_eq] at hl; omega
  have hs := (chkS_zero l l.length 0).1 h
  refine ⟨hl, fun o ho => ?_, ?_⟩
  ·obtain ⟨i, hi, rfl⟩ := List.getElem_of_mem ho
   have := (hs i (Nat.zero_le _) (by omega)).1
   rwa [getD_lt hi] at this
  ·rw [List.pairwise_iff_getElem]
   intro i j hi hj hij
   induction j with
   | zero => omega
   | succ j ih =>
    have h1 := (hs (j + 1) (Nat.zero_le _) (by omega)).2 (by omega)
    rw [show j + 1 - 1 = j from rfl, getD_lt (by omega), getD_lt hj] at h1
    have h1 := ltO_iff.1 h1
    rcases Nat.eq_or_lt_of_le (show i ≤ j by omega) with e | e
    ·subst e; exact h1
    ·exact ofLt_trans (ih (by omega) e) h1
 ·rintro ⟨hl, hv, hp⟩
  rw [if_neg (by simp only [decide_eq_true_eq]; omega)]
  refine (chkS_zero l l.length 0).2 fun i _ hi => ?_
  have hi : i < l.length := by omega
  rw [getD_lt hi]
  refine ⟨hv _ (List.getElem_mem hi), fun h0 => ?_⟩
  rw [getD_lt (by omega)]
  rw [List.pairwise_iff_getElem] at hp
  exact ltO_iff.2 (hp (i - 1) i (by omega) hi (by omega))
theorem Ofs.filter {l : List Ofr} (h : Ofs l) (p : Ofr → Bool) : Ofs (l.filter p) :=
 ⟨Nat.le_trans (List.length_filter_le _ _) h.1, fun o ho => h.2.1 o (List.mem_filter.1 ho).1, h.2.2.sublist List.filter_sublist⟩
end Go.Proofs.YtggjngbighkdgaaGreat

namespace Go.Proofs.YtggjngbighkdgaaGreat
open Go.Sy Go.Mb
set_option maxRecDepth 100000
set_option maxHeartbeats 4000000
theorem drop_get {α : Type} [Inhabited α] {l : List α} {k : Nat} (h : k < l.length) : l.drop k = l.getD k default :: l.drop (k + 1) := by
 rw [getD_lt h]; exact List.drop_eq_getElem_cons h
theorem playG_cons (n : Nod) (out : List Mb.Act) (e : Evt) (l : List Evt) (i : Int) : playG n out (e :: l) i = if (goM n e).2.2 != 0 then (zeroN, [], i, (goM n e).2.2) else playG (goM n e).1 (out ++ (goM n e).2.1) l (i + 1) := rfl
theorem playA_le {R : Nod × List Mb.Act × Int × Int} {n : Nod} {acts : List Mb.Act} {i f : Int} (h : R = (n, acts, i, f)) {x y z w : A} (h1 : LeA x (.agg n.cells)) (h2 : LeA y (slAct acts)) (h3 : LeA z (.int .i64 i)) (h4 : LeA w (.int .i64 f)) : LeA (.tup [x, y, z, w]) (playA R) := by
 subst h; exact LeA.tup4 h1 h2 h3 h4
theorem play_ok (n : Nod) (l : List Evt) (h : Szn n 100) (hl : l.length ≤ 200) : FnOK Tryz.prog 24 [.agg n.cells, slEvt l] (playA (playM n l), none) := by
 unfold playM
 refine fn_ok CF rfl (by kernel_rfl) Tryz.func24 rfl ?_
 refine Sat.go (Eq.refl _) (NS.call (nCheck_ok n (by have := h.1; omega) (by have := h.2.1; omega) (by have := h.2.2.2; omega)) rfl ?_)
 refine Sat.go (Eq.refl _) (NS.ite (fun a1 => ?_) (fun a1 => ?_))
 ·rw [if_pos a1]
  exact Sat.go (Eq.refl _) (NS.ret rfl rfl (LeA.tup4 (zeroN_le rfl) (LeA.nil' rfl) (LeA.refl _) (LeA.refl _)))
 rw [if_neg (by rw [a1]; decide)]
 obtain ⟨R, hR⟩ : ∃ R, R = playG n [] l 0 := ⟨_, rfl⟩
 rw [← hR]
 refine Sat.go (Eq.refl _) ?_
 refine NS.loop (σ := { q : Nat × Nod × List Mb.Act // q.1 ≤ l.length ∧ Szn q.2.1 (100 + q.1) ∧ q.2.2.length ≤ q.1 * 200000 ∧ R = playG q.2.1 q.2.2 (l.drop q.1) (q.1 : Nat) }) (fun q => [(1, slEvt l), (2, .ptr 2 0), (4, .ptr 4 0), (8, .own 8), (18, slEvt l), (19, .int .i64 l.length), (20, .int .i64 (q.1.1 : Nat))]) (fun q => [(2, .box q.1.2.1.cells), (4, .box [.junk, .junk, .junk, .junk, .junk, .junk, .junk, .junk]), (8, .row 63 14 q.1.2.2.length (rowL Mb.Act.cells q.1.2.2))]) (fun q => l.length - q.1.1) ⟨(0, n, []), Nat.zero_le _, h, Nat.zero_le _, hR⟩ ?_ ?_
 ·refine (weak_promote 8 8 63 14 (rowL Mb.Act.cells []) rfl rfl).trans ?_
  exact weak_hd [] rfl ⟨rfl, rfl, rfl, rfl, rfl, rfl, rfl, trivial⟩ ⟨⟨_, rfl, renNod _ _⟩, ⟨_, rfl, ⟨_, _, rfl, trivial, _, _, rfl, trivial, _, _, rfl, trivial, _, _, rfl, trivial, _, _, rfl, trivial, _, _, rfl, trivial, _, _, rfl, trivial, _, _, rfl, trivial, rfl⟩⟩, ren_row rfl rfl fun _ _ _ _ => rfl, trivial⟩ trivial (by kernel_rfl)
 rintro ⟨⟨k, m, out⟩, hk, hz, ho, hp⟩
 have hk : k ≤ l.length := hk
 have hz : Szn m (100 + k) := hz
 have ho : out.length ≤ k * 200000 := ho
 have hp : R = playG m out (l.drop k) (k : Nat) := hp
 refine Sat.go (Eq.refl _) (NS.ite (fun a2 => ?_) (fun a2 => ?_))
 ·have a2 : k < l.length := by simpa using a2
  obtain ⟨g1, g2⟩ := hz.go (by omega) (l.getD k default)
  refine Sat.go (Eq.refl _) (NS.need (by simp; omega) ?_)
  refine Sat.go (Eq.refl _) (NS.call (handle_ok m (l.getD k default) (by have := hz.1; omega) (by have := hz.2.1; omega) hz.2.2.1 (by have := hz.2.2.2; omega)) rfl ?_)
  rw [drop_get a2] at hp
  rw [playG_cons] at hp
  refine Sat.go (Eq.refl _) (NS.ite (fun a3 => ?_) (fun a3 => ?_))
  ·rw [if_pos a3] at hp
   exact Sat.go (Eq.refl _) (NS.leaveOut rfl (Eq.refl _) (NS.ret rfl rfl (playA_le hp (zeroN_le rfl) (LeA.nil' rfl) (LeA.refl _) (LeA.refl _))))
  ·rw [if_neg (by rw [a3]; decide)] at hp
   refine Sat.go (Eq.refl _) (NS.chk (by kernel_rfl) ?_)
   refine Sat.go (Eq.refl _) (NS.need (decide_eq_true (by simp only [maxRow]; show (out.length + (goM m (l.getD k default)).2.1.length) * _ ≤ _; omega)) ?_)
   refine Sat.go (Eq.refl _) (NS.next ⟨(k + 1, (goM m (l.getD k default)).1, out ++ (goM m (l.getD k default)).2.1), by show k + 1 ≤ l.length; omega, by have := g1; exact this, by show (out ++ _).length ≤ (k + 1) * 200000; simp only [List.length_append]; omega, by rw [hp]; show _ = playG _ _ _ ((k + 1 : Nat) : Int); rw [show ((k + 1 : Nat) : Int) = (k : Int) + 1 from rfl]⟩ (by show l.length - (k + 1) < l.length - k; omega) ?_)
   exact weak_hd [(8, 40)] rfl ⟨rfl, rfl, rfl, rfl, rfl, rfl, ren_int rfl (i64_k (k := k) (by omega) (by omega)), trivial⟩ ⟨⟨_, rfl, renNod _ _⟩, ⟨_, rfl, ⟨_, _, rfl, trivial, _, _, rfl, trivial, _, _, rfl, trivial, _, _, rfl, trivial, _, _, rfl, trivial, _, _, rfl, trivial, _, _, rfl, trivial, _, _, rfl, trivial, rfl⟩⟩, ren_row rfl (by show out.length + _ = (out ++ _).length; simp) (fun i hi j hj => rowL_append Mb.Act.cells out _ i j), trivial⟩ trivial (by kernel_rfl)
 ·have a2 : ¬ k < l.length := by simpa using a2
  obtain rfl : k = l.length := by omega
  refine Sat.go (Eq.refl _) (NS.leave rfl (Eq.refl _) ?_)
  have hp2 : R = (m, out, (l.length : Int), 0) := by rw [hp, List.drop_length]; rfl
  exact Sat.go (Eq.refl _) (NS.ret rfl rfl (playA_le hp2 (LeA.refl _) (LeA.refl _) (LeA.refl _) (LeA.refl _)))
end Go.Proofs.YtggjngbighkdgaaGreat

namespace Go.Proofs.YtggjngbighkdgaaGreat
open Go.Sy Go.Mb
set_option maxRecDepth 100000
set_option maxHeartbeats 4000000
theorem jrn_ok {n : Nod} (h : (n.jour.size : Int) ≤ 65536) : (rdJA (ls n.jour)).2.2 = 0 ∧ (rdJA (ls n.jour)).1 = (rdJ (ls n.jour)).1 ∧ (rdJA (ls n.jour)).2.1 = (rdJ (ls n.jour)).2 ∧ (jrnD n).2 = 0 ∧ (jrnD n).1 = effs (rdJ (ls n.jour)).1 ⟨[], []⟩ ∧ Good (jrnD n).1 ∧ ∀ r ∈ (rdJ (ls n.jour)).1, recErr r = 0 := by
 have hl := ls_len n.jour
 have e : rdJA (ls n.jour) = ((rdJ (ls n.jour)).1, (rdJ (ls n.jour)).2, 0) := by
  unfold rdJA
  rw [if_neg (by rw [decide_eq_true_eq]; omega)]
 obtain ⟨_, hr⟩ := rdJ_le (ls n.jour).length rfl (ls_lt n.jour)
 have hf : foldM (rdJ (ls n.jour)).1 = (effs (rdJ (ls n.jour)).1 ⟨[], []⟩, 0) := by
  unfold foldM
  rw [if_neg]
  rw [List.any_eq_true]
  rintro ⟨r, hr1, hr2⟩
  unfold badRec at hr2
  rw [hr r hr1] at hr2
  cases hr2
 have hj : jrnD n = (effs (rdJ (ls n.jour)).1 ⟨[], []⟩, 0) := by unfold jrnD; rw [e, hf]
 refine ⟨by rw [e], by rw [e], by rw [e], by rw [hj], by rw [hj], ?_, hr⟩
 rw [hj]
 exact good_effs good_nil hr
theorem chk_eq (n : Nod) (h1 : n.dur.items.length ≤ 1000000) (h2 : n.dur.inbox.length ≤ 1000000) (h3 : n.ofs.length ≤ 1000000) : rchkN n = chkN n := by
 unfold rchkN chkN
 split
 ·rfl
 rename_i hr
 have hq : inR n.quota 0 1073741824 = true := by
  cases h : inR n.quota 0 1073741824
  ·rw [h] at hr; simp at hr
  ·rfl
 by_cases hs : (n.jour.size : Int) > 65536
 ·rw [if_pos (by simpa using hs), if_pos (by simp [hs])]
 rw [if_neg (by simpa using hs)]
 cases hu : n.up with
 | false =>
  unfold emptyN
  rw [wrap_i64 (n := (n.dur.items.length : Int) + (n.dur.inbox.length : Int)) (by omega) (by omega), wrap_i64 (by omega) (by omega)]
  by_cases hz : (n.dur.items.length : Int) + (n.dur.inbox.length : Int) + (n.ofs.length : Int) = 0
  ·simp [hs, hz]
  ·rw [if_pos (by decide), if_pos (by omega), if_pos]
   simp [hz]
 | true =>
  obtain ⟨j1, j2, j3, j4, j5, j6, j7⟩ := jrn_ok (n := n) (by omega)
  have hg := (good_iff _).2 j6
  have hst : storedM n = ((((rdJA (ls n.jour)).2.1 : Nat) : Int) == (n.jour.size : Int) && sameD (jrnD n).1 n.dur && !decide (usedM (jrnD n).1.items > n.quota) && chkO n.ofs == 0 && !n.ofs.any fun o => !(findM (jrnD n).1 o.id).2) := by
   unfold storedM sameD
   rw [j1, j4]
   have hc : (checkQ (jrnD n).1 n.quota == 0) = !decide (usedM (jrnD n).1.items > n.quota) := by
    unfold checkQ
    rw [if_pos hq, hg]
    by_cases h : usedM (jrnD n).1.items > n.quota
    ·simp [h]
    ·simp [h]
   rw [hc]
   simp [Bool.and_assoc]
  rw [if_neg (by decide), hst]
  by_cases e1 : (((rdJA (ls n.jour)).2.1 : Nat) : Int) = (n.jour.size : Int)
  ·cases e2 : sameD (jrnD n).1 n.dur
   ·simp [e1]
   ·by_cases e3 : usedM (jrnD n).1.items > n.quota
    ·simp [e1, e3]
    ·by_cases e4 : chkO n.ofs = 0
     ·cases e5 : n.ofs.any fun o => !(findM (jrnD n).1 o.id).2
      ·simp [e1, e3, e4, hs]
      ·simp [e1, e3, e4]
     ·simp [e1, e3, e4]
  ·simp [e1]
end Go.Proofs.YtggjngbighkdgaaGreat

namespace Go.Proofs.YtggjngbighkdgaaGreat
open Go.Sy Go.Mb
set_option maxRecDepth 100000
set_option maxHeartbeats 4000000
structure OkJ (n : Nod) : Prop where
 sz : n.jour.size ≤ 65536
 rd : (rdJ (ls n.jour)).2 = n.jour.size
 du : effs (rdJ (ls n.jour)).1 ⟨[], []⟩ = n.dur
theorem OkJ.good {n : Nod} (h : OkJ n) : Good n.dur := by
 have hs := h.sz
 obtain ⟨_, _, _, _, j5, j6, _⟩ := jrn_ok (n := n) (by omega)
 rw [← h.du, ← j5]; exact j6
structure Val (n : Nod) : Prop where
 j : OkJ n
 up : n.up = true
 se : inR n.self 0 15 = true
 qu : inR n.quota 0 1073741824 = true
 la : inR n.last 0 (n.jour.size : Int) = true
 us : usedM n.dur.items ≤ n.quota
 of : chkO n.ofs = 0
 fd : ∀ o ∈ n.ofs, (findM n.dur o.id).2 = true
theorem val_iff (n : Nod) : (chkN n = 0 ∧ n.up = true) ↔ Val n := by
 constructor
 ·rintro ⟨h, hu⟩
  unfold chkN at h
  split at h
  ·cases h
  rename_i hr
  split at h
  ·cases h
  rename_i hs
  simp only [Bool.or_eq_true, Bool.not_eq_true', not_or, Bool.not_eq_false] at hr
  obtain ⟨⟨r1, r2⟩, r3⟩ := hr
  rw [hu] at hs
  have hsz : (n.jour.size : Int) ≤ 65536 := by
   simp only [Bool.or_eq_true, decide_eq_true_eq, not_or] at hs
   omega
  have hst : storedM n = true := by
   cases q : storedM n
   ·rw [q] at hs; simp at hs
   ·rfl
  obtain ⟨j1, j2, j3, j4, j5, j6, j7⟩ := jrn_ok hsz
  unfold storedM at hst
  simp only [Bool.and_eq_true, beq_iff_eq, Bool.not_eq_true'] at hst
  obtain ⟨⟨⟨⟨⟨⟨⟨a1, a2⟩, a3⟩, a4⟩, a5⟩, a6⟩, a7⟩, a8⟩ := hst
  have hd : (jrnD n).1 = n.dur := by
   have := sameD_iff (a := (jrnD n).1) (b := n.dur)
   refine this.1 ?_
   unfold sameD
   rw [a4, a5]; rfl
  refine ⟨⟨by omega, by rw [← j3]; omega, by rw [← j5, hd]⟩, hu, r1, r2, r3, ?_, a7, fun o ho => ?_⟩
  ·unfold checkQ at a6
   rw [if_pos r2, (good_iff _).2 j6] at a6
   simp only [bne_self_eq_false, Bool.false_eq_true, if_false] at a6
   rw [hd] at a6
   split at a6
   ·cases a6
   ·omega
  ·rw [List.any_eq_false] at a8
   have := a8 o ho
   rw [hd] at this
   simpa using this
 ·rintro ⟨⟨sz, rd, du⟩, up, se, qu, la, us, of, fd⟩
  refine ⟨?_, up⟩
  obtain ⟨j1, j2, j3, j4, j5, j6, j7⟩ := jrn_ok (n := n) (by omega)
  have hd : (jrnD n).1 = n.dur := by rw [j5, du]
  have hst : storedM n = true := by
   unfold storedM
   rw [j1, j3, rd, j4, hd]
   have e1 : sameBy Itm.eqv n.dur.items n.dur.items = true := (sameBy_iff (fun _ _ => Itm.eqv_iff)).2 rfl
   have e2 : sameBy Itm.eqv n.dur.inbox n.dur.inbox = true := (sameBy_iff (fun _ _ => Itm.eqv_iff)).2 rfl
   have e3 : checkQ n.dur n.quota = 0 := by
    unfold checkQ
    rw [if_pos qu, (good_iff _).2 (by rw [← hd]; exact j6), if_neg (by decide), if_neg (by omega)]
   have e4 : (n.ofs.any fun o => !(findM n.dur o.id).2) = false := by
    rw [List.any_eq_false]
    intro o ho
    rw [fd o ho]; decide
   rw [e1, e2, e3, of, e4]
   simp
  unfold chkN
  rw [se, qu, la, up, hst, if_neg (by decide), if_neg]
  simp; omega
theorem OkJ.wr {n : Nod} (h : OkJ n) {r : Jrec} (hr : recErr r = 0) :
  wr n r = (n, 4) ∨ (wr n r = (wrN n r, 0) ∧ OkJ (wrN n r) ∧ (wrN n r).dur = effM n.dur r ∧ ls (wrN n r).jour = ls n.jour ++ sealL (conL r) ∧ 0 < (sealL (conL r)).length) := by
 have hg := (good_iff _).2 h.good
 have ha : applyM n.dur r = (effM n.dur r, 0) := by unfold applyM; rw [hg, hr]; rfl
 unfold Go.Proofs.YtggjngbighkdgaaGreat.wr
 by_cases h1 : (appM (ls n.jour) [r]).2 = 0
 ·right
  rw [if_neg (by simp [h1]), if_neg (by rw [ha]; simp)]
  have h2 : (encRM r).2 = 0 := by
   cases q : decide ((encRM r).2 = 0)
   ·have q := of_decide_eq_false q
    exfalso
    unfold appM appJ at h1
    simp [q] at h1
   ·exact of_decide_eq_true q
  obtain ⟨_, hl, he⟩ := encRM_ok h2
  have e1 : appJ (ls n.jour) [r] = (ls n.jour ++ sealL (conL r), 0) := by
   unfold appJ
   rw [if_neg (by simp [h2]), he]
   rfl
  have e2 : (ls n.jour ++ sealL (conL r)).length ≤ 65536 := by
   have := appM_le h1
   unfold appM at this h1
   rw [e1] at this h1
   simp only [bne_self_eq_false, Bool.false_eq_true, if_false] at this h1
   split at h1
   ·cases h1
   ·rename_i q
    simp only [decide_eq_true_eq] at q
    omega
  have e3 : (appM (ls n.jour) [r]).1 = ls n.jour ++ sealL (conL r) := by
   unfold appM
   rw [e1]
   simp only [bne_self_eq_false, Bool.false_eq_true, if_false]
   rw [if_neg (by simp only [decide_eq_true_eq]; omega)]
  have e4 : ls (wrN n r).jour = ls n.jour ++ sealL (conL r) := by
   show ls (bs (appM (ls n.jour) [r]).1) = _
   rw [e3, ls_bs]
   intro x hx
   rcases List.mem_append.1 hx with hx | hx
   ·exact ls_lt _ x hx
   ·rw [← he] at hx; exact encRM_lt r x hx
  have e5 := rdJ_snoc (ls n.jour).length rfl (ls_lt n.jour) (by rw [h.rd, ls_len]) hr hl
  refine ⟨rfl, ⟨?_, ?_, ?_⟩, ?_, e4, ?_⟩
  ·rw [← ls_len, e4]; exact e2
  ·rw [e4, e5, ← ls_len, e4]
  ·rw [e4, e5, effs_snoc, h.du]
   show effM n.dur r = (applyM n.dur r).1
   rw [ha]
  ·show (applyM n.dur r).1 = _
   rw [ha]
  ·have := fstJ_enc hr hl []
   have h9 := fstJ_ok (l := sealL (conL r) ++ []) (by
    intro x hx
    rw [List.append_nil, ← he] at hx
    exact encRM_lt r x hx) this
   exact h9.2.1
 ·left
  rw [if_pos (by simpa using h1)]
end Go.Proofs.YtggjngbighkdgaaGreat

namespace Go.Proofs.YtggjngbighkdgaaGreat
open Go.Sy Go.Mb
set_option maxRecDepth 100000
set_option maxHeartbeats 4000000
theorem find_iff (d : Dur) (id : Nid) : (findM d id).2 = true ↔ ∃ x ∈ d.items, x.id = id := by
 unfold findM
 rcases idx_cases (hasId id) d.items with ⟨h1, h2⟩ | ⟨k, hk, h1, h2, _⟩
 ·rw [if_neg (by omega)]
  constructor
  ·intro h; cases h
  ·rintro ⟨x, hx, rfl⟩
   have := h2 x hx
   rw [hasId_self] at this; cases this
 ·rw [if_pos (by omega)]
  refine ⟨fun _ => ⟨d.items.getD k default, by rw [getD_lt hk]; exact List.getElem_mem hk, Nid.eqv_iff.1 h2⟩, fun _ => rfl⟩
theorem find_mem {d : Dur} {id : Nid} (h : (findM d id).2 = true) : (findM d id).1 ∈ d.items ∧ (findM d id).1.id = id := by
 unfold findM at h ⊢
 rcases idx_cases (hasId id) d.items with ⟨h1, _⟩ | ⟨k, hk, h1, h2, _⟩
 ·rw [if_neg (by omega)] at h; cases h
 ·rw [if_pos (by omega), h1]
  show d.items.getD k default ∈ _ ∧ (d.items.getD k default).id = _
  exact ⟨by rw [getD_lt hk]; exact List.getElem_mem hk, Nid.eqv_iff.1 h2⟩
theorem find_eq {d : Dur} (hu : Uniq d.items) {x : Itm} (hx : x ∈ d.items) : findM d x.id = (x, true) := by
 have h : (findM d x.id).2 = true := (find_iff _ _).2 ⟨x, hx, rfl⟩
 obtain ⟨h1, h2⟩ := find_mem h
 have e : (findM d x.id).1 = x := by
  obtain ⟨i, hi, e1⟩ := List.getElem_of_mem h1
  obtain ⟨j, hj, e2⟩ := List.getElem_of_mem hx
  rw [uniq_get] at hu
  rcases Nat.lt_trichotomy i j with hij | hij | hij
  ·exact absurd (by rw [e1, e2, h2]) (hu i j hi hj hij)
  ·subst hij; rw [← e1, e2]
  ·exact absurd (by rw [e1, e2, h2]) (hu j i hj hi hij)
 exact Prod.ext e h
end Go.Proofs.YtggjngbighkdgaaGreat

namespace Go.Proofs.YtggjngbighkdgaaGreat
open Go.Sy Go.Mb
set_option maxRecDepth 100000
set_option maxHeartbeats 4000000
theorem effs_one (d : Dur) (r : Jrec) : effs [r] d = effM d r := rfl
theorem wr_both {n : Nod} (h : OkJ n) {r : Jrec} (hr : recErr r = 0) :
  (wr n r = (n, 4) ∧ rWrM n [r] = (n, 4)) ∨ (wr n r = (wrN n r, 0) ∧ rWrM n [r] = ({ wrN n r with last := n.last }, 0) ∧ OkJ (wrN n r) ∧ (wrN n r).dur = effM n.dur r ∧ ls (wrN n r).jour = ls n.jour ++ sealL (conL r) ∧ 0 < (sealL (conL r)).length) := by
 have hg := (good_iff _).2 h.good
 have ha : applyM n.dur r = (effM n.dur r, 0) := by unfold applyM; rw [hg, hr]; rfl
 rcases h.wr hr with e | ⟨e1, e2, e3, e4, e5⟩
 ·left
  refine ⟨e, ?_⟩
  unfold wr at e
  unfold rWrM
  by_cases q : ((appM (ls n.jour) [r]).2 != 0) = true
  ·rw [if_pos q]
  ·rw [if_neg q, if_neg (by rw [ha]; simp)] at e
   exact absurd (congrArg Prod.snd e) (show ¬ (0 : Int) = 4 by decide)
 ·right
  refine ⟨e1, ?_, e2, e3, e4, e5⟩
  unfold wr at e1
  unfold rWrM
  by_cases q : ((appM (ls n.jour) [r]).2 != 0) = true
  ·rw [if_pos q] at e1
   exact absurd (congrArg Prod.snd e1) (show ¬ (4 : Int) = 0 by decide)
  ·rw [if_neg q, effs_one, ← e3]
   rfl
theorem last_same {n : Nod} {r : Jrec} (hk : r.kind = 2 ∨ r.kind = 4) : ({ wrN n r with last := n.last } : Nod) = wrN n r := by
 have : (wrN n r).last = n.last := by
  unfold wrN
  rcases hk with hk | hk <;> simp [hk]
 rw [← this]
theorem OkJ.congr {n m : Nod} (h : OkJ n) (h1 : m.jour = n.jour) (h2 : m.dur = n.dur) : OkJ m := ⟨by rw [h1]; exact h.sz, by rw [h1]; exact h.rd, by rw [h1, h2]; exact h.du⟩
theorem used_le {l : List Itm} (hl : ∀ x ∈ l, okItem x = true) (hn : l.length ≤ 1000000) (p : Itm → Bool) : usedM (l.filter p) ≤ usedM l := by
 have hd : ∀ x ∈ l, x.data.size ≤ 65536 := fun x hx => by
  have := itemErr_zero (x := x) (by simpa [okItem] using hl x hx)
  have := inR_iff.1 this.2.2.2.2.2
  omega
 have hf : (l.filter p).length ≤ l.length := List.length_filter_le _ _
 have e1 := used_sum l hd 0 (Int.le_refl _) (by omega)
 have e2 := used_sum (l.filter p) (fun x hx => hd x (List.mem_filter.1 hx).1) 0 (Int.le_refl _) (by omega)
 unfold usedM
 rw [e1, e2]
 have h3 : usedS (l.filter p) ≤ usedS l := by
  unfold usedS
  clear e1 e2 hf hd hl hn
  induction l with
  | nil => exact Int.le_refl _
  | cons x l ih =>
   rw [List.filter_cons]
   split
   ·simp only [List.map_cons, List.sum_cons]; omega
   ·simp only [List.map_cons, List.sum_cons]; omega
 omega
theorem items_len {n : Nod} (h : OkJ n) : n.dur.items.length ≤ 65536 ∧ n.dur.inbox.length ≤ 65536 := by
 have hs := h.sz
 obtain ⟨_, _, _, _, j5, _, _⟩ := jrn_ok (n := n) (by omega)
 have := jrnD_len n
 rw [j5, h.du] at this
 exact this
theorem filter_id {d : Dur} {x : Itm} (y : Itm) : (y ∈ d.items.filter (notId x.id)) ↔ y ∈ d.items ∧ y.id ≠ x.id := by
 rw [List.mem_filter]
 unfold notId hasId
 simp only [Bool.not_eq_true', ← Bool.not_eq_true, Nid.eqv_iff]
theorem Val.removed {n m : Nod} (h : Val n) {x : Itm} (hx : x ∈ n.dur.items) (hj : OkJ m) (hd : m.dur = ⟨n.dur.items.filter (notId x.id), n.dur.inbox⟩) (ho : m.ofs = n.ofs.filter (nt (ofId x.id))) (hs : m.self = n.self) (hq : m.quota = n.quota) (hu : m.up = n.up) (hl : inR m.last 0 (m.jour.size : Int) = true) : Val m := by
 have hlen := items_len h.j
 refine ⟨hj, by rw [hu]; exact h.up, by rw [hs]; exact h.se, by rw [hq]; exact h.qu, hl, ?_, ?_, fun o hom => ?_⟩
 ·rw [hd, hq]
  exact Int.le_trans (used_le h.j.good.1 (by omega) _) h.us
 ·rw [ho]
  exact (ofs_iff _).2 (((ofs_iff _).1 h.of).filter _)
 ·rw [ho, List.mem_filter] at hom
  obtain ⟨o1, o2⟩ := hom
  obtain ⟨y, y1, y2⟩ := (find_iff _ _).1 (h.fd o o1)
  rw [hd]
  refine (find_iff _ _).2 ⟨y, (filter_id y).2 ⟨y1, fun e => ?_⟩, y2⟩
  unfold nt ofId at o2
  rw [← y2, e, Nid.eqv_iff.2 rfl] at o2
  cases o2
def Agr (w w' : Wst) (r : Nod × List Mb.Act × Int) : Prop :=
 OkJ w'.n ∧ ((w'.err = 4 ∧ r.2.2 = 4) ∨ (w'.err = 0 ∧ r.2.2 = 0 ∧ r.1 = w'.n ∧ w'.acts = w.acts ++ r.2.1 ∧ Val w'.n))
theorem remove_agr {w : Wst} (h : Val w.n) (he : w.err = 0) {x : Itm} (hx : x ∈ w.n.dur.items) {t : Int} (ht : inR t 0 1099511627776 = true) :
  Agr w (w.remove t x) (rRemM w.n x.id t) ∧ ((w.remove t x).err = 0 → (w.remove t x).n.dur = ⟨w.n.dur.items.filter (notId x.id), w.n.dur.inbox⟩ ∧ ∃ s, ls (w.remove t x).n.jour = ls w.n.jour ++ s) := by
 have hid : validId x.id = true := ok_id (h.j.good.1 x hx)
 have hr := recErr2 hid ht
 have hf : (findM w.n.dur x.id).1 = x := by rw [find_eq h.j.good.2.2.1 hx]
 rcases wr_both h.j hr with ⟨e1, e2⟩ | ⟨e1, e2, e3, e4, e5, e6⟩
 ·have ee : (w.remove t x).err = 4 := by
   show (if (wr w.n ⟨2, .zero, x.id, 0, t⟩).2 != 0 then (wr w.n ⟨2, .zero, x.id, 0, t⟩).2 else w.err) = 4
   rw [e1]; rfl
  refine ⟨⟨?_, .inl ⟨ee, ?_⟩⟩, fun q => by rw [ee] at q; cases q⟩
  ·refine h.j.congr ?_ ?_
   ·show (wr w.n ⟨2, .zero, x.id, 0, t⟩).1.jour = _; rw [e1]
   ·show (wr w.n ⟨2, .zero, x.id, 0, t⟩).1.dur = _; rw [e1]
  ·show (rWrM w.n [⟨2, .zero, x.id, 0, t⟩]).2 = 4
   rw [e2]
 ·have hn : (w.remove t x).n = { wrN w.n ⟨2, .zero, x.id, 0, t⟩ with ofs := w.n.ofs.filter (nt (ofId x.id)) } := by
   show ({ (wr w.n ⟨2, .zero, x.id, 0, t⟩).1 with ofs := (wr w.n ⟨2, .zero, x.id, 0, t⟩).1.ofs.filter (nt (ofId x.id)) } : Nod) = _
   rw [e1]
   rfl
  have hj : OkJ (w.remove t x).n := by rw [hn]; exact e3.congr rfl rfl
  have hd : (w.remove t x).n.dur = ⟨w.n.dur.items.filter (notId x.id), w.n.dur.inbox⟩ := by rw [hn]; exact e4
  have hjr : ls (w.remove t x).n.jour = ls w.n.jour ++ sealL (conL ⟨2, .zero, x.id, 0, t⟩) := by rw [hn]; exact e5
  have ee : (w.remove t x).err = 0 := by
   show (if (wr w.n ⟨2, .zero, x.id, 0, t⟩).2 != 0 then (wr w.n ⟨2, .zero, x.id, 0, t⟩).2 else w.err) = 0
   rw [e1]; exact he
  have hlast : (w.remove t x).n.last = w.n.last := by rw [hn]; rfl
  have hsz : w.n.jour.size ≤ (w.remove t x).n.jour.size := by
   rw [← ls_len, ← ls_len (w.remove t x).n.jour, hjr, List.length_append]; omega
  refine ⟨⟨hj, .inr ⟨ee, ?_, ?_, ?_, ?_⟩⟩, fun _ => ⟨hd, _, hjr⟩⟩
  ·show (rWrM w.n [⟨2, .zero, x.id, 0, t⟩]).2 = 0
   rw [e2]
  ·show ({ (rWrM w.n [⟨2, .zero, x.id, 0, t⟩]).1 with ofs := w.n.ofs.filter (nt (ofId x.id)) } : Nod) = _
   rw [e2, hn, last_same (.inl rfl)]
  ·show w.acts ++ [_] = w.acts ++ [_]
   rw [hf]
  ·refine h.removed hx hj hd (by rw [hn]) (by rw [hn]; rfl) (by rw [hn]; rfl) (by rw [hn]; rfl) ?_
   rw [hlast]
   have := inR_iff.1 h.la
   exact inR_iff.2 ⟨this.1, by omega⟩
theorem remove_err {w : Wst} (h : OkJ w.n) (he : w.err = 4) {x : Itm} (hx : x ∈ w.n.dur.items) {t : Int} (ht : inR t 0 1099511627776 = true) : OkJ (w.remove t x).n ∧ (w.remove t x).err = 4 := by
 have hid : validId x.id = true := ok_id (h.good.1 x hx)
 have hr := recErr2 hid ht
 rcases h.wr hr with e1 | ⟨e1, e3, _⟩
 ·refine ⟨h.congr ?_ ?_, ?_⟩
  ·show (wr w.n ⟨2, .zero, x.id, 0, t⟩).1.jour = _; rw [e1]
  ·show (wr w.n ⟨2, .zero, x.id, 0, t⟩).1.dur = _; rw [e1]
  ·show (if (wr w.n ⟨2, .zero, x.id, 0, t⟩).2 != 0 then (wr w.n ⟨2, .zero, x.id, 0, t⟩).2 else w.err) = 4
   rw [e1]; rfl
 ·refine ⟨e3.congr ?_ ?_, ?_⟩
  ·show (wr w.n ⟨2, .zero, x.id, 0, t⟩).1.jour = _; rw [e1]
  ·show (wr w.n ⟨2, .zero, x.id, 0, t⟩).1.dur = _; rw [e1]
  ·show (if (wr w.n ⟨2, .zero, x.id, 0, t⟩).2 != 0 then (wr w.n ⟨2, .zero, x.id, 0, t⟩).2 else w.err) = 4
   rw [e1]; exact he
theorem settle_agr {w : Wst} (h : Val w.n) (he : w.err = 0) {id : Nid} (hf : (findM w.n.dur id).2 = true) {t : Int} (ht : inR t 0 1099511627776 = true) (s a : Bool) :
  Agr w (w.settle t id s a) (rEndM w.n id s a t) ∧ ((w.settle t id s a).err = 0 → ((w.settle t id s a).n = w.n ∨ ∃ x ∈ w.n.dur.items, x.id = id ∧ (w.settle t id s a).n.dur = ⟨w.n.dur.items.filter (notId id), w.n.dur.inbox⟩) ∧ ∃ s', ls (w.settle t id s a).n.jour = ls w.n.jour ++ s') := by
 obtain ⟨hx, hi⟩ := find_mem hf
 unfold Wst.settle rEndM
 rw [if_neg (by rw [hf]; decide)]
 by_cases q : (decM (findM w.n.dur id).1.custody s a == 3) = true
 ·rw [if_pos q, if_pos q]
  exact ⟨⟨h.j, .inr ⟨he, rfl, rfl, rfl, h⟩⟩, fun _ => ⟨.inl rfl, [], by rw [List.append_nil]; rfl⟩⟩
 ·rw [if_neg q, if_neg q]
  obtain ⟨h1, h2⟩ := remove_agr h he hx ht
  rw [hi] at h1 h2
  exact ⟨h1, fun e => ⟨.inr ⟨_, hx, hi, (h2 e).1⟩, (h2 e).2⟩⟩
theorem settle_err {w : Wst} (h : OkJ w.n) (he : w.err = 4) (id : Nid) {t : Int} (ht : inR t 0 1099511627776 = true) (s a : Bool) : OkJ (w.settle t id s a).n ∧ (w.settle t id s a).err = 4 := by
 unfold Wst.settle
 by_cases hf : (findM w.n.dur id).2 = true
 ·rw [if_neg (by rw [hf]; decide)]
  split
  ·exact ⟨h, he⟩
  ·exact remove_err h he (find_mem hf).1 ht
 ·rw [if_pos (by simpa using hf)]
  exact ⟨h, he⟩
end Go.Proofs.YtggjngbighkdgaaGreat

namespace Go.Proofs.YtggjngbighkdgaaGreat
open Go.Sy Go.Mb
set_option maxRecDepth 100000
set_option maxHeartbeats 4000000
def Fin (w : Wst) (r : Nod × List Mb.Act × Int) : Prop := OkJ w.n ∧ ((w.err = 4 ∧ r.2.2 = 4) ∨ (w.err = 0 ∧ r = (w.n, w.acts, 0) ∧ Val w.n))
theorem Agr.fin {w w' : Wst} {r : Nod × List Mb.Act × Int} (h : Agr w w' r) (ha : w.acts = []) : Fin w' r := by
 obtain ⟨h1, h2⟩ := h
 refine ⟨h1, ?_⟩
 rcases h2 with h2 | ⟨e1, e2, e3, e4, e5⟩
 ·exact .inl h2
 ·refine .inr ⟨e1, ?_, e5⟩
  obtain ⟨a, b, c⟩ := r
  simp only at e2 e3 e4
  rw [e4, ha, e2, e3, List.nil_append]
theorem Val.fin {w : Wst} (h : Val w.n) (ha : w.acts = []) (he : w.err = 0) : Fin w (w.n, [], 0) := ⟨h.j, .inr ⟨he, by rw [ha], h⟩⟩
theorem any_ofAt {l : List Ofr} {x : Nid} {c : Int} (hc : c ≠ -1) : (0 ≤ idx (ofAt x c) l) ↔ l.any (ofKey x c) = true := by
 have e : ofAt x c = ofKey x c := by
  funext o
  unfold ofAt ofKey
  rw [show (c == -1) = false by simpa using hc, Bool.false_or]
 rw [e, ← idx_any]
 simp
theorem any_ofAt1 {l : List Ofr} {x : Nid} : (idx (ofAt x (-1)) l = -1) ↔ l.any (ofId x) = false := by
 have e : ofAt x (-1) = ofId x := by
  funext o
  unfold ofAt ofId
  simp
 rw [e]
 rcases idx_cases (ofId x) l with ⟨h1, h2⟩ | ⟨k, hk, h1, h2, _⟩
 ·rw [h1]
  simp only [true_iff]
  rw [List.any_eq_false]
  intro p hp; rw [h2 p hp]; decide
 ·rw [h1]
  constructor
  ·intro h; omega
  ·intro h
   rw [List.any_eq_false] at h
   have := h (l.getD k default) (by rw [getD_lt hk]; exact List.getElem_mem hk)
   exact absurd h2 this
theorem ofLt_tri {a b : Ofr} (h : ¬ ofLt a b) (hk : ofKey b.id b.contact a = false) : ofLt b a := by
 unfold ofLt at h ⊢
 rcases idLt_tri a.id b.id with q | q | q
 ·exact absurd (.inl q) h
 ·exact .inl q
 ·right
  refine ⟨q.symm, ?_⟩
  have h1 : ¬ a.contact < b.contact := fun r => h (.inr ⟨q, r⟩)
  have h2 : a.contact ≠ b.contact := by
   intro r
   unfold ofKey at hk
   rw [q, Nid.eqv_iff.2 rfl, r] at hk
   simp at hk
  omega
theorem Ofs.insert {l : List Ofr} (h : Ofs l) {o : Ofr} (hv : vOf o = true) (hn : l.any (ofKey o.id o.contact) = false) (hl : l.length ≠ 64) : Ofs (l.filter (fun p => ltO p o) ++ [o] ++ l.filter (nt fun p => ltO p o)) := by
 obtain ⟨h1, h2, h3⟩ := h
 have ht := filt_two (fun p => ltO p o) l
 refine ⟨by simp only [List.length_append, List.length_singleton]; omega, fun p hp => ?_, ?_⟩
 ·simp only [List.mem_append, List.mem_singleton] at hp
  rcases hp with (hp | hp) | hp
  ·exact h2 p (List.mem_filter.1 hp).1
  ·rw [hp]; exact hv
  ·exact h2 p (List.mem_filter.1 hp).1
 ·have b1 : ∀ p ∈ l.filter (fun p => ltO p o), ofLt p o := fun p hp => ltO_iff.1 (List.mem_filter.1 hp).2
  have b2 : ∀ p ∈ l.filter (nt fun p => ltO p o), ofLt o p := by
   intro p hp
   obtain ⟨p1, p2⟩ := List.mem_filter.1 hp
   have p2 : ltO p o = false := by unfold nt at p2; simpa using p2
   refine ofLt_tri (fun q => by rw [ltO_iff.2 q] at p2; cases p2) ?_
   rw [List.any_eq_false] at hn
   simpa using hn p p1
  rw [List.append_assoc, List.pairwise_append]
  refine ⟨h3.sublist List.filter_sublist, ?_, ?_⟩
  ·rw [List.singleton_append, List.pairwise_cons]
   exact ⟨b2, h3.sublist List.filter_sublist⟩
  ·intro p hp q hq
   rcases List.mem_cons.1 hq with rfl | hq
   ·exact b1 p hp
   ·exact ofLt_trans (b1 p hp) (b2 q hq)
theorem evE_ok {e : Evt} (h : evE e = 0) : inR e.kind 1 7 = true ∧ inR e.time 0 1099511627776 = true ∧ (if e.kind == 1 then okItem e.item else if e.kind == 2 then vId e.id && inR e.contact 0 63 && inR e.due 0 1099511627777 else if e.kind == 3 then vId e.id && inR e.contact 0 63 else if e.kind == 6 then vId e.id else if e.kind == 7 then vId e.id && inR e.ticket 0 1152921504606846976 else true) = true := by
 unfold evE at h
 by_cases q1 : (!inR e.kind 1 7) = true
 ·rw [if_pos q1] at h; cases h
 rw [if_neg q1, ite_eq_left_iff] at h
 have q2 := Decidable.byContradiction fun q => absurd (h q) (by decide)
 rw [Bool.and_eq_true] at q2
 exact ⟨by simpa using q1, q2.1, q2.2⟩
theorem send_fin {w : Wst} (h : Val w.n) (ha : w.acts = []) (he : w.err = 0) {e : Evt} (hc : inR e.contact 0 63 = true) (hi : vId e.id = true) (hd : inR e.due 0 1099511627777 = true) : Fin (sendW w e) (rSendM w.n e) := by
 obtain ⟨c1, c2⟩ := inR_iff.1 hc
 obtain ⟨d1, d2⟩ := inR_iff.1 hd
 have hofs := (ofs_iff _).1 h.of
 have hfl : (w.n.ofs.filter (ofId e.id)).length ≤ 64 := Nat.le_trans (List.length_filter_le _ _) hofs.1
 unfold sendW rSendM
 by_cases hf : (findM w.n.dur e.id).2 = true
 ·rw [if_neg (show ¬ (!(findM w.n.dur e.id).2) = true by rw [hf]; decide), if_neg (show ¬ (!(findM w.n.dur e.id).2) = true by rw [hf]; decide)]
  have hv : vOf ⟨e.id, e.contact, e.due, ((w.n.ofs.filter (ofId e.id)).length : Int)⟩ = true := by
   unfold vOf
   rw [hi, Bool.true_and, decide_eq_true_eq]
   simp only
   omega
  by_cases hx : w.n.ofs.any (ofKey e.id e.contact) = true
  ·have hb : (beginM w.n.ofs e.id e.contact e.due).2 = 6 := by
    unfold beginM
    simp only
    rw [if_neg (by rw [h.of]; decide), if_neg (by rw [hv]; decide), if_pos (List.any_eq_true.2 (by obtain ⟨p, hp, hq⟩ := List.any_eq_true.1 hx; exact ⟨p, List.mem_filter.2 ⟨hp, by unfold ofKey at hq; rw [Bool.and_eq_true] at hq; exact hq.1⟩, hq⟩))]
   rw [if_neg (show ¬ ((beginM w.n.ofs e.id e.contact e.due).2 == 0) = true by rw [hb]; decide), if_pos (show ((beginM w.n.ofs e.id e.contact e.due).2 == 6) = true by rw [hb]; rfl), if_pos (show idx (ofAt e.id e.contact) w.n.ofs ≥ 0 from (any_ofAt (by omega)).2 hx)]
   exact h.fin ha he
  ·have hx : w.n.ofs.any (ofKey e.id e.contact) = false := by simpa using hx
   have hno : (w.n.ofs.filter (ofId e.id)).any (ofKey e.id e.contact) = false := by
    rw [List.any_eq_false] at hx ⊢
    intro p hp
    exact hx p (List.mem_filter.1 hp).1
   rw [if_neg (show ¬ idx (ofAt e.id e.contact) w.n.ofs ≥ 0 from fun q => by rw [(any_ofAt (by omega)).1 q] at hx; cases hx)]
   by_cases hl : w.n.ofs.length = 64
   ·have hb : (beginM w.n.ofs e.id e.contact e.due).2 = 4 := by
     unfold beginM
     simp only
     rw [if_neg (by rw [h.of]; decide), if_neg (by rw [hv]; decide), if_neg (by rw [hno]; decide), if_pos (by rw [hl]; rfl)]
    rw [if_neg (show ¬ ((beginM w.n.ofs e.id e.contact e.due).2 == 0) = true by rw [hb]; decide), if_neg (show ¬ ((beginM w.n.ofs e.id e.contact e.due).2 == 6) = true by rw [hb]; decide), if_pos (show ((beginM w.n.ofs e.id e.contact e.due).2 != 0) = true by rw [hb]; rfl)]
    exact ⟨h.j, .inl ⟨hb, rfl⟩⟩
   ·have hb : beginM w.n.ofs e.id e.contact e.due = (w.n.ofs.filter (fun p => ltO p ⟨e.id, e.contact, e.due, ((w.n.ofs.filter (ofId e.id)).length : Int)⟩) ++ [⟨e.id, e.contact, e.due, ((w.n.ofs.filter (ofId e.id)).length : Int)⟩] ++ w.n.ofs.filter (nt fun p => ltO p ⟨e.id, e.contact, e.due, ((w.n.ofs.filter (ofId e.id)).length : Int)⟩), 0) := by
     unfold beginM
     simp only
     rw [if_neg (by rw [h.of]; decide), if_neg (by rw [hv]; decide), if_neg (by rw [hno]; decide), if_neg (by simp; omega)]
    have hofs' := hofs.insert hv hx hl
    rw [if_pos (show ((beginM w.n.ofs e.id e.contact e.due).2 == 0) = true by rw [hb]; rfl), if_neg (show ¬ ((beginM w.n.ofs e.id e.contact e.due).2 != 0) = true by rw [hb]; exact Bool.false_ne_true)]
    rw [hb]
    refine ⟨h.j.congr rfl rfl, .inr ⟨he, ?_, ?_⟩⟩
    ·show _ = (_, w.acts ++ [_], 0)
     rw [ha]
     rfl
    ·refine ⟨h.j.congr rfl rfl, h.up, h.se, h.qu, h.la, h.us, (ofs_iff _).2 hofs', fun o ho => ?_⟩
     have ho : o ∈ w.n.ofs.filter (fun p => ltO p ⟨e.id, e.contact, e.due, ((w.n.ofs.filter (ofId e.id)).length : Int)⟩) ++ [⟨e.id, e.contact, e.due, ((w.n.ofs.filter (ofId e.id)).length : Int)⟩] ++ w.n.ofs.filter (nt fun p => ltO p ⟨e.id, e.contact, e.due, ((w.n.ofs.filter (ofId e.id)).length : Int)⟩) := ho
     simp only [List.mem_append, List.mem_singleton] at ho
     show (findM w.n.dur o.id).2 = true
     rcases ho with (ho | ho) | ho
     ·exact h.fd o (List.mem_filter.1 ho).1
     ·rw [ho]; exact hf
     ·exact h.fd o (List.mem_filter.1 ho).1
 ·have hf : (findM w.n.dur e.id).2 = false := by simpa using hf
  rw [if_pos (show (!(findM w.n.dur e.id).2) = true by rw [hf]; rfl), if_pos (show (!(findM w.n.dur e.id).2) = true by rw [hf]; rfl)]
  exact h.fin ha he
theorem drop_fin {w : Wst} (h : Val w.n) (ha : w.acts = []) (he : w.err = 0) {e : Evt} (ht : inR e.time 0 1099511627776 = true) : Fin (dropW w e) (if !(findM w.n.dur e.id).2 then (w.n, [], 0) else rRemM w.n e.id e.time) := by
 unfold dropW
 by_cases hf : (findM w.n.dur e.id).2 = true
 ·rw [if_pos hf, if_neg (show ¬ (!(findM w.n.dur e.id).2) = true by rw [hf]; decide)]
  obtain ⟨hx, hi⟩ := find_mem hf
  have := (remove_agr h he hx ht).1
  rw [hi] at this
  exact this.fin ha
 ·have hf : (findM w.n.dur e.id).2 = false := by simpa using hf
  rw [if_neg (show ¬ (findM w.n.dur e.id).2 = true by rw [hf]; decide), if_pos (show (!(findM w.n.dur e.id).2) = true by rw [hf]; rfl)]
  exact h.fin ha he
end Go.Proofs.YtggjngbighkdgaaGreat

namespace Go.Proofs.YtggjngbighkdgaaGreat
open Go.Sy Go.Mb
set_option maxRecDepth 100000
set_option maxHeartbeats 4000000
theorem recErr4 {id : Nid} {t now : Int} (h : validId id = true) (ht : inR t 0 1152921504606846976 = true) (hn : inR now 0 1099511627776 = true) : recErr ⟨4, .zero, id, t, now⟩ = 0 := by
 have h1 : inR 4 1 4 = true := rfl
 have h3 : Itm.zero.eqv Itm.zero = true := Itm.eqv_iff.2 rfl
 simp only [recErr, h, ht, hn, h1, h3]; rfl
theorem used_map {l m : List Itm} (h : l.map (fun x => x.data.size) = m.map (fun x => x.data.size)) : usedM l = usedM m := by
 have e : ∀ l : List Itm, usedM l = (l.map fun x => x.data.size).foldl (fun (n : Int) (s : Nat) => IntKind.i64.wrap (n + (s : Int))) 0 := fun l => by
  unfold usedM
  rw [List.foldl_map]
 rw [e l, e m, h]
theorem tick_size (l : List Itm) (id : Nid) (t : Int) : (setTick l id t).map (fun x => x.data.size) = l.map (fun x => x.data.size) ∧ (setTick l id t).map Itm.id = l.map Itm.id := by
 unfold setTick
 split
 ·constructor
  ·refine List.ext_getElem (by simp) fun i h1 h2 => ?_
   simp only [List.getElem_map, List.getElem_modify]
   split <;> rfl
  ·exact map_modify_id _ _ _
 ·exact ⟨rfl, rfl⟩
theorem found_map {d d' : Dur} (h : d'.items.map Itm.id = d.items.map Itm.id) (id : Nid) (hf : (findM d id).2 = true) : (findM d' id).2 = true := by
 obtain ⟨x, hx, e⟩ := (find_iff _ _).1 hf
 have : x.id ∈ d'.items.map Itm.id := by rw [h]; exact List.mem_map.2 ⟨x, hx, rfl⟩
 obtain ⟨y, hy, e2⟩ := List.mem_map.1 this
 exact (find_iff _ _).2 ⟨y, hy, by rw [e2, e]⟩
theorem jour_le {n m : Nod} {s : List Nat} (h : ls m.jour = ls n.jour ++ s) : n.jour.size ≤ m.jour.size := by
 rw [← ls_len, ← ls_len m.jour, h, List.length_append]; omega
theorem la_le {a : Int} {b c : Nat} (h : inR a 0 (b : Int) = true) (hbc : b ≤ c) : inR a 0 (c : Int) = true := by
 have := inR_iff.1 h
 exact inR_iff.2 ⟨this.1, by omega⟩
theorem ticket_fin {w : Wst} (h : Val w.n) (ha : w.acts = []) (he : w.err = 0) {e : Evt} (hi : vId e.id = true) (hk : inR e.ticket 0 1152921504606846976 = true) (ht : inR e.time 0 1099511627776 = true) :
  Fin (ticketW w e) (if !(findM w.n.dur e.id).2 then (w.n, [], 0) else ((rWrM w.n [⟨4, .zero, e.id, e.ticket, e.time⟩]).1, [], (rWrM w.n [⟨4, .zero, e.id, e.ticket, e.time⟩]).2)) := by
 unfold ticketW
 by_cases hf : (findM w.n.dur e.id).2 = true
 ·rw [if_pos hf, if_neg (show ¬ (!(findM w.n.dur e.id).2) = true by rw [hf]; decide)]
  have hr := recErr4 (id := e.id) (by rw [← vId_valid]; exact hi) hk ht
  rcases wr_both h.j hr with ⟨e1, e2⟩ | ⟨e1, e2, e3, e4, e5, e6⟩
  ·refine ⟨h.j.congr ?_ ?_, .inl ⟨?_, ?_⟩⟩
   ·show (wr w.n ⟨4, .zero, e.id, e.ticket, e.time⟩).1.jour = _; rw [e1]
   ·show (wr w.n ⟨4, .zero, e.id, e.ticket, e.time⟩).1.dur = _; rw [e1]
   ·show (if (wr w.n ⟨4, .zero, e.id, e.ticket, e.time⟩).2 != 0 then (wr w.n ⟨4, .zero, e.id, e.ticket, e.time⟩).2 else w.err) = 4
    rw [e1]; rfl
   ·show (rWrM w.n [⟨4, .zero, e.id, e.ticket, e.time⟩]).2 = 4
    rw [e2]
  ·have hw : w.write [⟨4, .zero, e.id, e.ticket, e.time⟩] = ⟨wrN w.n ⟨4, .zero, e.id, e.ticket, e.time⟩, w.acts, w.err⟩ := by
    show (⟨(wr w.n ⟨4, .zero, e.id, e.ticket, e.time⟩).1, w.acts, if (wr w.n ⟨4, .zero, e.id, e.ticket, e.time⟩).2 != 0 then (wr w.n ⟨4, .zero, e.id, e.ticket, e.time⟩).2 else w.err⟩ : Wst) = _
    rw [e1]; rfl
   have hd : (wrN w.n ⟨4, .zero, e.id, e.ticket, e.time⟩).dur = ⟨setTick w.n.dur.items e.id e.ticket, w.n.dur.inbox⟩ := e4
   obtain ⟨t1, t2⟩ := tick_size w.n.dur.items e.id e.ticket
   rw [hw, e2, last_same (.inr rfl)]
   refine ⟨e3, .inr ⟨he, by rw [ha], e3, h.up, h.se, h.qu, la_le h.la (jour_le e5), ?_, h.of, fun o ho => ?_⟩⟩
   ·show usedM (wrN w.n ⟨4, .zero, e.id, e.ticket, e.time⟩).dur.items ≤ w.n.quota
    rw [hd, used_map t1]
    exact h.us
   ·show (findM (wrN w.n ⟨4, .zero, e.id, e.ticket, e.time⟩).dur o.id).2 = true
    rw [hd]
    exact found_map (d := w.n.dur) t2 o.id (h.fd o ho)
 ·have hf : (findM w.n.dur e.id).2 = false := by simpa using hf
  rw [if_neg (show ¬ (findM w.n.dur e.id).2 = true by rw [hf]; decide), if_pos (show (!(findM w.n.dur e.id).2) = true by rw [hf]; rfl)]
  exact h.fin ha he
theorem found_more {d d' : Dur} (h : ∀ x ∈ d.items, x ∈ d'.items) (id : Nid) (hf : (findM d id).2 = true) : (findM d' id).2 = true := by
 obtain ⟨x, hx, e⟩ := (find_iff _ _).1 hf
 exact (find_iff _ _).2 ⟨x, h x hx, e⟩
theorem rWr_nil {n : Nod} (h : OkJ n) : rWrM n [] = (n, 0) := by
 have e : appM (ls n.jour) [] = (ls n.jour, 0) := by
  unfold appM appJ
  have := h.sz
  rw [if_neg (show ¬ (((ls n.jour, (0 : Int)) : List Nat × Int).2 != 0) = true from Bool.false_ne_true), if_neg (by rw [decide_eq_true_eq, ls_len]; omega)]
 unfold rWrM
 rw [e, if_neg (show ¬ (((ls n.jour, (0 : Int)) : List Nat × Int).2 != 0) = true from Bool.false_ne_true)]
 simp only [bs_ls]
 rfl
theorem kind_eq {w : Wst} {e : Evt} {r : Int} (hr : r = 1 ∨ r = 2 ∨ r = 3 ∨ r = 4 ∨ r = 5) : rKind w.n e r = kindP w e r := by
 unfold rKind kindP
 rcases hr with rfl | rfl | rfl | rfl | rfl
 ·rfl
 ·rfl
 ·cases q : w.n.ofs.any (ofId e.item.id)
  ·have := any_ofAt1.2 q
   rw [this]; rfl
  ·have : idx (ofAt e.item.id (-1)) w.n.ofs ≠ -1 := fun p => by rw [any_ofAt1.1 p] at q; cases q
   simp [this]
 ·rfl
 ·rfl
theorem put_fin {w : Wst} (h : Val w.n) (ha : w.acts = []) (he : w.err = 0) (hl : w.n.last = (w.n.jour.size : Int)) {e : Evt} (hx : okItem e.item = true) (ht : inR e.time 0 1099511627776 = true) :
  Fin (putW w e) (rPutM w.n e (putM w.n.dur w.n.self w.n.quota e.item e.time)) ∧ ∀ r ∈ (putM w.n.dur w.n.self w.n.quota e.item e.time).1, recErr r = 0 := by
 have hg := (good_iff _).2 h.j.good
 have hlen := items_len h.j
 obtain ⟨s1, s2⟩ := inR_iff.1 h.se
 have hp0 : putM w.n.dur w.n.self w.n.quota e.item e.time = if e.item.expires ≤ e.time then ([], 5, 0)
   else if 0 ≤ idx (hasId e.item.id) w.n.dur.items ∨ 0 ≤ idx (hasId e.item.id) w.n.dur.inbox then ([], 3, 0)
   else if e.item.dest = w.n.self then ([⟨3, e.item, .zero, 0, e.time⟩], 2, 0)
   else if IntKind.i64.wrap (usedM w.n.dur.items + (e.item.data.size : Int)) > w.n.quota then ([], 4, 0)
   else ([⟨1, e.item, .zero, 0, e.time⟩], 1, 0) := by
  unfold putM
  rw [if_neg (by rw [hg, hx]; decide), if_neg (by rw [h.qu, ht]; simp; omega)]
 have hnil : ∀ r : Int, (r = 3 ∨ r = 4 ∨ r = 5) → putM w.n.dur w.n.self w.n.quota e.item e.time = ([], r, 0) → Fin (putW w e) (rPutM w.n e (putM w.n.dur w.n.self w.n.quota e.item e.time)) := by
  intro r hr hp
  unfold putW rPutM
  rw [hp, if_neg (by simp), if_neg (by simp), rWr_nil h.j, kind_eq (w := w) (r := r) (by omega)]
  exact ⟨h.j, .inr ⟨he, by show _ = (_, w.acts ++ [_], 0); rw [ha]; rfl, h⟩⟩
 have hone : ∀ (k r : Int) (hkk : k = 1 ∨ k = 3) (hrr : r = 1 ∨ r = 2), putM w.n.dur w.n.self w.n.quota e.item e.time = ([⟨k, e.item, .zero, 0, e.time⟩], r, 0) → recErr ⟨k, e.item, .zero, 0, e.time⟩ = 0 →
   usedM (effM w.n.dur ⟨k, e.item, .zero, 0, e.time⟩).items ≤ w.n.quota → (∀ x ∈ w.n.dur.items, x ∈ (effM w.n.dur ⟨k, e.item, .zero, 0, e.time⟩).items) → Fin (putW w e) (rPutM w.n e (putM w.n.dur w.n.self w.n.quota e.item e.time)) := by
  intro k r hkk hrr hp hre hus hmo
  unfold putW rPutM
  rw [hp, if_neg (by simp), if_pos (by simp), kind_eq (w := w) (r := r) (by omega)]
  rcases wr_both h.j hre with ⟨e1, e2⟩ | ⟨e1, e2, e3, e4, e5, e6⟩
  ·refine ⟨h.j.congr ?_ ?_, .inl ⟨?_, ?_⟩⟩
   ·show (wr w.n ⟨k, e.item, .zero, 0, e.time⟩).1.jour = _; rw [e1]
   ·show (wr w.n ⟨k, e.item, .zero, 0, e.time⟩).1.dur = _; rw [e1]
   ·show (if (wr w.n ⟨k, e.item, .zero, 0, e.time⟩).2 != 0 then (wr w.n ⟨k, e.item, .zero, 0, e.time⟩).2 else w.err) = 4
    rw [e1]; rfl
   ·show (rWrM w.n [⟨k, e.item, .zero, 0, e.time⟩]).2 = 4
    rw [e2]
  ·have hw : w.write [⟨k, e.item, .zero, 0, e.time⟩] = ⟨wrN w.n ⟨k, e.item, .zero, 0, e.time⟩, w.acts, w.err⟩ := by
    show (⟨(wr w.n ⟨k, e.item, .zero, 0, e.time⟩).1, w.acts, if (wr w.n ⟨k, e.item, .zero, 0, e.time⟩).2 != 0 then (wr w.n ⟨k, e.item, .zero, 0, e.time⟩).2 else w.err⟩ : Wst) = _
    rw [e1]; rfl
   have hla : (wrN w.n ⟨k, e.item, .zero, 0, e.time⟩).last = ((wrN w.n ⟨k, e.item, .zero, 0, e.time⟩).jour.size : Int) := by
    unfold wrN
    rcases hkk with rfl | rfl <;> rfl
   simp only [hw, e2]
   refine ⟨e3, .inr ⟨he, ?_, e3, h.up, h.se, h.qu, ?_, ?_, h.of, fun o ho => ?_⟩⟩
   ·show _ = (_, w.acts ++ [_], 0)
    rw [ha]
    show (({ wrN w.n ⟨k, e.item, .zero, 0, e.time⟩ with last := ((wrN w.n ⟨k, e.item, .zero, 0, e.time⟩).jour.size : Int) } : Nod), _, _) = _
    rw [← hla]
    rfl
   ·show inR (wrN w.n ⟨k, e.item, .zero, 0, e.time⟩).last 0 _ = true
    rw [hla]
    exact inR_iff.2 ⟨by omega, Int.le_refl _⟩
   ·show usedM (wrN w.n ⟨k, e.item, .zero, 0, e.time⟩).dur.items ≤ w.n.quota
    rw [e4]; exact hus
   ·show (findM (wrN w.n ⟨k, e.item, .zero, 0, e.time⟩).dur o.id).2 = true
    rw [e4]
    exact found_more hmo o.id (h.fd o ho)
 by_cases q1 : e.item.expires ≤ e.time
 ·rw [if_pos q1] at hp0
  exact ⟨hnil 5 (by omega) hp0, by rw [hp0]; intro r hr; cases hr⟩
 rw [if_neg q1] at hp0
 by_cases q2 : 0 ≤ idx (hasId e.item.id) w.n.dur.items ∨ 0 ≤ idx (hasId e.item.id) w.n.dur.inbox
 ·rw [if_pos q2] at hp0
  exact ⟨hnil 3 (by omega) hp0, by rw [hp0]; intro r hr; cases hr⟩
 rw [if_neg q2] at hp0
 by_cases q3 : e.item.dest = w.n.self
 ·rw [if_pos q3] at hp0
  have hre := recErr3 hx ht
  exact ⟨hone 3 2 (by omega) (by omega) hp0 hre h.us (fun x hx => hx), by rw [hp0]; intro r hr; rw [List.mem_singleton] at hr; rw [hr]; exact hre⟩
 rw [if_neg q3] at hp0
 by_cases q4 : IntKind.i64.wrap (usedM w.n.dur.items + (e.item.data.size : Int)) > w.n.quota
 ·rw [if_pos q4] at hp0
  exact ⟨hnil 4 (by omega) hp0, by rw [hp0]; intro r hr; cases hr⟩
 rw [if_neg q4] at hp0
 have hre := recErr1 hx ht
 have hw : withM w.n.dur.items e.item = w.n.dur.items ++ [e.item] := by
  unfold withM
  rw [if_neg (fun q => q2 (.inl q))]
 refine ⟨hone 1 1 (by omega) (by omega) hp0 hre ?_ ?_, by rw [hp0]; intro r hr; rw [List.mem_singleton] at hr; rw [hr]; exact hre⟩
 ·show usedM (withM w.n.dur.items e.item) ≤ _
  rw [hw, used_snoc]
  omega
 ·intro x hx
  show x ∈ withM w.n.dur.items e.item
  rw [hw]
  exact List.mem_append_left _ hx
end Go.Proofs.YtggjngbighkdgaaGreat

namespace Go.Proofs.YtggjngbighkdgaaGreat
open Go.Sy Go.Mb
set_option maxRecDepth 100000
set_option maxHeartbeats 4000000
theorem Val.setF {n : Nod} (h : Val n) (p : Ofr → Bool) : Val { n with ofs := n.ofs.filter p } :=
 ⟨h.j.congr rfl rfl, h.up, h.se, h.qu, h.la, h.us, (ofs_iff _).2 (((ofs_iff _).1 h.of).filter p), fun o ho => h.fd o (List.mem_filter.1 ho).1⟩
theorem ofKey_eq {a b : Ofr} {x : Nid} {c : Int} (h1 : ofKey x c a = true) (h2 : ofKey x c b = true) : ¬ ofLt a b := by
 unfold ofKey at h1 h2
 rw [Bool.and_eq_true, Nid.eqv_iff, beq_iff_eq] at h1 h2
 rintro (q | ⟨_, q⟩)
 ·rw [h1.1, h2.1] at q; exact idLt_irr _ q
 ·omega
theorem erase_filter {x : Nid} {c : Int} : ∀ {l : List Ofr} {i : Nat}, l.Pairwise ofLt → (hi : i < l.length) → ofKey x c l[i] = true → l.eraseIdx i = l.filter (nt (ofKey x c))
 | [], i, _, hi, _ => by cases hi
 | a :: l, 0, hp, _, hk => by
  rw [List.pairwise_cons] at hp
  have hk : ofKey x c a = true := hk
  rw [List.eraseIdx_cons_zero, List.filter_cons, if_neg (by unfold nt; rw [hk]; decide)]
  rw [List.filter_eq_self.2]
  intro b hb
  unfold nt
  cases q : ofKey x c b
  ·rfl
  ·exact absurd (hp.1 b hb) (ofKey_eq hk q)
 | a :: l, i + 1, hp, hi, hk => by
  rw [List.pairwise_cons] at hp
  have hi : i < l.length := by simpa using hi
  have hk : ofKey x c l[i] = true := by simpa using hk
  rw [List.eraseIdx_cons_succ, erase_filter hp.2 hi hk, List.filter_cons, if_pos]
  unfold nt
  cases q : ofKey x c a
  ·rfl
  ·exact absurd (hp.1 _ (List.getElem_mem hi)) (ofKey_eq q hk)
theorem ofAt_key {x : Nid} {c : Int} (hc : c ≠ -1) : ofAt x c = ofKey x c := by
 funext o
 unfold ofAt ofKey
 rw [show (c == -1) = false by simpa using hc, Bool.false_or]
theorem signal_fin {w : Wst} (h : Val w.n) (ha : w.acts = []) (he : w.err = 0) {e : Evt} (hc : inR e.contact 0 63 = true) (ht : inR e.time 0 1099511627776 = true) : Fin (signalW w e) (rSigM w.n e) := by
 obtain ⟨c1, c2⟩ := inR_iff.1 hc
 have hof := (ofs_iff _).1 h.of
 unfold signalW rSigM
 rw [ofAt_key (by omega)]
 rcases idx_cases (ofKey e.id e.contact) w.n.ofs with ⟨h1, h2⟩ | ⟨k, hk, h1, h2, _⟩
 ·have hnil : w.n.ofs.filter (ofKey e.id e.contact) = [] := by
   rw [List.filter_eq_nil_iff]
   intro a ha'; rw [h2 a ha']; decide
  have hs : signalM w.n.ofs e.id e.contact = (w.n.ofs, 1, 0) := by
   unfold signalM
   rw [if_neg (by rw [h.of]; decide), if_pos (by rw [hnil]; rfl)]
  rw [hs, if_pos (show (((w.n.ofs, (1 : Int), (0 : Int)) : List Ofr × Int × Int).2.1 == 1) = true from rfl), if_pos (show (idx (ofKey e.id e.contact) w.n.ofs == -1) = true by rw [h1]; rfl)]
  exact h.fin ha he
 ·have h2 : ofKey e.id e.contact w.n.ofs[k] = true := by rwa [getD_lt hk] at h2
  have hm : w.n.ofs[k] ∈ w.n.ofs.filter (ofKey e.id e.contact) := List.mem_filter.2 ⟨List.getElem_mem hk, h2⟩
  have hs : signalM w.n.ofs e.id e.contact = (w.n.ofs.filter (nt (ofKey e.id e.contact)), 3, 0) := by
   unfold signalM
   rw [if_neg (by rw [h.of]; decide), if_neg]
   intro q
   have q : ((w.n.ofs.filter (ofKey e.id e.contact)).length : Int) = 0 := by simpa using q
   have := List.length_pos_of_mem hm
   omega
  have hid : w.n.ofs[k].id = e.id := by
   unfold ofKey at h2
   rw [Bool.and_eq_true, Nid.eqv_iff] at h2
   exact h2.1
  rw [hs, if_neg (show ¬ (((w.n.ofs.filter (nt (ofKey e.id e.contact)), (3 : Int), (0 : Int)) : List Ofr × Int × Int).2.1 == 1) = true from Bool.false_ne_true), if_neg (show ¬ (idx (ofKey e.id e.contact) w.n.ofs == -1) = true by rw [h1, beq_iff_eq]; omega), h1, Int.toNat_natCast, erase_filter hof.2.2 hk h2]
  have hv : Val (w.setO (w.n.ofs.filter (nt (ofKey e.id e.contact)))).n := h.setF _
  have hf : (findM (w.setO (w.n.ofs.filter (nt (ofKey e.id e.contact)))).n.dur e.id).2 = true := by
   have := h.fd _ (List.getElem_mem hk)
   rw [hid] at this
   exact this
  exact (settle_agr (w := w.setO (w.n.ofs.filter (nt (ofKey e.id e.contact)))) hv he hf ht true e.acc).1.fin ha
theorem found_filter {d : Dur} {id x : Nid} (h : (findM d x).2 = true) (hne : x ≠ id) : (findM ⟨d.items.filter (notId id), d.inbox⟩ x).2 = true := by
 obtain ⟨y, y1, y2⟩ := (find_iff _ _).1 h
 refine (find_iff _ _).2 ⟨y, ?_, y2⟩
 rw [List.mem_filter]
 refine ⟨y1, ?_⟩
 unfold notId hasId
 rw [Bool.not_eq_true', ← Bool.not_eq_true, Nid.eqv_iff, y2]
 exact hne
theorem zero3 : ¬ ((0 : Int) != 0) = true := Bool.false_ne_true
theorem tm_agr {w : Wst} (h : Val w.n) (ha : w.acts = []) (he : w.err = 0) {l : List Ofr} {t : Int} (ht : inR t 0 1099511627776 = true) (hp : l.Pairwise ofLt) (hf : ∀ o ∈ l, (findM w.n.dur o.id).2 = true) : ∀ k, k ≤ l.length →
  OkJ (tmN l t w k).n ∧ (((tmN l t w k).err = 4 ∧ (rTmN l t w.n k).2.2 = 4) ∨ ((tmN l t w k).err = 0 ∧ rTmN l t w.n k = ((tmN l t w k).n, (tmN l t w k).acts, 0) ∧ Val (tmN l t w k).n ∧
   ∀ j, k ≤ j → j < l.length → (k = 0 ∨ (l.getD j default).id ≠ (l.getD (k - 1) default).id) → (findM (tmN l t w k).n.dur (l.getD j default).id).2 = true))
 | 0, _ => ⟨h.j, .inr ⟨he, by show (w.n, [], 0) = (w.n, w.acts, 0); rw [ha], h, fun j _ hj _ => hf _ (by rw [getD_lt hj]; exact List.getElem_mem hj)⟩⟩
 | k + 1, hk => by
  obtain ⟨i1, i2⟩ := tm_agr h ha he ht hp hf k (by omega)
  rw [tmN, rTmN]
  generalize tmN l t w k = W at *
  generalize rTmN l t w.n k = R at *
  have hsym : ∀ a b : Nid, a.eqv b = b.eqv a := fun a b => by rw [Bool.eq_iff_iff, Nid.eqv_iff, Nid.eqv_iff]; exact eq_comm
  rcases i2 with ⟨b1, b2⟩ | ⟨b1, b2, b3, b4⟩
  ·rw [if_pos (show (R.2.2 != 0) = true by rw [b2]; rfl)]
   split
   ·obtain ⟨c1, c2⟩ := settle_err i1 b1 (l.getD k default).id ht false false
    exact ⟨c1, .inl ⟨c2, b2⟩⟩
   ·exact ⟨i1, .inl ⟨b1, b2⟩⟩
  ·rw [b2]
   dsimp only
   rw [if_neg zero3]
   by_cases q : k = 0 ∨ (l.getD k default).id ≠ (l.getD (k - 1) default).id
   ·have q1 : (k == 0 || !((l.getD (k - 1) default).id.eqv (l.getD k default).id)) = true := by
     rcases q with q | q
     ·rw [q]; rfl
     ·rw [Bool.or_eq_true]; right
      rw [Bool.not_eq_true', ← Bool.not_eq_true, Nid.eqv_iff]
      exact fun r => q r.symm
    have q2 : ¬ (decide (0 < k) && (l.getD k default).id.eqv (l.getD (k - 1) default).id) = true := by
     rw [Bool.and_eq_true, decide_eq_true_eq, Nid.eqv_iff]
     rintro ⟨r1, r2⟩
     rcases q with q | q
     ·omega
     ·exact q r2
    rw [if_pos q1, if_neg q2]
    obtain ⟨⟨a1, a2⟩, a3⟩ := settle_agr b3 b1 (b4 k (Nat.le_refl _) hk q) ht false false
    refine ⟨a1, ?_⟩
    rcases a2 with ⟨d1, d2⟩ | ⟨d1, d2, d3, d4, d5⟩
    ·left
     refine ⟨d1, ?_⟩
     rw [if_pos (by rw [d2]; rfl)]
     exact d2
    ·right
     refine ⟨d1, ?_, d5, fun j hj1 hj2 hj3 => ?_⟩
     ·rw [d2, if_neg zero3, d4, ← d3]
     ·have hj3 : (l.getD j default).id ≠ (l.getD k default).id := by
       rcases hj3 with hj3 | hj3
       ·omega
       ·exact hj3
      have hold := b4 j (by omega) hj2 (by
       rcases Nat.eq_zero_or_pos k with hk0 | hk0
       ·exact .inl hk0
       right
       intro r
       rcases q with q | q
       ·omega
       rw [List.pairwise_iff_getElem] at hp
       have p1 := hp (k - 1) k (by omega) hk (by omega)
       have p2 := hp k j hk hj2 (by omega)
       rw [← getD_lt (by omega : k - 1 < l.length), ← getD_lt hk] at p1
       rw [← getD_lt hj2, ← getD_lt hk] at p2
       rcases p1 with p1 | ⟨p1, _⟩
       ·rcases p2 with p2 | ⟨p2, _⟩
        ·rw [r] at p2; exact idLt_asymm p1 p2
        ·exact hj3 p2.symm
       ·exact q p1.symm)
      rcases (a3 d1).1 with g | ⟨x, _, _, g⟩
      ·rw [g]; exact hold
      ·rw [g]; exact found_filter hold hj3
   ·have q' : 0 < k ∧ (l.getD k default).id = (l.getD (k - 1) default).id := by
     constructor
     ·rcases Nat.eq_zero_or_pos k with r | r
      ·exact absurd (.inl r) q
      ·exact r
     ·exact Decidable.not_not.1 fun r => q (.inr r)
    have q1 : ¬ (k == 0 || !((l.getD (k - 1) default).id.eqv (l.getD k default).id)) = true := by
     rw [Bool.or_eq_true, Bool.not_eq_true', ← Bool.not_eq_true, Nid.eqv_iff]
     rintro (r | r)
     ·have : k = 0 := by simpa using r
      omega
     ·exact r q'.2.symm
    have q2 : (decide (0 < k) && (l.getD k default).id.eqv (l.getD (k - 1) default).id) = true := by
     rw [Bool.and_eq_true, decide_eq_true_eq, Nid.eqv_iff]
     exact q'
    rw [if_neg q1, if_pos q2]
    refine ⟨i1, .inr ⟨b1, rfl, b3, fun j hj1 hj2 hj3 => b4 j (by omega) hj2 (.inr ?_)⟩⟩
    rcases hj3 with hj3 | hj3
    ·omega
    ·rw [← q'.2]; exact hj3
theorem timer_fin {w : Wst} (h : Val w.n) (ha : w.acts = []) (he : w.err = 0) {e : Evt} (ht : inR e.time 0 1099511627776 = true) : Fin (timerW w e) (rTimM w.n e) := by
 have hof := (ofs_iff _).1 h.of
 have hd : dueM w.n.ofs e.time = (w.n.ofs.filter (ofDue e.time), w.n.ofs.filter (nt (ofDue e.time)), 0) := by
  unfold dueM
  rw [if_neg (by rw [h.of]; decide)]
 unfold timerW rTimM
 rw [hd]
 have hv : Val (w.setO (w.n.ofs.filter (nt (ofDue e.time)))).n := h.setF _
 obtain ⟨i1, i2⟩ := tm_agr (w := w.setO (w.n.ofs.filter (nt (ofDue e.time)))) hv ha he (l := w.n.ofs.filter (ofDue e.time)) ht (hof.filter _).2.2 (fun o ho => h.fd o (List.mem_filter.1 ho).1) _ (Nat.le_refl _)
 refine ⟨i1, ?_⟩
 rcases i2 with i2 | ⟨b1, b2, b3, _⟩
 ·exact .inl i2
 ·exact .inr ⟨b1, b2, b3⟩
theorem ex_agr {w : Wst} (h : Val w.n) (ha : w.acts = []) (he : w.err = 0) {l : List Itm} (hl : l = w.n.dur.items) {t : Int} (ht : inR t 0 1099511627776 = true) : ∀ k, k ≤ l.length →
  OkJ (exN (expRecs t l) t w (expRecs t (l.take k)).length).n ∧ (((exN (expRecs t l) t w (expRecs t (l.take k)).length).err = 4 ∧ (rExN l t w.n k).2.2 = 4) ∨ ((exN (expRecs t l) t w (expRecs t (l.take k)).length).err = 0 ∧ rExN l t w.n k = ((exN (expRecs t l) t w (expRecs t (l.take k)).length).n, (exN (expRecs t l) t w (expRecs t (l.take k)).length).acts, 0) ∧ Val (exN (expRecs t l) t w (expRecs t (l.take k)).length).n ∧
   ∀ j, k ≤ j → j < l.length → l.getD j default ∈ (exN (expRecs t l) t w (expRecs t (l.take k)).length).n.dur.items))
 | 0, _ => ⟨h.j, .inr ⟨he, by show (w.n, [], 0) = (w.n, w.acts, 0); rw [ha], h, fun j _ hj => by show _ ∈ w.n.dur.items; rw [getD_lt hj, ← hl]; exact List.getElem_mem hj⟩⟩
 | k + 1, hk => by
  obtain ⟨i1, i2⟩ := ex_agr h ha he hl ht k (by omega)
  have hu : Uniq l := by rw [hl]; exact h.j.good.2.2.1
  have hs : expRecs t (l.take (k + 1)) = expRecs t (l.take k) ++ expRec t (l.getD k default) := by rw [take_snoc hk, expRecs_snoc]
  rw [hs, rExN]
  by_cases q : (l.getD k default).expires > t
  ·have e0 : expRec t (l.getD k default) = [] := by unfold expRec; rw [if_neg (by omega)]
   rw [e0, List.append_nil]
   refine ⟨i1, ?_⟩
   rcases i2 with ⟨b1, b2⟩ | ⟨b1, b2, b3, b4⟩
   ·left
    rw [if_pos (show ((rExN l t w.n k).2.2 != 0) = true by rw [b2]; rfl)]
    exact ⟨b1, b2⟩
   ·right
    rw [b2]
    dsimp only
    rw [if_neg zero3, if_pos q]
    exact ⟨b1, rfl, b3, fun j hj1 hj2 => b4 j (by omega) hj2⟩
  ·have e1 : expRec t (l.getD k default) = [⟨2, .zero, (l.getD k default).id, 0, t⟩] := by unfold expRec; rw [if_pos (by omega)]
   have e2 : (expRecs t l).getD (expRecs t (l.take k)).length default = ⟨2, .zero, (l.getD k default).id, 0, t⟩ := by
    have e3 : expRecs t l = expRecs t (l.take k) ++ ([⟨2, .zero, (l.getD k default).id, 0, t⟩] ++ expRecs t (l.drop (k + 1))) := by
     rw [← e1, ← List.append_assoc, ← hs]
     conv => lhs; rw [← List.take_append_drop (k + 1) l]
     unfold expRecs
     rw [List.flatMap_append]
    rw [e3]
    simp [List.getD]
   rw [e1, List.length_append, List.length_singleton, exN, e2]
   generalize exN (expRecs t l) t w (expRecs t (l.take k)).length = W at *
   generalize rExN l t w.n k = R at *
   rcases i2 with ⟨b1, b2⟩ | ⟨b1, b2, b3, b4⟩
   ·rw [if_pos (show (R.2.2 != 0) = true by rw [b2]; rfl)]
    split
    ·rename_i hf
     obtain ⟨c1, c2⟩ := remove_err i1 b1 (find_mem hf).1 ht
     exact ⟨c1, .inl ⟨c2, b2⟩⟩
    ·exact ⟨i1, .inl ⟨b1, b2⟩⟩
   ·have hm : l.getD k default ∈ W.n.dur.items := b4 k (Nat.le_refl _) hk
    have hfe : findM W.n.dur (l.getD k default).id = (l.getD k default, true) := find_eq b3.j.good.2.2.1 hm
    rw [if_pos (show (findM W.n.dur (l.getD k default).id).2 = true by rw [hfe]), b2]
    dsimp only
    rw [if_neg zero3, if_neg q]
    rw [show (findM W.n.dur (l.getD k default).id).1 = l.getD k default by rw [hfe]]
    obtain ⟨⟨a1, a2⟩, a3⟩ := remove_agr b3 b1 hm ht
    refine ⟨a1, ?_⟩
    rcases a2 with ⟨d1, d2⟩ | ⟨d1, d2, d3, d4, d5⟩
    ·left
     refine ⟨d1, ?_⟩
     rw [if_pos (by rw [d2]; rfl)]
     exact d2
    ·right
     refine ⟨d1, ?_, d5, fun j hj1 hj2 => ?_⟩
     ·rw [d2, if_neg zero3, d4, ← d3]
      rfl
     ·rw [(a3 d1).1]
      refine List.mem_filter.2 ⟨b4 j (by omega) hj2, ?_⟩
      unfold notId hasId
      rw [Bool.not_eq_true', ← Bool.not_eq_true, Nid.eqv_iff]
      rw [uniq_get] at hu
      have := hu k j hk hj2 (by omega)
      rw [getD_lt hj2, getD_lt hk]
      exact fun r => this r.symm
theorem expire_fin {w : Wst} (h : Val w.n) (ha : w.acts = []) (he : w.err = 0) {e : Evt} (ht : inR e.time 0 1099511627776 = true) : Fin (expireW w e) (rExpM w.n e) := by
 have hd : expireM w.n.dur e.time = (expRecs e.time w.n.dur.items, 0) := by
  unfold expireM
  rw [if_neg (by rw [(good_iff _).2 h.j.good]; decide), if_neg (by rw [ht]; decide)]
 unfold expireW rExpM
 rw [hd]
 dsimp only
 rw [if_neg zero3]
 obtain ⟨i1, i2⟩ := ex_agr h ha he (l := w.n.dur.items) rfl ht _ (Nat.le_refl _)
 rw [List.take_length] at i1 i2
 refine ⟨i1, ?_⟩
 rcases i2 with i2 | ⟨b1, b2, b3, _⟩
 ·exact .inl i2
 ·exact .inr ⟨b1, b2, b3⟩
theorem Val.lastN {n : Nod} (h : Val n) : Val (startW n).n :=
 ⟨h.j.congr rfl rfl, h.up, h.se, h.qu, inR_iff.2 ⟨Int.natCast_nonneg _, Int.le_refl _⟩, h.us, h.of, h.fd⟩
theorem kind_fin {n : Nod} (h : Val n) {e : Evt} (he : evE e = 0) : Fin (kindW (startW n) e) (rGoM n e) ∧ RecsOK n e := by
 have hv := h.lastN
 obtain ⟨k1, k2, k3⟩ := evE_ok he
 obtain ⟨k1, k1'⟩ := inR_iff.1 k1
 have h0 : (startW n).acts = [] := rfl
 have h1 : (startW n).err = 0 := rfl
 have hp := fun hx : okItem e.item = true => put_fin hv h0 h1 rfl hx k2
 have hdue : ∀ o ∈ (dueM n.ofs e.time).1, recErr ⟨2, .zero, o.id, 0, e.time⟩ = 0 := by
  intro o ho
  have hd : dueM n.ofs e.time = (n.ofs.filter (ofDue e.time), n.ofs.filter (nt (ofDue e.time)), 0) := by
   unfold dueM
   rw [if_neg (by rw [h.of]; decide)]
  rw [hd] at ho
  have hvo := ((ofs_iff _).1 h.of).2.1 o (List.mem_filter.1 ho).1
  unfold vOf at hvo
  rw [Bool.and_eq_true] at hvo
  exact recErr2 (by rw [← vId_valid]; exact hvo.1) k2
 have hexp : ∀ x ∈ n.dur.items, recErr ⟨2, .zero, x.id, 0, e.time⟩ = 0 := fun x hx => recErr2 (ok_id (h.j.good.1 x hx)) k2
 have hk : e.kind = 1 ∨ e.kind = 2 ∨ e.kind = 3 ∨ e.kind = 4 ∨ e.kind = 5 ∨ e.kind = 6 ∨ e.kind = 7 := by omega
 unfold kindW rGoM
 rcases hk with r | r | r | r | r | r | r
 all_goals simp only [r] at k3 ⊢
 ·have k3 : okItem e.item = true := k3
  exact ⟨(hp k3).1, ⟨fun _ => (hp k3).2, (by rw [r]; rintro (q | q) <;> cases q), (by rw [r]; intro q; cases q), (by rw [r]; intro q; cases q), (by rw [r]; intro q; cases q)⟩⟩
 ·have k3 : (vId e.id && inR e.contact 0 63 && inR e.due 0 1099511627777) = true := k3
  rw [Bool.and_eq_true, Bool.and_eq_true] at k3
  exact ⟨send_fin hv h0 h1 k3.1.2 k3.1.1 k3.2, ⟨(by rw [r]; intro q; cases q), (by rw [r]; rintro (q | q) <;> cases q), (by rw [r]; intro q; cases q), (by rw [r]; intro q; cases q), (by rw [r]; intro q; cases q)⟩⟩
 ·have k3 : (vId e.id && inR e.contact 0 63) = true := k3
  rw [Bool.and_eq_true] at k3
  exact ⟨signal_fin hv h0 h1 k3.2 k2, ⟨(by rw [r]; intro q; cases q), fun _ => recErr2 (by rw [← vId_valid]; exact k3.1) k2, (by rw [r]; intro q; cases q), (by rw [r]; intro q; cases q), (by rw [r]; intro q; cases q)⟩⟩
 ·exact ⟨timer_fin hv h0 h1 k2, ⟨(by rw [r]; intro q; cases q), (by rw [r]; rintro (q | q) <;> cases q), fun _ => hdue, (by rw [r]; intro q; cases q), (by rw [r]; intro q; cases q)⟩⟩
 ·exact ⟨expire_fin hv h0 h1 k2, ⟨(by rw [r]; intro q; cases q), (by rw [r]; rintro (q | q) <;> cases q), (by rw [r]; intro q; cases q), fun _ => hexp, (by rw [r]; intro q; cases q)⟩⟩
 ·have k3 : vId e.id = true := k3
  exact ⟨drop_fin hv h0 h1 k2, ⟨(by rw [r]; intro q; cases q), fun _ => recErr2 (by rw [← vId_valid]; exact k3) k2, (by rw [r]; intro q; cases q), (by rw [r]; intro q; cases q), (by rw [r]; intro q; cases q)⟩⟩
 ·have k3 : (vId e.id && inR e.ticket 0 1152921504606846976) = true := k3
  rw [Bool.and_eq_true] at k3
  exact ⟨ticket_fin hv h0 h1 k3.1 k3.2 k2, ⟨(by rw [r]; intro q; cases q), (by rw [r]; rintro (q | q) <;> cases q), (by rw [r]; intro q; cases q), (by rw [r]; intro q; cases q), fun _ => recErr4 (by rw [← vId_valid]; exact k3.1) k3.2 k2⟩⟩
theorem go_val {n : Nod} (h : Val n) {e : Evt} (hz : (goM n e).2.2 = 0) : evE e = 0 ∧ Val (goM n e).1 ∧ goM n e = ((kindW (startW n) e).n, (kindW (startW n) e).acts, 0) ∧ rGoM n e = goM n e := by
 unfold goM at hz ⊢
 split at hz
 ·rename_i q; simp only at hz; rw [hz] at q; cases q
 rename_i q
 have he : evE e = 0 := by simpa using q
 rw [if_neg q]
 split at hz
 ·cases hz
 rename_i q2
 rw [if_neg q2]
 split at hz
 ·rename_i q3; simp only at hz; rw [hz] at q3; cases q3
 rename_i q3
 rw [if_neg q3]
 have q3 : (kindW (startW n) e).err = 0 := by simpa using q3
 obtain ⟨⟨_, f⟩, _⟩ := kind_fin h he
 rcases f with ⟨f1, _⟩ | ⟨_, f2, f3⟩
 ·rw [f1] at q3; cases q3
 ·exact ⟨he, f3, rfl, f2⟩
end Go.Proofs.YtggjngbighkdgaaGreat

namespace Go.Proofs.YtggjngbighkdgaaGreat
open Go.Sy Go.Mb
set_option maxRecDepth 100000
set_option maxHeartbeats 4000000
def exItem : Itm := ⟨1, ⟨0, 0, 1, 0, 0⟩, 2, 100, 0, true, ⟨#[49, 50, 51, 52, 53, 54, 55, 56]⟩⟩
def exNode : Nod := ⟨1, 20, true, .empty, 0, ⟨[], []⟩, []⟩
def exEvs : List Evt := [⟨1, 5, exItem, .zero, 0, 0, false, 0⟩, ⟨2, 10, .zero, exItem.id, 3, 50, false, 0⟩, ⟨3, 40, .zero, exItem.id, 3, 0, false, 0⟩, ⟨2, 60, .zero, exItem.id, 4, 90, false, 0⟩, ⟨3, 80, .zero, exItem.id, 4, 0, true, 0⟩]
def exActs : List Mb.Act := [⟨2, exItem, 0, 1⟩, ⟨1, exItem, 3, 0⟩, ⟨4, exItem, 0, 0⟩, ⟨1, exItem, 4, 0⟩, ⟨5, exItem, 0, 0⟩]
theorem ex_play : (playM exNode exEvs).2 = (exActs, 5, 0) := by kernel_rfl
theorem ex_items : (playM exNode exEvs).1.dur.items = [] := by kernel_rfl
theorem ex_read : (rdJA (ls (playM exNode exEvs).1.jour)).1.length = 2 ∧ ((rdJA (ls (playM exNode exEvs).1.jour)).2.1 : Int) = ((playM exNode exEvs).1.jour.size : Int) ∧ (rdJA (ls (playM exNode exEvs).1.jour)).2.2 = 0 := ⟨by kernel_rfl, by kernel_rfl, by kernel_rfl⟩
theorem exItem_ok : FnOK Tryz.prog 64 [] (.agg exItem.cells, none) := by
 refine fn_ok CF rfl (by kernel_rfl) Tryz.func64 rfl ?_
 exact Sat.go (Eq.refl _) (NS.ret rfl rfl (LeA.refl _))
theorem szn_ex : Szn exNode 100 := ⟨by decide, by decide, by decide, by decide⟩
noncomputable def EA : Env := { P := Tryz.prog, eqT := lookE eqTab, frz := [30, 58] }
theorem EA_ok : EqOK EA := eqOK_of eqTab_ok
noncomputable def CA : Cx := { E := EA, inl := [], ok := EA_ok }
theorem awakeN_ok : FnOK Tryz.prog 16 [] (.bool true, none) := by
 have cn := nNew_ok 1 20
 rw [show newN 1 20 = (exNode, 0) from rfl] at cn
 obtain ⟨N, hN⟩ : ∃ N, N = (playM exNode exEvs).1 := ⟨_, rfl⟩
 have cp := play_ok exNode exEvs szn_ex (by decide)
 have e1 := ex_play
 have e2 := ex_items
 have e3 := ex_read
 rw [← hN] at e2 e3
 rw [show playM exNode exEvs = (N, exActs, 5, 0) by rw [← e1, hN]] at cp
 obtain ⟨r1, r2, r3⟩ := e3
 refine fn_ok CA rfl (by kernel_rfl) Tryz.func16 rfl ?_
 refine Sat.go (Eq.refl _) (NS.call (cn) rfl ?_)
 refine Sat.go (Eq.refl _) (NS.call (exItem_ok) rfl ?_)
 refine Sat.go (Eq.refl _) (NS.chk (by kernel_rfl) ?_)
 refine Sat.go (Eq.refl _) (NS.call (exItem_ok) rfl ?_)
 refine Sat.go (Eq.refl _) (NS.call (cp.le (LeL.cons (LeA.refl _) (LeL.cons (LeA.slLe rfl ?_) LeL.nil))) rfl ?_)
 ·intro i hi j hj
  have hi : i < 5 := hi
  have hj : j < 22 := hj
  have hi5 : i = 0 ∨ i = 1 ∨ i = 2 ∨ i = 3 ∨ i = 4 := by omega
  have hj22 : j = 0 ∨ j = 1 ∨ j = 2 ∨ j = 3 ∨ j = 4 ∨ j = 5 ∨ j = 6 ∨ j = 7 ∨ j = 8 ∨ j = 9 ∨ j = 10 ∨ j = 11 ∨ j = 12 ∨ j = 13 ∨ j = 14 ∨ j = 15 ∨ j = 16 ∨ j = 17 ∨ j = 18 ∨ j = 19 ∨ j = 20 ∨ j = 21 := by omega
  by_cases hq : i = 4 ∧ j = 20
  ·obtain ⟨rfl, rfl⟩ := hq
   exact (LeA.of (show _ = A.kb true by kernel_rfl)).trans (LeA.kb true)
  rcases hi5 with rfl | rfl | rfl | rfl | rfl <;> rcases hj22 with rfl | rfl | rfl | rfl | rfl | rfl | rfl | rfl | rfl | rfl | rfl | rfl | rfl | rfl | rfl | rfl | rfl | rfl | rfl | rfl | rfl | rfl <;> first | (exfalso; exact hq ⟨rfl, rfl⟩) | (refine LeA.of ?_; show _ = _; kernel_rfl)
 refine Sat.go (Eq.refl _) (NS.no (rfl) ?_)
 refine Sat.go (Eq.refl _) (NS.no (rfl) ?_)
 refine Sat.go (Eq.refl _) (NS.no (rfl) ?_)
 refine Sat.go (Eq.refl _) (NS.no (rfl) ?_)
 refine Sat.go (Eq.refl _) (NS.no (by rw [e2]; rfl) ?_)
 refine Sat.go (Eq.refl _) ?_
 refine NS.loop (σ := { k : Nat // k ≤ 5 }) (fun k => [(1, .ptr 1 0), (4, slAct exActs), (58, slN [2, 1, 4, 1, 5]), (59, .int .i64 5), (60, .int .i64 (k.1 : Nat))]) (fun k => [(1, .box N.cells)]) (fun k => 5 - k.1) ⟨0, by omega⟩ ?_ ?_
 ·refine (weak_slot 58 (x := slN [2, 1, 4, 1, 5]) ?_).trans ?_
  ·refine LeA.sl rfl fun i hi j hj => ?_
   have : i = 0 ∨ i = 1 ∨ i = 2 ∨ i = 3 ∨ i = 4 := by have hi : i < 5 := hi; omega
   obtain rfl : j = 0 := by have hj : j < 1 := hj; omega
   rcases this with rfl | rfl | rfl | rfl | rfl <;> rfl
  ·exact weak_hd [] rfl ⟨rfl, rfl, rfl, rfl, rfl, trivial⟩ ⟨⟨_, rfl, renNod _ _⟩, trivial⟩ trivial (by kernel_rfl)
 rintro ⟨k, hk⟩
 refine Sat.go (Eq.refl _) (NS.ite (fun h => ?_) (fun h => ?_))
 ·have hk5 : k < 5 := by have h : ((k : Nat) : Int) < 5 := of_decide_eq_true h; omega
  have : k = 0 ∨ k = 1 ∨ k = 2 ∨ k = 3 ∨ k = 4 := by omega
  rcases this with rfl | rfl | rfl | rfl | rfl
  ·repeat' (first | (refine Sat.go (Eq.refl _) (NS.chk (by kernel_rfl) ?_)) | (refine Sat.go (Eq.refl _) (NS.need (by show decide ((0 : Int) ≤ ((0 : Nat) : Int) ∧ ((0 : Nat) : Int) < ((5 : Nat) : Int)) = true; decide) ?_)) | (refine Sat.go (Eq.refl _) (NS.no (rfl) ?_)) | (refine Sat.go (Eq.refl _) (NS.no (by kernel_rfl) ?_)) | (refine Sat.go (Eq.refl _) (NS.call (exItem_ok) rfl ?_)) | (refine Sat.go (Eq.refl _) (NS.call (sameItem_ok exItem exItem) rfl ?_)))
   refine Sat.go (Eq.refl _) (NS.next ⟨1, by omega⟩ (by show 5 - 1 < 5 - 0; omega) ?_)
   exact weak_hd [] rfl ⟨rfl, rfl, rfl, rfl, ren_int rfl (i64_k (k := 0) (n := 5) (by omega) (by omega)), trivial⟩ ⟨⟨_, rfl, renNod _ _⟩, trivial⟩ trivial (by kernel_rfl)
  ·repeat' (first | (refine Sat.go (Eq.refl _) (NS.chk (by kernel_rfl) ?_)) | (refine Sat.go (Eq.refl _) (NS.need (by show decide ((0 : Int) ≤ ((1 : Nat) : Int) ∧ ((1 : Nat) : Int) < ((5 : Nat) : Int)) = true; decide) ?_)) | (refine Sat.go (Eq.refl _) (NS.no (rfl) ?_)) | (refine Sat.go (Eq.refl _) (NS.no (by kernel_rfl) ?_)) | (refine Sat.go (Eq.refl _) (NS.call (exItem_ok) rfl ?_)) | (refine Sat.go (Eq.refl _) (NS.call (sameItem_ok exItem exItem) rfl ?_)))
   refine Sat.go (Eq.refl _) (NS.next ⟨2, by omega⟩ (by show 5 - 2 < 5 - 1; omega) ?_)
   exact weak_hd [] rfl ⟨rfl, rfl, rfl, rfl, ren_int rfl (i64_k (k := 1) (n := 5) (by omega) (by omega)), trivial⟩ ⟨⟨_, rfl, renNod _ _⟩, trivial⟩ trivial (by kernel_rfl)
  ·repeat' (first | (refine Sat.go (Eq.refl _) (NS.chk (by kernel_rfl) ?_)) | (refine Sat.go (Eq.refl _) (NS.need (by show decide ((0 : Int) ≤ ((2 : Nat) : Int) ∧ ((2 : Nat) : Int) < ((5 : Nat) : Int)) = true; decide) ?_)) | (refine Sat.go (Eq.refl _) (NS.no (rfl) ?_)) | (refine Sat.go (Eq.refl _) (NS.no (by kernel_rfl) ?_)) | (refine Sat.go (Eq.refl _) (NS.call (exItem_ok) rfl ?_)) | (refine Sat.go (Eq.refl _) (NS.call (sameItem_ok exItem exItem) rfl ?_)))
   refine Sat.go (Eq.refl _) (NS.next ⟨3, by omega⟩ (by show 5 - 3 < 5 - 2; omega) ?_)
   exact weak_hd [] rfl ⟨rfl, rfl, rfl, rfl, ren_int rfl (i64_k (k := 2) (n := 5) (by omega) (by omega)), trivial⟩ ⟨⟨_, rfl, renNod _ _⟩, trivial⟩ trivial (by kernel_rfl)
  ·repeat' (first | (refine Sat.go (Eq.refl _) (NS.chk (by kernel_rfl) ?_)) | (refine Sat.go (Eq.refl _) (NS.need (by show decide ((0 : Int) ≤ ((3 : Nat) : Int) ∧ ((3 : Nat) : Int) < ((5 : Nat) : Int)) = true; decide) ?_)) | (refine Sat.go (Eq.refl _) (NS.no (rfl) ?_)) | (refine Sat.go (Eq.refl _) (NS.no (by kernel_rfl) ?_)) | (refine Sat.go (Eq.refl _) (NS.call (exItem_ok) rfl ?_)) | (refine Sat.go (Eq.refl _) (NS.call (sameItem_ok exItem exItem) rfl ?_)))
   refine Sat.go (Eq.refl _) (NS.next ⟨4, by omega⟩ (by show 5 - 4 < 5 - 3; omega) ?_)
   exact weak_hd [] rfl ⟨rfl, rfl, rfl, rfl, ren_int rfl (i64_k (k := 3) (n := 5) (by omega) (by omega)), trivial⟩ ⟨⟨_, rfl, renNod _ _⟩, trivial⟩ trivial (by kernel_rfl)
  ·repeat' (first | (refine Sat.go (Eq.refl _) (NS.chk (by kernel_rfl) ?_)) | (refine Sat.go (Eq.refl _) (NS.need (by show decide ((0 : Int) ≤ ((4 : Nat) : Int) ∧ ((4 : Nat) : Int) < ((5 : Nat) : Int)) = true; decide) ?_)) | (refine Sat.go (Eq.refl _) (NS.no (rfl) ?_)) | (refine Sat.go (Eq.refl _) (NS.no (by kernel_rfl) ?_)) | (refine Sat.go (Eq.refl _) (NS.call (exItem_ok) rfl ?_)) | (refine Sat.go (Eq.refl _) (NS.call (sameItem_ok exItem exItem) rfl ?_)))
   refine Sat.go (Eq.refl _) (NS.next ⟨5, by omega⟩ (by show 5 - 5 < 5 - 4; omega) ?_)
   exact weak_hd [] rfl ⟨rfl, rfl, rfl, rfl, ren_int rfl (i64_k (k := 4) (n := 5) (by omega) (by omega)), trivial⟩ ⟨⟨_, rfl, renNod _ _⟩, trivial⟩ trivial (by kernel_rfl)
 ·refine Sat.go (Eq.refl _) (NS.leave rfl (Eq.refl _) ?_)
  refine Sat.go (Eq.refl _) (NS.call (read_ok N.jour) rfl ?_)
  refine Sat.go (Eq.refl _) (NS.yes (by rw [r3]; rfl) ?_)
  refine Sat.go (Eq.refl _) (NS.yes (by rw [r2]; simp) ?_)
  exact Sat.go (Eq.refl _) (NS.ret rfl rfl (LeA.of (congrArg A.bool (by rw [r1]; rfl))))
end Go.Proofs.YtggjngbighkdgaaGreat

namespace Go.Proofs.YtggjngbighkdgaaGreat
open Go.Sy Go.Mb
set_option maxRecDepth 100000
set_option maxHeartbeats 4000000
theorem small_of {n : Nod} (h : greatN n = false) : n.dur.items.length ≤ 12 ∧ n.dur.inbox.length ≤ 12 ∧ n.ofs.length ≤ 12 ∧ n.jour.size ≤ 3000 := by
 unfold greatN at h
 simp only [Bool.or_eq_false_iff] at h
 obtain ⟨⟨h1, h2⟩, h3⟩ := h
 obtain ⟨b1, b2, _, _⟩ := not_great h1
 have h2 := of_decide_eq_false h2
 have h3 := of_decide_eq_false h3
 exact ⟨b1, b2, by omega, by omega⟩
end Go.Proofs.YtggjngbighkdgaaGreat

namespace Go.Proofs.YtggjngbighkdgaaGreat
open Go.Sy Go.Mb
set_option maxRecDepth 100000
set_option maxHeartbeats 4000000
def greatE (e : Evt) : Bool := decide ((e.item.data.size : Int) > 100)
theorem greatE_ok (e : Evt) : FnOK Tryz.prog 23 [.agg e.cells] (.bool (greatE e), none) := by
 refine fn_ok CF rfl (by kernel_rfl) Tryz.func23 rfl ?_
 exact Sat.go (Eq.refl _) (NS.ret rfl rfl (LeA.refl _))
theorem idxE_ok (l : List Evt) (hl : l.length ≤ 1000000) (f : Nat) (p : Evt → Bool) (hc : ∀ x, FnOK Tryz.prog f [.agg (Evt.cells x)] (.bool (p x), none)) : FnOK Tryz.prog 73 [slEvt l, .fn f []] (.int .i64 (idx p l), none) := by
 refine fn_ok CF rfl (by kernel_rfl) Tryz.func73 rfl ?_
 refine Sat.go (Eq.refl _) ?_
 refine NS.loop (σ := { k : Nat // k ≤ l.length ∧ ∀ i, i < k → p (l.getD i default) = false }) (fun k => [(0, slEvt l), (1, .fn f []), (7, .int .i64 l.length), (8, .int .i64 k.1)]) (fun _ => []) (fun k => l.length - k.1) ⟨0, Nat.zero_le _, fun i hi => by omega⟩ ?_ ?_
 ·exact weak_hd [] rfl ⟨rfl, rfl, rfl, rfl, trivial⟩ trivial trivial (by kernel_rfl)
 rintro ⟨k, hk, hn⟩
 refine Sat.go (Eq.refl _) (NS.ite (fun h => ?_) (fun h => ?_))
 ·have h : k < l.length := by simpa using h
  repeat' (first | (refine Sat.go (Eq.refl _) (NS.chk (by kernel_rfl) ?_)) | (refine Sat.go (Eq.refl _) (NS.need (by simp; omega) ?_)))
  refine Sat.go (Eq.refl _) (NS.call (hc (l.getD k default)) rfl ?_)
  refine Sat.go (Eq.refl _) (NS.ite (fun h2 => ?_) (fun h2 => ?_))
  ·exact Sat.go (Eq.refl _) (NS.leaveOut rfl (Eq.refl _) (NS.ret rfl rfl (LeA.of (congrArg (A.int .i64) ((idx_found (by omega) h2 hn).symm)))))
  ·refine Sat.go (Eq.refl _) (NS.next ⟨k + 1, by omega, fun i hi => ?_⟩ (by simp; omega) ?_)
   ·by_cases hik : i = k
    ·subst hik; exact h2
    ·exact hn i (by omega)
   ·exact weak_hd [] rfl ⟨rfl, rfl, rfl, ren_int rfl (i64_k (by omega) (by omega)), trivial⟩ trivial trivial (by kernel_rfl)
 ·have h : ¬ k < l.length := by simpa using h
  refine Sat.go (Eq.refl _) (NS.leave rfl (Eq.refl _) ?_)
  exact Sat.go (Eq.refl _) (NS.ret rfl rfl (LeA.of (congrArg (A.int .i64) ((idx_none fun i hi => hn i (by omega)).symm))))
theorem contE_ok (l : List Evt) (hl : l.length ≤ 1000000) : FnOK Tryz.prog 22 [slEvt l, .fn 23 []] (.bool (l.any greatE), none) := by
 refine fn_ok CF rfl (by kernel_rfl) Tryz.func22 rfl ?_
 refine Sat.go (Eq.refl _) (NS.call (idxE_ok l hl 23 greatE greatE_ok) rfl ?_)
 exact Sat.go (Eq.refl _) (NS.ret rfl rfl (LeA.of (congrArg A.bool (idx_any greatE l))))
end Go.Proofs.YtggjngbighkdgaaGreat

namespace Go.Mb
open Go.Sy
set_option maxRecDepth 100000
def intA : A → Int
 | .int _ n => n
 | _ => 0
def boolA : A → Bool
 | .bool b => b
 | _ => false
def strA : A → ByteArray
 | .str s => s
 | _ => .empty
theorem int_of {a : A} {k : IntKind} (h : ShA (.int k) a) : a = .int k (intA a) := by obtain ⟨n, rfl, _⟩ := h; rfl
theorem bool_of {a : A} (h : ShA .bool a) : a = .bool (boolA a) := by obtain ⟨n, rfl⟩ := h; rfl
theorem str_of {a : A} (h : ShA .str a) : a = .str (strA a) := by obtain ⟨n, rfl, _⟩ := h; rfl
theorem LeL_get : ∀ {l m : List A}, l.length = m.length → (∀ j, j < l.length → LeA (getA l j) (getA m j)) → LeL l m
 | [], [], _, _ => LeL.nil
 | [], b :: m, h, _ => by simp at h
 | a :: l, [], h, _ => by simp at h
 | a :: l, b :: m, h, hj => LeL.cons (hj 0 (by simp)) (LeL_get (by simpa using h) fun j hlt => hj (j + 1) (by simpa using hlt))
def shItm : List Sh := [.int .i64, .int .i64, .int .i64, .int .i64, .int .i64, .int .i64, .int .i64, .int .i64, .int .i64, .bool, .str]
def ofItm (f : Nat → A) : Itm := ⟨intA (f 0), ⟨intA (f 1), intA (f 2), intA (f 3), intA (f 4), intA (f 5)⟩, intA (f 6), intA (f 7), intA (f 8), boolA (f 9), strA (f 10)⟩
theorem cellsItm {f : Nat → A} (h : ShAs shItm f 0) : ∀ j, j < 11 → f j = getA (ofItm f).cells j := by
 obtain ⟨h0, h1, h2, h3, h4, h5, h6, h7, h8, h9, h10, _⟩ := h
 intro j hj
 match j, hj with
 | 0, _ => exact int_of h0
 | 1, _ => exact int_of h1
 | 2, _ => exact int_of h2
 | 3, _ => exact int_of h3
 | 4, _ => exact int_of h4
 | 5, _ => exact int_of h5
 | 6, _ => exact int_of h6
 | 7, _ => exact int_of h7
 | 8, _ => exact int_of h8
 | 9, _ => exact bool_of h9
 | 10, _ => exact str_of h10
theorem listItm {n : Nat} {el : Nat → Nat → A} (h : ∀ i, i < n → ShAs shItm (el i) 0) : ∃ l : List Itm, l.length = n ∧ LeA (.sl 11 n el) (slItm l) := by
 refine ⟨(List.range n).map fun i => ofItm (el i), by simp, LeA.sl (by simp) fun i hi j hj => ?_⟩
 rw [cellsItm (h i hi) j hj]
 simp [rowL, hi]
def shOfr : List Sh := [.int .i64, .int .i64, .int .i64, .int .i64, .int .i64, .int .i64, .int .i64, .int .i64]
def ofOfr (f : Nat → A) : Ofr := ⟨⟨intA (f 0), intA (f 1), intA (f 2), intA (f 3), intA (f 4)⟩, intA (f 5), intA (f 6), intA (f 7)⟩
theorem cellsOfr {f : Nat → A} (h : ShAs shOfr f 0) : ∀ j, j < 8 → f j = getA (ofOfr f).cells j := by
 obtain ⟨h0, h1, h2, h3, h4, h5, h6, h7, _⟩ := h
 intro j hj
 match j, hj with
 | 0, _ => exact int_of h0
 | 1, _ => exact int_of h1
 | 2, _ => exact int_of h2
 | 3, _ => exact int_of h3
 | 4, _ => exact int_of h4
 | 5, _ => exact int_of h5
 | 6, _ => exact int_of h6
 | 7, _ => exact int_of h7
theorem listOfr {n : Nat} {el : Nat → Nat → A} (h : ∀ i, i < n → ShAs shOfr (el i) 0) : ∃ l : List Ofr, l.length = n ∧ LeA (.sl 8 n el) (slOfr l) := by
 refine ⟨(List.range n).map fun i => ofOfr (el i), by simp, LeA.sl (by simp) fun i hi j hj => ?_⟩
 rw [cellsOfr (h i hi) j hj]
 simp [rowL, hi]
def shNod : List Sh := [.int .i64, .int .i64, .bool, .str, .int .i64, .sl 11 shItm, .sl 11 shItm, .sl 8 shOfr]
def shEvt : List Sh := [.int .i64, .int .i64, .int .i64, .int .i64, .int .i64, .int .i64, .int .i64, .int .i64, .int .i64, .int .i64, .int .i64, .bool, .str, .int .i64, .int .i64, .int .i64, .int .i64, .int .i64, .int .i64, .int .i64, .bool, .int .i64]
def ofEvt (f : Nat → A) : Evt := ⟨intA (f 0), intA (f 1), ⟨intA (f 2), ⟨intA (f 3), intA (f 4), intA (f 5), intA (f 6), intA (f 7)⟩, intA (f 8), intA (f 9), intA (f 10), boolA (f 11), strA (f 12)⟩, ⟨intA (f 13), intA (f 14), intA (f 15), intA (f 16), intA (f 17)⟩, intA (f 18), intA (f 19), boolA (f 20), intA (f 21)⟩
theorem cellsEvt {f : Nat → A} (h : ShAs shEvt f 0) : ∀ j, j < 22 → f j = getA (ofEvt f).cells j := by
 obtain ⟨h0, h1, h2, h3, h4, h5, h6, h7, h8, h9, h10, h11, h12, h13, h14, h15, h16, h17, h18, h19, h20, h21, _⟩ := h
 intro j hj
 match j, hj with
 | 0, _ => exact int_of h0
 | 1, _ => exact int_of h1
 | 2, _ => exact int_of h2
 | 3, _ => exact int_of h3
 | 4, _ => exact int_of h4
 | 5, _ => exact int_of h5
 | 6, _ => exact int_of h6
 | 7, _ => exact int_of h7
 | 8, _ => exact int_of h8
 | 9, _ => exact int_of h9
 | 10, _ => exact int_of h10
 | 11, _ => exact bool_of h11
 | 12, _ => exact str_of h12
 | 13, _ => exact int_of h13
 | 14, _ => exact int_of h14
 | 15, _ => exact int_of h15
 | 16, _ => exact int_of h16
 | 17, _ => exact int_of h17
 | 18, _ => exact int_of h18
 | 19, _ => exact int_of h19
 | 20, _ => exact bool_of h20
 | 21, _ => exact int_of h21
 | n + 22, h => exact absurd h (by omega)
theorem listEvt {n : Nat} {el : Nat → Nat → A} (h : ∀ i, i < n → ShAs shEvt (el i) 0) : ∃ l : List Evt, l.length = n ∧ LeA (.sl 22 n el) (slEvt l) := by
 refine ⟨(List.range n).map fun i => ofEvt (el i), by simp, LeA.sl (by simp) fun i hi j hj => ?_⟩
 rw [cellsEvt (h i hi) j hj]
 simp [rowL, hi]
end Go.Mb
namespace Go.Proofs.YtggjngbighkdgaaGreat
open Go.Sy Go.Mb
set_option maxRecDepth 100000
section
variable {H : Type} {enc : TypeId × Value → H} {W : World} {base : Nat} {spare : Nat → Bool} {held : Bool} {v : Value} {dd : DataW H} {ps : List MemPlace} {r : Reach} {b0 : Nat}
theorem argNod (hok : Value.okWide Tryz.prog W r b0 27 v) (h : DataW.Trod enc Tryz.prog W base spare held 27 v dd ps) : ∃ x : Nod, R W (fun _ => False) (.agg x.cells) virg v := by
 obtain ⟨cs, hl, hr, hs⟩ := lift_arg (X := fun _ => False) (fun _ h => h) (show shOf Tryz.prog 6 27 = some shNod by kernel_rfl) hok h
 have harg : argA Tryz.prog 27 cs = .agg cs := by unfold argA; rw [show isAggT Tryz.prog 27 = some true by kernel_rfl]
 rw [harg] at hr
 obtain ⟨h0, h1, h2, h3, h4, ⟨n5, el5, e5, _, hel5⟩, ⟨n6, el6, e6, _, hel6⟩, ⟨n7, el7, e7, _, hel7⟩, _⟩ := hs
 obtain ⟨l5, _, hle5⟩ := listItm hel5
 obtain ⟨l6, _, hle6⟩ := listItm hel6
 obtain ⟨l7, _, hle7⟩ := listOfr hel7
 refine ⟨⟨intA (getA cs 0), intA (getA cs 1), boolA (getA cs 2), strA (getA cs 3), intA (getA cs 4), ⟨l5, l6⟩, l7⟩, LeA.agg (LeL_get (by rw [hl]; rfl) fun j hj => ?_) _ _ _ _ hr⟩
 rw [hl] at hj
 match j, hj with
 | 0, _ => exact LeA.of (int_of h0)
 | 1, _ => exact LeA.of (int_of h1)
 | 2, _ => exact LeA.of (bool_of h2)
 | 3, _ => exact LeA.of (str_of h3)
 | 4, _ => exact LeA.of (int_of h4)
 | 5, _ => rw [show getA cs 5 = _ from e5]; exact hle5
 | 6, _ => rw [show getA cs 6 = _ from e6]; exact hle6
 | 7, _ => rw [show getA cs 7 = _ from e7]; exact hle7
theorem argEvt (hok : Value.okWide Tryz.prog W r b0 43 v) (h : DataW.Trod enc Tryz.prog W base spare held 43 v dd ps) : ∃ x : Evt, R W (fun _ => False) (.agg x.cells) virg v := by
 obtain ⟨cs, hl, hr, hs⟩ := lift_arg (X := fun _ => False) (fun _ h => h) (show shOf Tryz.prog 6 43 = some shEvt by kernel_rfl) hok h
 have harg : argA Tryz.prog 43 cs = .agg cs := by unfold argA; rw [show isAggT Tryz.prog 43 = some true by kernel_rfl]
 rw [harg] at hr
 have hc := cellsEvt hs
 exact ⟨_, LeA.agg (LeL_get (by rw [hl]; rfl) fun j hj => LeA.of (hc j (by rw [hl] at hj; exact hj))) _ _ _ _ hr⟩
theorem argEvts (hok : Value.okWide Tryz.prog W r b0 36 v) (h : DataW.Trod enc Tryz.prog W base spare held 36 v dd ps) : ∃ x : List Evt, R W (fun _ => False) (slEvt x) virg v := by
 obtain ⟨cs, hl, hr, hs⟩ := lift_arg (X := fun _ => False) (fun _ h => h) (show shOf Tryz.prog 6 36 = some [.sl 22 shEvt] by kernel_rfl) hok h
 have harg : argA Tryz.prog 36 cs = getA cs 0 := by unfold argA; rw [show isAggT Tryz.prog 36 = some false by kernel_rfl]
 rw [harg] at hr
 obtain ⟨⟨n, el, e0, _, hel⟩, _⟩ := hs
 obtain ⟨l, _, hle⟩ := listEvt hel
 rw [show getA cs 0 = _ from e0] at hr
 exact ⟨l, hle _ _ _ _ hr⟩
end
end Go.Proofs.YtggjngbighkdgaaGreat

