import Derived.Test.YtggjngbighkdgaaGreatB10
set_option linter.unusedSimpArgs false
set_option linter.unusedSectionVars false
set_option linter.unusedVariables false
namespace Go.Proofs.YtggjngbighkdgaaGreat
open Go.Sy Go.Mb
set_option maxRecDepth 100000
set_option maxHeartbeats 4000000
def nod0 (a b : Nat) : Nod := ⟨((a % 16 : Nat) : Int), (b : Int), true, .empty, 0, ⟨[], []⟩, []⟩
theorem start_ok (a b : Nat) (ha : a < 256) (hb : b < 256) (l : List Evt) : FnOK Tryz.prog 29 [.int .u8 (a : Nat), .int .u8 (b : Nat), slEvt l] (.tup [.agg (nod0 a b).cells, .bool (decide (l.length ≤ 20) && !l.any greatE)], none) := by
 have e1 : newN ((IntKind.i64.wrap ((a : Nat) : Int)).tmod 16) (IntKind.i64.wrap ((b : Nat) : Int)) = (nod0 a b, 0) := by
  rw [wrap_i64 (by omega) (by omega), wrap_i64 (by omega) (by omega)]
  have e2 : ((a : Int)).tmod 16 = ((a % 16 : Nat) : Int) := (Int.ofNat_tmod a 16).symm
  rw [e2]
  unfold newN
  rw [if_neg]
  ·rfl
  ·rw [Bool.or_eq_true, Bool.not_eq_true', Bool.not_eq_true', ← Bool.not_eq_true, ← Bool.not_eq_true, inR_iff, inR_iff]
   omega
 have cn := nNew_ok ((IntKind.i64.wrap ((a : Nat) : Int)).tmod 16) (IntKind.i64.wrap ((b : Nat) : Int))
 rw [e1] at cn
 by_cases hl : l.length ≤ 20
 ·refine fn_ok CF rfl (by kernel_rfl) Tryz.func29 rfl ?_
  refine Sat.go (Eq.refl _) (NS.need (rfl) ?_)
  refine Sat.go (Eq.refl _) (NS.call (cn) rfl ?_)
  refine Sat.go (Eq.refl _) (NS.chk (by kernel_rfl) ?_)
  refine Sat.go (Eq.refl _) (NS.yes (rfl) ?_)
  refine Sat.go (Eq.refl _) (NS.yes (decide_eq_true (by show (l.length : Int) ≤ 20; omega)) ?_)
  refine Sat.go (Eq.refl _) (NS.call (contE_ok l (by omega)) rfl ?_)
  exact Sat.go (Eq.refl _) (NS.ret rfl rfl (LeA.tup2 (LeA.refl _) (LeA.of (congrArg A.bool (by rw [decide_eq_true hl, Bool.true_and])))))
 ·refine fn_ok CF rfl (by kernel_rfl) Tryz.func29 rfl ?_
  refine Sat.go (Eq.refl _) (NS.need (rfl) ?_)
  refine Sat.go (Eq.refl _) (NS.call (cn) rfl ?_)
  refine Sat.go (Eq.refl _) (NS.chk (by kernel_rfl) ?_)
  refine Sat.go (Eq.refl _) (NS.yes (rfl) ?_)
  refine Sat.go (Eq.refl _) (NS.no (decide_eq_false (by show ¬ (l.length : Int) ≤ 20; omega)) ?_)
  exact Sat.go (Eq.refl _) (NS.ret rfl rfl (LeA.tup2 (LeA.refl _) (LeA.of (congrArg A.bool (by rw [decide_eq_false hl, Bool.false_and])))))
theorem val0 (a b : Nat) (hb : b < 256) : Val (nod0 a b) := by
 have hls : ls (nod0 a b).jour = [] := rfl
 have hr : rdJ ([] : List Nat) = ([], 0) := by
  rw [rdJ_eq (fun x hx => by cases hx)]
  rfl
 refine ⟨⟨Nat.zero_le _, by rw [hls, hr]; rfl, by rw [hls, hr]; rfl⟩, rfl, inR_iff.2 ⟨Int.natCast_nonneg _, ?_⟩, inR_iff.2 ⟨Int.natCast_nonneg _, ?_⟩, by rfl, ?_, by rfl, fun o ho => by cases ho⟩
 ·show ((a % 16 : Nat) : Int) ≤ 15
  omega
 ·show ((b : Nat) : Int) ≤ _
  omega
 ·show usedM [] ≤ ((b : Nat) : Int)
  exact Int.natCast_nonneg _
theorem val_szn {n : Nod} (h : Val n) : Szn n 0 := by
 obtain ⟨h1, h2⟩ := items_len h.j
 exact ⟨by omega, by omega, Nat.le_trans h.j.sz (by decide), by have := ((ofs_iff _).1 h.of).1; omega⟩
theorem val_chk {n : Nod} (h : Val n) : chkN n = 0 := ((val_iff n).2 h).1
theorem hand_go {n : Nod} (h : Val n) (e : Evt) : handM n e = goM n e := by
 unfold handM
 rw [if_neg (by rw [val_chk h]; exact zero3)]
theorem hand_ok {n : Nod} (h : Val n) (e : Evt) : FnOK Tryz.prog 27 [.agg n.cells, .agg e.cells] (nodA (goM n e), none) := by
 rw [← hand_go h e]
 exact nHandle_ok n e ((val_szn h).le (by omega))
structure Grow (n n' : Nod) (r : Jrec) : Prop where
 jour : ls n'.jour = ls n.jour ++ sealL (conL r)
 last : n'.last = (n'.jour.size : Int)
 self : n'.self = n.self
 quota : n'.quota = n.quota
 ofs : n'.ofs = n.ofs
inductive PutR (n n' : Nod) (x : Itm) (t : Int) : Int → Int → Prop
 | old : n' = n → PutR n n' x t 3 5
 | full : n' = n → PutR n n' x t 3 4
 | dupo : n' = n → (findM n.dur x.id).2 = true → PutR n n' x t 3 3
 | dup : n' = n → (findM n.dur x.id).2 = true ∨ n.dur.inbox.any (hasId x.id) = true → PutR n n' x t 2 3
 | box : n'.dur = ⟨n.dur.items, n.dur.inbox ++ [x]⟩ → x.dest = n.self → Grow n n' ⟨3, x, .zero, 0, t⟩ → PutR n n' x t 2 2
 | item : n'.dur = ⟨n.dur.items ++ [x], n.dur.inbox⟩ → Grow n n' ⟨1, x, .zero, 0, t⟩ → PutR n n' x t 2 1
theorem idx_ge {α : Type} [Inhabited α] (p : α → Bool) (l : List α) : (0 ≤ idx p l) ↔ l.any p = true := by
 rw [← idx_any, decide_eq_true_eq]
theorem found_any (d : Dur) (id : Nid) : (findM d id).2 = d.items.any (hasId id) := by
 rw [Bool.eq_iff_iff, find_iff, List.any_eq_true]
 refine exists_congr fun x => and_congr Iff.rfl ?_
 unfold hasId
 rw [Nid.eqv_iff]
theorem put_res {w : Wst} (h : Val w.n) (ha : w.acts = []) (he : w.err = 0) (hl : w.n.last = (w.n.jour.size : Int)) {e : Evt} (hx : okItem e.item = true) (ht : inR e.time 0 1099511627776 = true) (h0 : (putW w e).err = 0) :
  ∃ k r, (putW w e).acts = [⟨k, e.item, 0, r⟩] ∧ PutR w.n (putW w e).n e.item e.time k r := by
 have hg := (good_iff _).2 h.j.good
 have hlen := items_len h.j
 obtain ⟨s1, s2⟩ := inR_iff.1 h.se
 have hp0 : putM w.n.dur w.n.self w.n.quota e.item e.time = if e.item.expires ≤ e.time then ([], 5, 0)
   else if 0 ≤ idx (hasId e.item.id) w.n.dur.items ∨ 0 ≤ idx (hasId e.item.id) w.n.dur.inbox then ([], 3, 0)
   else if e.item.dest = w.n.self then ([⟨3, e.item, .zero, 0, e.time⟩], 2, 0)
   else if IntKind.i64.wrap (usedM w.n.dur.items + (e.item.data.size : Int)) > w.n.quota then ([], 4, 0)
   else ([⟨1, e.item, .zero, 0, e.time⟩], 1, 0) := by
  unfold putM
  rw [if_neg (by rw [hg, hx]; decide), if_neg (by rw [h.qu, ht]; simp; omega)]
 have hnil : ∀ r : Int, putM w.n.dur w.n.self w.n.quota e.item e.time = ([], r, 0) → (putW w e).acts = [⟨kindP w e r, e.item, 0, r⟩] ∧ (putW w e).n = w.n := by
  intro r hp
  unfold putW
  rw [hp, if_neg zero3]
  refine ⟨?_, rfl⟩
  show w.acts ++ [_] = _
  rw [ha]; rfl
 have hone : ∀ (k r : Int) (hkk : k = 1 ∨ k = 3), putM w.n.dur w.n.self w.n.quota e.item e.time = ([⟨k, e.item, .zero, 0, e.time⟩], r, 0) → recErr ⟨k, e.item, .zero, 0, e.time⟩ = 0 →
   (∃ m, (putW w e).acts = [⟨kindP m e r, e.item, 0, r⟩]) ∧ (putW w e).n.dur = effM w.n.dur ⟨k, e.item, .zero, 0, e.time⟩ ∧ Grow w.n (putW w e).n ⟨k, e.item, .zero, 0, e.time⟩ := by
  intro k r hkk hp hre
  have hpw : putW w e = (w.write [⟨k, e.item, .zero, 0, e.time⟩]).act ⟨kindP w e r, e.item, 0, r⟩ := by
   unfold putW
   rw [hp, if_neg zero3]
  rw [hpw] at h0 ⊢
  have h0 : (if (wr w.n ⟨k, e.item, .zero, 0, e.time⟩).2 != 0 then (wr w.n ⟨k, e.item, .zero, 0, e.time⟩).2 else w.err) = 0 := h0
  rcases wr_both h.j hre with ⟨e1, _⟩ | ⟨e1, e2, e3, e4, e5, e6⟩
  ·rw [e1] at h0; cases h0
  ·have hn : ((w.write [⟨k, e.item, .zero, 0, e.time⟩]).act ⟨kindP w e r, e.item, 0, r⟩).n = wrN w.n ⟨k, e.item, .zero, 0, e.time⟩ := by
    show (wr w.n ⟨k, e.item, .zero, 0, e.time⟩).1 = _
    rw [e1]
   have hla : (wrN w.n ⟨k, e.item, .zero, 0, e.time⟩).last = ((wrN w.n ⟨k, e.item, .zero, 0, e.time⟩).jour.size : Int) := by
    unfold wrN
    rcases hkk with rfl | rfl <;> rfl
   refine ⟨⟨w, ?_⟩, by rw [hn]; exact e4, ?_⟩
   ·show w.acts ++ [_] = _
    rw [ha]; rfl
   ·rw [hn]
    exact ⟨e5, hla, rfl, rfl, rfl⟩
 by_cases q1 : e.item.expires ≤ e.time
 ·rw [if_pos q1] at hp0
  obtain ⟨a1, a2⟩ := hnil 5 hp0
  exact ⟨_, _, a1, .old a2⟩
 rw [if_neg q1] at hp0
 by_cases q2 : 0 ≤ idx (hasId e.item.id) w.n.dur.items ∨ 0 ≤ idx (hasId e.item.id) w.n.dur.inbox
 ·rw [if_pos q2] at hp0
  obtain ⟨a1, a2⟩ := hnil 3 hp0
  cases q : w.n.ofs.any (ofId e.item.id)
  ·have hk : kindP w e 3 = 2 := by unfold kindP; rw [q]; rfl
   rw [hk] at a1
   refine ⟨_, _, a1, .dup a2 ?_⟩
   rw [found_any]
   rw [idx_ge, idx_ge] at q2
   exact q2
  ·have hk : kindP w e 3 = 3 := by unfold kindP; rw [q]; rfl
   rw [hk] at a1
   refine ⟨_, _, a1, .dupo a2 ?_⟩
   obtain ⟨o, ho, hi⟩ := List.any_eq_true.1 q
   have := h.fd o ho
   unfold ofId at hi
   rw [Nid.eqv_iff.1 hi] at this
   exact this
 rw [if_neg q2] at hp0
 have hw : ∀ l : List Itm, ¬ 0 ≤ idx (hasId e.item.id) l → withM l e.item = l ++ [e.item] := by
  intro l hl
  unfold withM
  rw [if_neg (fun q => hl q)]
 by_cases q3 : e.item.dest = w.n.self
 ·rw [if_pos q3] at hp0
  obtain ⟨⟨m, a1⟩, a2, a3⟩ := hone 3 2 (.inr rfl) hp0 (recErr3 hx ht)
  have hk : kindP m e 2 = 2 := rfl
  rw [hk] at a1
  refine ⟨_, _, a1, .box ?_ q3 a3⟩
  rw [a2, ← hw _ (fun q => q2 (.inr q))]
  rfl
 rw [if_neg q3] at hp0
 by_cases q4 : IntKind.i64.wrap (usedM w.n.dur.items + (e.item.data.size : Int)) > w.n.quota
 ·rw [if_pos q4] at hp0
  obtain ⟨a1, a2⟩ := hnil 4 hp0
  exact ⟨_, _, a1, .full a2⟩
 rw [if_neg q4] at hp0
 obtain ⟨⟨m, a1⟩, a2, a3⟩ := hone 1 1 (.inl rfl) hp0 (recErr1 hx ht)
 have hk : kindP m e 1 = 2 := rfl
 rw [hk] at a1
 refine ⟨_, _, a1, .item ?_ a3⟩
 rw [a2, ← hw _ (fun q => q2 (.inl q))]
 rfl
theorem go_put {n : Nod} (h : Val n) {e : Evt} (hz : (goM n e).2.2 = 0) (hk : e.kind = 1) : ∃ k r, (goM n e).2.1 = [⟨k, e.item, 0, r⟩] ∧ PutR (startW n).n (goM n e).1 e.item e.time k r := by
 obtain ⟨g1, g2, g3, _⟩ := go_val h hz
 obtain ⟨_, k2, k3⟩ := evE_ok g1
 rw [hk] at k3
 have hkw : kindW (startW n) e = putW (startW n) e := by
  unfold kindW
  rw [if_pos (by rw [hk]; rfl)]
 have h0 : (kindW (startW n) e).err = 0 := by
  unfold goM at hz g3
  split at hz
  ·rename_i q; simp only at hz; rw [hz] at q; cases q
  rename_i q
  split at hz
  ·cases hz
  split at hz
  ·rename_i q3; simp only at hz; rw [hz] at q3; cases q3
  ·rename_i q3; simpa using q3
 rw [hkw] at h0 g3
 rw [g3]
 exact put_res h.lastN rfl rfl rfl k3 k2 h0
end Go.Proofs.YtggjngbighkdgaaGreat

namespace Go.Proofs.YtggjngbighkdgaaGreat
open Go.Sy Go.Mb
set_option maxRecDepth 100000
set_option maxHeartbeats 4000000
theorem ans1_ok (e : Evt) (x : Itm) : FnOK Tryz.prog 45 [.agg x.cells, .ip 22 (getA e.cells)] (.bool (hasId e.item.id x), none) := by
 refine fn_ok CF rfl (by kernel_rfl) Tryz.func45 rfl ?_
 exact Sat.go (Eq.refl _) (NS.ret rfl rfl (LeA.refl _))
theorem idxI_ok (l : List Itm) (hl : l.length ≤ 1000000) (f c : Nat) (el : Nat → A) (p : Itm → Bool) (hc : ∀ x, FnOK Tryz.prog f [.agg (Itm.cells x), .ip c el] (.bool (p x), none)) : FnOK Tryz.prog 84 [slItm l, .fn f [.ip c el]] (.int .i64 (idx p l), none) := by
 refine fn_ok CF rfl (by kernel_rfl) Tryz.func84 rfl ?_
 refine Sat.go (Eq.refl _) ?_
 refine NS.loop (σ := { k : Nat // k ≤ l.length ∧ ∀ i, i < k → p (l.getD i default) = false }) (fun k => [(0, slItm l), (1, .fn f [.ip c el]), (7, .int .i64 l.length), (8, .int .i64 k.1)]) (fun _ => []) (fun k => l.length - k.1) ⟨0, Nat.zero_le _, fun i hi => by omega⟩ ?_ ?_
 ·exact weak_hd [] rfl ⟨rfl, rfl, rfl, rfl, trivial⟩ trivial trivial (by kernel_rfl)
 rintro ⟨k, hk, hn⟩
 refine Sat.go (Eq.refl _) (NS.ite (fun h => ?_) (fun h => ?_))
 ·have h : k < l.length := by simpa using h
  repeat' (first | (refine Sat.go (Eq.refl _) (NS.chk (by kernel_rfl) ?_)) | (refine Sat.go (Eq.refl _) (NS.need (by simp; omega) ?_)))
  refine Sat.go (Eq.refl _) (NS.call (hc (l.getD k default)) rfl ?_)
  refine Sat.go (Eq.refl _) (NS.ite (fun h2 => ?_) (fun h2 => ?_))
  ·exact Sat.go (Eq.refl _) (NS.leaveOut rfl (Eq.refl _) (NS.ret rfl rfl (LeA.of (congrArg (A.int .i64) ((idx_found (by omega) h2 hn).symm)))))
  ·refine Sat.go (Eq.refl _) (NS.next ⟨k + 1, by omega, fun i hi => ?_⟩ (by simp; omega) ?_)
   ·by_cases hik : i = k
    ·subst hik; exact h2
    ·exact hn i (by omega)
   ·exact weak_hd [] rfl ⟨rfl, rfl, rfl, ren_int rfl (i64_k (by omega) (by omega)), trivial⟩ trivial trivial (by kernel_rfl)
 ·have h : ¬ k < l.length := by simpa using h
  refine Sat.go (Eq.refl _) (NS.leave rfl (Eq.refl _) ?_)
  exact Sat.go (Eq.refl _) (NS.ret rfl rfl (LeA.of (congrArg (A.int .i64) ((idx_none fun i hi => hn i (by omega)).symm))))
theorem contI_ok (l : List Itm) (hl : l.length ≤ 1000000) (f c : Nat) (el : Nat → A) (p : Itm → Bool) (hc : ∀ x, FnOK Tryz.prog f [.agg (Itm.cells x), .ip c el] (.bool (p x), none)) : FnOK Tryz.prog 42 [slItm l, .fn f [.ip c el]] (.bool (l.any p), none) := by
 refine fn_ok CF rfl (by kernel_rfl) Tryz.func42 rfl ?_
 refine Sat.go (Eq.refl _) (NS.call (idxI_ok l hl f c el p hc) rfl ?_)
 exact Sat.go (Eq.refl _) (NS.ret rfl rfl (LeA.of (congrArg A.bool (idx_any p l))))
theorem ans_of {n n' : Nod} {x : Itm} {t k r : Int} (h : PutR n n' x t k r) : (k = 2 ∧ ((findM n'.dur x.id).2 = true ∨ n'.dur.inbox.any (hasId x.id) = true) ∧ r ≠ 4 ∧ r ≠ 5) ∨ (k = 3 ∧ n' = n ∧ (r = 3 → (findM n'.dur x.id).2 = true)) := by
 cases h with
 | old h => exact .inr ⟨rfl, h, fun q => by cases q⟩
 | full h => exact .inr ⟨rfl, h, fun q => by cases q⟩
 | dupo h h2 => exact .inr ⟨rfl, h, fun _ => by rw [h]; exact h2⟩
 | dup h h2 => exact .inl ⟨rfl, by rw [h]; exact h2, by decide, by decide⟩
 | box h _ _ => exact .inl ⟨rfl, .inr (by rw [h]; show (n.dur.inbox ++ [x]).any _ = true; rw [List.any_append]; simp [hasId_self]), by decide, by decide⟩
 | item h _ => exact .inl ⟨rfl, .inl (by rw [found_any, h]; show (n.dur.items ++ [x]).any _ = true; rw [List.any_append]; simp [hasId_self]), by decide, by decide⟩
theorem nodeAnswers_ok (a : Nat) (ha : a < 256) (b : Nat) (hb : b < 256) (l : List Evt) : FnOK Tryz.prog 9 [.int .u8 (a : Nat), .int .u8 (b : Nat), slEvt l] (.bool true, none) := by
 have cs := start_ok a b ha hb l
 cases hs : (decide (l.length ≤ 20) && !l.any greatE)
 ·rw [hs] at cs
  refine fn_ok CF rfl (by kernel_rfl) Tryz.func9 rfl ?_
  refine Sat.go (Eq.refl _) (NS.call (cs) rfl ?_)
  refine Sat.go (Eq.refl _) (NS.yes (rfl) ?_)
  refine Sat.go (Eq.refl _) (NS.call (awakeN_ok) rfl ?_)
  exact Sat.go (Eq.refl _) (NS.ret rfl rfl (LeA.refl _))
 rw [hs] at cs
 rw [Bool.and_eq_true, decide_eq_true_eq] at hs
 have hl := hs.1
 refine fn_ok CF rfl (by kernel_rfl) Tryz.func9 rfl ?_
 refine Sat.go (Eq.refl _) (NS.call (cs) rfl ?_)
 refine Sat.go (Eq.refl _) (NS.no (rfl) ?_)
 refine Sat.go (Eq.refl _) ?_
 refine NS.loop (σ := { q : Nat × Nod // q.1 ≤ l.length ∧ Val q.2 }) (fun q => [(7, .ptr 7 0), (28, slEvt l), (29, .int .i64 l.length), (30, .int .i64 (q.1.1 : Nat))]) (fun q => [(7, .box q.1.2.cells)]) (fun q => l.length - q.1.1) ⟨(0, nod0 a b), Nat.zero_le _, val0 a b hb⟩ ?_ ?_
 ·exact weak_hd [] rfl ⟨rfl, rfl, rfl, rfl, trivial⟩ ⟨⟨_, rfl, renNod _ _⟩, trivial⟩ trivial (by kernel_rfl)
 rintro ⟨⟨k, m⟩, hk, hv⟩
 have hk : k ≤ l.length := hk
 have hv : Val m := hv
 refine Sat.go (Eq.refl _) (NS.ite (fun h => ?_) (fun h => ?_))
 ·have h : k < l.length := by simpa using h
  have ch := hand_ok hv (l.getD k default)
  have hgv := fun hz0 => (go_val hv (e := l.getD k default) hz0).2.1
  have hgp := fun hz0 => go_put hv (e := l.getD k default) hz0
  refine Sat.go (Eq.refl _) (NS.need (by simp; omega) ?_)
  refine Sat.go (Eq.refl _) (NS.call (ch) rfl ?_)
  generalize goM m (l.getD k default) = z at *
  obtain ⟨z1, z2, z3⟩ := z
  refine Sat.go (Eq.refl _) (NS.ite (fun a3 => ?_) (fun a3 => ?_))
  ·refine Sat.go (Eq.refl _) (NS.next ⟨(k + 1, m), by show k + 1 ≤ l.length; omega, hv⟩ (by show l.length - (k + 1) < l.length - k; omega) ?_)
   exact weak_hd [] rfl ⟨rfl, rfl, rfl, ren_int rfl (i64_k (k := k) (n := l.length) h (by omega)), trivial⟩ ⟨⟨_, rfl, renNod _ _⟩, trivial⟩ trivial (by kernel_rfl)
  have hz3 : z3 = 0 := by have a3 : (z3 != 0) = false := a3; simpa using a3
  have hv1 : Val z1 := hgv hz3
  obtain ⟨q1, q2⟩ := items_len hv1.j
  obtain ⟨q3, q4⟩ := items_len hv.j
  refine Sat.go (Eq.refl _) (NS.ite (fun a4 => ?_) (fun a4 => ?_))
  ·have hkind : (l.getD k default).kind = 1 := by have a4 : ((l.getD k default).kind == 1) = true := a4; simpa using a4
   obtain ⟨kk, r, hact, hput⟩ := hgp hz3 hkind
   have hact : z2 = [⟨kk, (l.getD k default).item, 0, r⟩] := hact
   have hput : PutR (startW m).n z1 (l.getD k default).item (l.getD k default).time kk r := hput
   subst hact
   have hans := ans_of hput
   refine Sat.wk (weak_freezeP 10 10 22 rfl rfl rfl rfl) ?_
   refine Sat.go (Eq.refl _) (NS.chk (by kernel_rfl) ?_)
   refine Sat.go (Eq.refl _) (NS.no (rfl) ?_)
   refine Sat.go (Eq.refl _) (NS.need (rfl) ?_)
   refine Sat.go (Eq.refl _) (NS.call (sameItem_ok (l.getD k default).item (l.getD k default).item) rfl ?_)
   refine Sat.go (Eq.refl _) (NS.no (by rw [Itm.eqv_iff.2 rfl]; rfl) ?_)
   refine Sat.go (Eq.refl _) (NS.call (find_ok z1.dur (l.getD k default).item.id (by omega)) rfl ?_)
   refine Sat.go (Eq.refl _) (NS.call (contI_ok z1.dur.inbox (by omega) 45 22 (getA (l.getD k default).cells) (hasId (l.getD k default).item.id) (ans1_ok (l.getD k default))) rfl ?_)
   refine Sat.go (Eq.refl _) (NS.need (rfl) ?_)
   rcases hans with ⟨rfl, h2, h3, h4⟩ | ⟨rfl, h2, h3⟩
   ·refine Sat.go (Eq.refl _) (NS.no (rfl) ?_)
    refine Sat.go (Eq.refl _) (NS.yes (rfl) ?_)
    refine Sat.go (Eq.refl _) (NS.ite (fun f1 => ?_) (fun f1 => ?_))
    ·have h2 : z1.dur.inbox.any (hasId (l.getD k default).item.id) = true := h2.resolve_left (by have f1 : (!(findM z1.dur (l.getD k default).item.id).2) = true := f1; simpa using f1)
     refine Sat.go (Eq.refl _) (NS.no (by rw [h2]; rfl) ?_)
     refine Sat.go (Eq.refl _) (NS.no (by simpa using h3) ?_)
     refine Sat.go (Eq.refl _) (NS.no (by simpa using h4) ?_)
     refine Sat.go (Eq.refl _) (NS.no (rfl) ?_)
     refine Sat.go (Eq.refl _) (NS.next ⟨(k + 1, z1), by show k + 1 ≤ l.length; omega, hv1⟩ (by show l.length - (k + 1) < l.length - k; omega) ?_)
     exact weak_hd [] rfl ⟨rfl, rfl, rfl, ren_int rfl (i64_k (k := k) (n := l.length) h (by omega)), trivial⟩ ⟨⟨_, rfl, renNod _ _⟩, trivial⟩ trivial (by kernel_rfl)
    ·refine Sat.go (Eq.refl _) (NS.no (by simpa using h3) ?_)
     refine Sat.go (Eq.refl _) (NS.no (by simpa using h4) ?_)
     refine Sat.go (Eq.refl _) (NS.no (rfl) ?_)
     refine Sat.go (Eq.refl _) (NS.next ⟨(k + 1, z1), by show k + 1 ≤ l.length; omega, hv1⟩ (by show l.length - (k + 1) < l.length - k; omega) ?_)
     exact weak_hd [] rfl ⟨rfl, rfl, rfl, ren_int rfl (i64_k (k := k) (n := l.length) h (by omega)), trivial⟩ ⟨⟨_, rfl, renNod _ _⟩, trivial⟩ trivial (by kernel_rfl)
   ·have hd : z1.dur = m.dur := by have q : z1 = (startW m).n := h2; rw [q]; rfl
    refine Sat.go (Eq.refl _) (NS.yes (rfl) ?_)
    refine Sat.go (Eq.refl _) (NS.no (rfl) ?_)
    refine Sat.go (Eq.refl _) (NS.no (rfl) ?_)
    refine Sat.go (Eq.refl _) (NS.ite (fun g1 => ?_) (fun g1 => ?_))
    ·refine Sat.go (Eq.refl _) (NS.no (rfl) ?_)
     refine Sat.go (Eq.refl _) (NS.call (same_ok m.dur z1.dur (by omega) (by omega)) rfl ?_)
     refine Sat.go (Eq.refl _) (NS.no (by rw [sameD_iff.2 hd.symm]; rfl) ?_)
     refine Sat.go (Eq.refl _) (NS.yes (rfl) ?_)
     refine Sat.go (Eq.refl _) (NS.ite (fun g3 => ?_) (fun g3 => ?_))
     ·have g3 : r = 3 := by have g3 : (r == 3) = true := g3; simpa using g3
      refine Sat.go (Eq.refl _) (NS.no (by rw [h3 g3]; rfl) ?_)
      refine Sat.go (Eq.refl _) (NS.next ⟨(k + 1, z1), by show k + 1 ≤ l.length; omega, hv1⟩ (by show l.length - (k + 1) < l.length - k; omega) ?_)
      exact weak_hd [] rfl ⟨rfl, rfl, rfl, ren_int rfl (i64_k (k := k) (n := l.length) h (by omega)), trivial⟩ ⟨⟨_, rfl, renNod _ _⟩, trivial⟩ trivial (by kernel_rfl)
     ·refine Sat.go (Eq.refl _) (NS.next ⟨(k + 1, z1), by show k + 1 ≤ l.length; omega, hv1⟩ (by show l.length - (k + 1) < l.length - k; omega) ?_)
      exact weak_hd [] rfl ⟨rfl, rfl, rfl, ren_int rfl (i64_k (k := k) (n := l.length) h (by omega)), trivial⟩ ⟨⟨_, rfl, renNod _ _⟩, trivial⟩ trivial (by kernel_rfl)
    ·refine Sat.go (Eq.refl _) (NS.ite (fun g2 => ?_) (fun g2 => ?_))
     ·refine Sat.go (Eq.refl _) (NS.no (rfl) ?_)
      refine Sat.go (Eq.refl _) (NS.call (same_ok m.dur z1.dur (by omega) (by omega)) rfl ?_)
      refine Sat.go (Eq.refl _) (NS.no (by rw [sameD_iff.2 hd.symm]; rfl) ?_)
      refine Sat.go (Eq.refl _) (NS.yes (rfl) ?_)
      refine Sat.go (Eq.refl _) (NS.ite (fun g3 => ?_) (fun g3 => ?_))
      ·have g3 : r = 3 := by have g3 : (r == 3) = true := g3; simpa using g3
       refine Sat.go (Eq.refl _) (NS.no (by rw [h3 g3]; rfl) ?_)
       refine Sat.go (Eq.refl _) (NS.next ⟨(k + 1, z1), by show k + 1 ≤ l.length; omega, hv1⟩ (by show l.length - (k + 1) < l.length - k; omega) ?_)
       exact weak_hd [] rfl ⟨rfl, rfl, rfl, ren_int rfl (i64_k (k := k) (n := l.length) h (by omega)), trivial⟩ ⟨⟨_, rfl, renNod _ _⟩, trivial⟩ trivial (by kernel_rfl)
      ·refine Sat.go (Eq.refl _) (NS.next ⟨(k + 1, z1), by show k + 1 ≤ l.length; omega, hv1⟩ (by show l.length - (k + 1) < l.length - k; omega) ?_)
       exact weak_hd [] rfl ⟨rfl, rfl, rfl, ren_int rfl (i64_k (k := k) (n := l.length) h (by omega)), trivial⟩ ⟨⟨_, rfl, renNod _ _⟩, trivial⟩ trivial (by kernel_rfl)
     ·refine Sat.go (Eq.refl _) (NS.yes (rfl) ?_)
      refine Sat.go (Eq.refl _) (NS.ite (fun g3 => ?_) (fun g3 => ?_))
      ·have g3 : r = 3 := by have g3 : (r == 3) = true := g3; simpa using g3
       refine Sat.go (Eq.refl _) (NS.no (by rw [h3 g3]; rfl) ?_)
       refine Sat.go (Eq.refl _) (NS.next ⟨(k + 1, z1), by show k + 1 ≤ l.length; omega, hv1⟩ (by show l.length - (k + 1) < l.length - k; omega) ?_)
       exact weak_hd [] rfl ⟨rfl, rfl, rfl, ren_int rfl (i64_k (k := k) (n := l.length) h (by omega)), trivial⟩ ⟨⟨_, rfl, renNod _ _⟩, trivial⟩ trivial (by kernel_rfl)
      ·refine Sat.go (Eq.refl _) (NS.next ⟨(k + 1, z1), by show k + 1 ≤ l.length; omega, hv1⟩ (by show l.length - (k + 1) < l.length - k; omega) ?_)
       exact weak_hd [] rfl ⟨rfl, rfl, rfl, ren_int rfl (i64_k (k := k) (n := l.length) h (by omega)), trivial⟩ ⟨⟨_, rfl, renNod _ _⟩, trivial⟩ trivial (by kernel_rfl)
  ·refine Sat.go (Eq.refl _) (NS.next ⟨(k + 1, z1), by show k + 1 ≤ l.length; omega, hv1⟩ (by show l.length - (k + 1) < l.length - k; omega) ?_)
   exact weak_hd [] rfl ⟨rfl, rfl, rfl, ren_int rfl (i64_k (k := k) (n := l.length) h (by omega)), trivial⟩ ⟨⟨_, rfl, renNod _ _⟩, trivial⟩ trivial (by kernel_rfl)
 ·have h : ¬ k < l.length := by simpa using h
  refine Sat.go (Eq.refl _) (NS.leave rfl (Eq.refl _) ?_)
  refine Sat.go (Eq.refl _) (NS.call (awakeN_ok) rfl ?_)
  exact Sat.go (Eq.refl _) (NS.ret rfl rfl (LeA.refl _))
end Go.Proofs.YtggjngbighkdgaaGreat

