import Derived.Test.YtggjngbighkdgaaGreatB10
set_option linter.unusedSimpArgs false
set_option linter.unusedSectionVars false
set_option linter.unusedVariables false
namespace Go.Proofs.YtggjngbighkdgaaGreat
open Go.Sy Go.Mb
set_option maxRecDepth 100000
set_option maxHeartbeats 1000000
theorem kinds {α : Prop} {k : Int} (h : k = 1 ∨ k = 2 ∨ k = 3 ∨ k = 4) (h1 : k = 1 → α) (h2 : k = 2 → α) (h3 : k = 3 → α) (h4 : k = 4 → α) : α := by
 rcases h with h | h | h | h
 ·exact h1 h
 ·exact h2 h
 ·exact h3 h
 ·exact h4 h
end Go.Proofs.YtggjngbighkdgaaGreat

namespace Go.Proofs.YtggjngbighkdgaaGreat
open Go.Sy Go.Mb
set_option maxRecDepth 100000
set_option maxHeartbeats 4000000
def nod0 (a b : Nat) : Nod := ⟨((a % 16 : Nat) : Int), (b : Int), true, .empty, 0, ⟨[], []⟩, []⟩
theorem start_ok (a b : Nat) (ha : a < 256) (hb : b < 256) (l : List Evt) : FnOK Tryz.prog 29 [.int .u8 (a : Nat), .int .u8 (b : Nat), slEvt l] (.tup [.agg (nod0 a b).cells, .bool (decide (l.length ≤ 20) && !l.any greatE)], none) := by
 have e1 : newN ((IntKind.i64.wrap ((a : Nat) : Int)).tmod 16) (IntKind.i64.wrap ((b : Nat) : Int)) = (nod0 a b, 0) := by
  rw [wrap_i64 (by omega) (by omega), wrap_i64 (by omega) (by omega)]
  have e2 : ((a : Int)).tmod 16 = ((a % 16 : Nat) : Int) := (Int.ofNat_tmod a 16).symm
  rw [e2]
  unfold newN
  rw [if_neg]
  ·rfl
  ·rw [Bool.or_eq_true, Bool.not_eq_true', Bool.not_eq_true', ← Bool.not_eq_true, ← Bool.not_eq_true, inR_iff, inR_iff]
   omega
 have cn := nNew_ok ((IntKind.i64.wrap ((a : Nat) : Int)).tmod 16) (IntKind.i64.wrap ((b : Nat) : Int))
 rw [e1] at cn
 by_cases hl : l.length ≤ 20
 ·refine fn_ok CF rfl (by kernel_rfl) Tryz.func29 rfl ?_
  refine Sat.go (Eq.refl _) (NS.need (rfl) ?_)
  refine Sat.go (Eq.refl _) (NS.call (cn) rfl ?_)
  refine Sat.go (Eq.refl _) (NS.chk (by kernel_rfl) ?_)
  refine Sat.go (Eq.refl _) (NS.yes (rfl) ?_)
  refine Sat.go (Eq.refl _) (NS.yes (decide_eq_true (by show (l.length : Int) ≤ 20; omega)) ?_)
  refine Sat.go (Eq.refl _) (NS.call (contE_ok l (by omega)) rfl ?_)
  exact Sat.go (Eq.refl _) (NS.ret rfl rfl (LeA.tup2 (LeA.refl _) (LeA.of (congrArg A.bool (by rw [decide_eq_true hl, Bool.true_and])))))
 ·refine fn_ok CF rfl (by kernel_rfl) Tryz.func29 rfl ?_
  refine Sat.go (Eq.refl _) (NS.need (rfl) ?_)
  refine Sat.go (Eq.refl _) (NS.call (cn) rfl ?_)
  refine Sat.go (Eq.refl _) (NS.chk (by kernel_rfl) ?_)
  refine Sat.go (Eq.refl _) (NS.yes (rfl) ?_)
  refine Sat.go (Eq.refl _) (NS.no (decide_eq_false (by show ¬ (l.length : Int) ≤ 20; omega)) ?_)
  exact Sat.go (Eq.refl _) (NS.ret rfl rfl (LeA.tup2 (LeA.refl _) (LeA.of (congrArg A.bool (by rw [decide_eq_false hl, Bool.false_and])))))
theorem val0 (a b : Nat) (hb : b < 256) : Val (nod0 a b) := by
 have hls : ls (nod0 a b).jour = [] := rfl
 have hr : rdJ ([] : List Nat) = ([], 0) := by
  rw [rdJ_eq (fun x hx => by cases hx)]
  rfl
 refine ⟨⟨Nat.zero_le _, by rw [hls, hr]; rfl, by rw [hls, hr]; rfl⟩, rfl, inR_iff.2 ⟨Int.natCast_nonneg _, ?_⟩, inR_iff.2 ⟨Int.natCast_nonneg _, ?_⟩, by rfl, ?_, by rfl, fun o ho => by cases ho⟩
 ·show ((a % 16 : Nat) : Int) ≤ 15
  omega
 ·show ((b : Nat) : Int) ≤ _
  omega
 ·show usedM [] ≤ ((b : Nat) : Int)
  exact Int.natCast_nonneg _
theorem val_szn {n : Nod} (h : Val n) : Szn n 0 := by
 obtain ⟨h1, h2⟩ := items_len h.j
 exact ⟨by omega, by omega, Nat.le_trans h.j.sz (by decide), by have := ((ofs_iff _).1 h.of).1; omega⟩
theorem val_chk {n : Nod} (h : Val n) : chkN n = 0 := ((val_iff n).2 h).1
theorem hand_go {n : Nod} (h : Val n) (e : Evt) : handM n e = goM n e := by
 unfold handM
 rw [if_neg (by rw [val_chk h]; exact zero3)]
theorem hand_ok {n : Nod} (h : Val n) (e : Evt) : FnOK Tryz.prog 27 [.agg n.cells, .agg e.cells] (nodA (goM n e), none) := by
 rw [← hand_go h e]
 exact nHandle_ok n e ((val_szn h).le (by omega))
structure Grow (n n' : Nod) (r : Jrec) : Prop where
 jour : ls n'.jour = ls n.jour ++ sealL (conL r)
 last : n'.last = (n'.jour.size : Int)
 self : n'.self = n.self
 quota : n'.quota = n.quota
 ofs : n'.ofs = n.ofs
inductive PutR (n n' : Nod) (x : Itm) (t : Int) : Int → Int → Prop
 | old : n' = n → PutR n n' x t 3 5
 | full : n' = n → PutR n n' x t 3 4
 | dupo : n' = n → (findM n.dur x.id).2 = true → PutR n n' x t 3 3
 | dup : n' = n → (findM n.dur x.id).2 = true ∨ n.dur.inbox.any (hasId x.id) = true → PutR n n' x t 2 3
 | box : n'.dur = ⟨n.dur.items, n.dur.inbox ++ [x]⟩ → x.dest = n.self → Grow n n' ⟨3, x, .zero, 0, t⟩ → PutR n n' x t 2 2
 | item : n'.dur = ⟨n.dur.items ++ [x], n.dur.inbox⟩ → Grow n n' ⟨1, x, .zero, 0, t⟩ → PutR n n' x t 2 1
theorem idx_ge {α : Type} [Inhabited α] (p : α → Bool) (l : List α) : (0 ≤ idx p l) ↔ l.any p = true := by
 rw [← idx_any, decide_eq_true_eq]
theorem found_any (d : Dur) (id : Nid) : (findM d id).2 = d.items.any (hasId id) := by
 rw [Bool.eq_iff_iff, find_iff, List.any_eq_true]
 refine exists_congr fun x => and_congr Iff.rfl ?_
 unfold hasId
 rw [Nid.eqv_iff]
theorem put_res {w : Wst} (h : Val w.n) (ha : w.acts = []) (he : w.err = 0) (hl : w.n.last = (w.n.jour.size : Int)) {e : Evt} (hx : okItem e.item = true) (ht : inR e.time 0 1099511627776 = true) (h0 : (putW w e).err = 0) :
  ∃ k r, (putW w e).acts = [⟨k, e.item, 0, r⟩] ∧ PutR w.n (putW w e).n e.item e.time k r := by
 have hg := (good_iff _).2 h.j.good
 have hlen := items_len h.j
 obtain ⟨s1, s2⟩ := inR_iff.1 h.se
 have hp0 : putM w.n.dur w.n.self w.n.quota e.item e.time = if e.item.expires ≤ e.time then ([], 5, 0)
   else if 0 ≤ idx (hasId e.item.id) w.n.dur.items ∨ 0 ≤ idx (hasId e.item.id) w.n.dur.inbox then ([], 3, 0)
   else if e.item.dest = w.n.self then ([⟨3, e.item, .zero, 0, e.time⟩], 2, 0)
   else if IntKind.i64.wrap (usedM w.n.dur.items + (e.item.data.size : Int)) > w.n.quota then ([], 4, 0)
   else ([⟨1, e.item, .zero, 0, e.time⟩], 1, 0) := by
  unfold putM
  rw [if_neg (by rw [hg, hx]; decide), if_neg (by rw [h.qu, ht]; simp; omega)]
 have hnil : ∀ r : Int, putM w.n.dur w.n.self w.n.quota e.item e.time = ([], r, 0) → (putW w e).acts = [⟨kindP w e r, e.item, 0, r⟩] ∧ (putW w e).n = w.n := by
  intro r hp
  unfold putW
  rw [hp, if_neg zero3]
  refine ⟨?_, rfl⟩
  show w.acts ++ [_] = _
  rw [ha]; rfl
 have hone : ∀ (k r : Int) (hkk : k = 1 ∨ k = 3), putM w.n.dur w.n.self w.n.quota e.item e.time = ([⟨k, e.item, .zero, 0, e.time⟩], r, 0) → recErr ⟨k, e.item, .zero, 0, e.time⟩ = 0 →
   (∃ m, (putW w e).acts = [⟨kindP m e r, e.item, 0, r⟩]) ∧ (putW w e).n.dur = effM w.n.dur ⟨k, e.item, .zero, 0, e.time⟩ ∧ Grow w.n (putW w e).n ⟨k, e.item, .zero, 0, e.time⟩ := by
  intro k r hkk hp hre
  have hpw : putW w e = (w.write [⟨k, e.item, .zero, 0, e.time⟩]).act ⟨kindP w e r, e.item, 0, r⟩ := by
   unfold putW
   rw [hp, if_neg zero3]
  rw [hpw] at h0 ⊢
  have h0 : (if (wr w.n ⟨k, e.item, .zero, 0, e.time⟩).2 != 0 then (wr w.n ⟨k, e.item, .zero, 0, e.time⟩).2 else w.err) = 0 := h0
  rcases wr_both h.j hre with ⟨e1, _⟩ | ⟨e1, e2, e3, e4, e5, e6⟩
  ·rw [e1] at h0; cases h0
  ·have hn : ((w.write [⟨k, e.item, .zero, 0, e.time⟩]).act ⟨kindP w e r, e.item, 0, r⟩).n = wrN w.n ⟨k, e.item, .zero, 0, e.time⟩ := by
    show (wr w.n ⟨k, e.item, .zero, 0, e.time⟩).1 = _
    rw [e1]
   have hla : (wrN w.n ⟨k, e.item, .zero, 0, e.time⟩).last = ((wrN w.n ⟨k, e.item, .zero, 0, e.time⟩).jour.size : Int) := by
    unfold wrN
    rcases hkk with rfl | rfl <;> rfl
   refine ⟨⟨w, ?_⟩, by rw [hn]; exact e4, ?_⟩
   ·show w.acts ++ [_] = _
    rw [ha]; rfl
   ·rw [hn]
    exact ⟨e5, hla, rfl, rfl, rfl⟩
 by_cases q1 : e.item.expires ≤ e.time
 ·rw [if_pos q1] at hp0
  obtain ⟨a1, a2⟩ := hnil 5 hp0
  exact ⟨_, _, a1, .old a2⟩
 rw [if_neg q1] at hp0
 by_cases q2 : 0 ≤ idx (hasId e.item.id) w.n.dur.items ∨ 0 ≤ idx (hasId e.item.id) w.n.dur.inbox
 ·rw [if_pos q2] at hp0
  obtain ⟨a1, a2⟩ := hnil 3 hp0
  cases q : w.n.ofs.any (ofId e.item.id)
  ·have hk : kindP w e 3 = 2 := by unfold kindP; rw [q]; rfl
   rw [hk] at a1
   refine ⟨_, _, a1, .dup a2 ?_⟩
   rw [found_any]
   rw [idx_ge, idx_ge] at q2
   exact q2
  ·have hk : kindP w e 3 = 3 := by unfold kindP; rw [q]; rfl
   rw [hk] at a1
   refine ⟨_, _, a1, .dupo a2 ?_⟩
   obtain ⟨o, ho, hi⟩ := List.any_eq_true.1 q
   have := h.fd o ho
   unfold ofId at hi
   rw [Nid.eqv_iff.1 hi] at this
   exact this
 rw [if_neg q2] at hp0
 have hw : ∀ l : List Itm, ¬ 0 ≤ idx (hasId e.item.id) l → withM l e.item = l ++ [e.item] := by
  intro l hl
  unfold withM
  rw [if_neg (fun q => hl q)]
 by_cases q3 : e.item.dest = w.n.self
 ·rw [if_pos q3] at hp0
  obtain ⟨⟨m, a1⟩, a2, a3⟩ := hone 3 2 (.inr rfl) hp0 (recErr3 hx ht)
  have hk : kindP m e 2 = 2 := rfl
  rw [hk] at a1
  refine ⟨_, _, a1, .box ?_ q3 a3⟩
  rw [a2, ← hw _ (fun q => q2 (.inr q))]
  rfl
 rw [if_neg q3] at hp0
 by_cases q4 : IntKind.i64.wrap (usedM w.n.dur.items + (e.item.data.size : Int)) > w.n.quota
 ·rw [if_pos q4] at hp0
  obtain ⟨a1, a2⟩ := hnil 4 hp0
  exact ⟨_, _, a1, .full a2⟩
 rw [if_neg q4] at hp0
 obtain ⟨⟨m, a1⟩, a2, a3⟩ := hone 1 1 (.inl rfl) hp0 (recErr1 hx ht)
 have hk : kindP m e 1 = 2 := rfl
 rw [hk] at a1
 refine ⟨_, _, a1, .item ?_ a3⟩
 rw [a2, ← hw _ (fun q => q2 (.inl q))]
 rfl
theorem go_put {n : Nod} (h : Val n) {e : Evt} (hz : (goM n e).2.2 = 0) (hk : e.kind = 1) : ∃ k r, (goM n e).2.1 = [⟨k, e.item, 0, r⟩] ∧ PutR (startW n).n (goM n e).1 e.item e.time k r := by
 obtain ⟨g1, g2, g3, _⟩ := go_val h hz
 obtain ⟨_, k2, k3⟩ := evE_ok g1
 rw [hk] at k3
 have hkw : kindW (startW n) e = putW (startW n) e := by
  unfold kindW
  rw [if_pos (by rw [hk]; rfl)]
 have h0 : (kindW (startW n) e).err = 0 := by
  unfold goM at hz g3
  split at hz
  ·rename_i q; simp only at hz; rw [hz] at q; cases q
  rename_i q
  split at hz
  ·cases hz
  split at hz
  ·rename_i q3; simp only at hz; rw [hz] at q3; cases q3
  ·rename_i q3; simpa using q3
 rw [hkw] at h0 g3
 rw [g3]
 exact put_res h.lastN rfl rfl rfl k3 k2 h0
end Go.Proofs.YtggjngbighkdgaaGreat

namespace Go.Proofs.YtggjngbighkdgaaGreat
open Go.Sy Go.Mb
set_option maxRecDepth 100000
set_option maxHeartbeats 4000000
structure Rem (n n' : Nod) (t : Int) (x : Itm) : Prop where
 dur : n'.dur = ⟨n.dur.items.filter (notId x.id), n.dur.inbox⟩
 jour : ls n'.jour = ls n.jour ++ sealL (conL ⟨2, .zero, x.id, 0, t⟩)
 self : n'.self = n.self
 quota : n'.quota = n.quota
 last : n'.last = n.last
 ofs : n'.ofs = n.ofs.filter (nt (ofId x.id))
theorem remove_rem {w : Wst} (h : Val w.n) (he : w.err = 0) {x : Itm} (hx : x ∈ w.n.dur.items) {t : Int} (ht : inR t 0 1099511627776 = true) (h0 : (w.remove t x).err = 0) : Rem w.n (w.remove t x).n t x ∧ Val (w.remove t x).n ∧ (w.remove t x).acts = w.acts ++ [⟨5, x, 0, 0⟩] := by
 have hid : validId x.id = true := ok_id (h.j.good.1 x hx)
 have hr := recErr2 hid ht
 have hv : Val (w.remove t x).n := by
  rcases (remove_agr h he hx ht).1.2 with ⟨q, _⟩ | ⟨_, _, _, _, q⟩
  ·rw [q] at h0; cases h0
  ·exact q
 refine ⟨?_, hv, rfl⟩
 rcases wr_both h.j hr with ⟨e1, e2⟩ | ⟨e1, e2, e3, e4, e5, e6⟩
 ·have ee : (w.remove t x).err = 4 := by
   show (if (wr w.n ⟨2, .zero, x.id, 0, t⟩).2 != 0 then (wr w.n ⟨2, .zero, x.id, 0, t⟩).2 else w.err) = 4
   rw [e1]; rfl
  rw [ee] at h0; cases h0
 ·have hn : (w.remove t x).n = { wrN w.n ⟨2, .zero, x.id, 0, t⟩ with ofs := w.n.ofs.filter (nt (ofId x.id)) } := by
   show ({ (wr w.n ⟨2, .zero, x.id, 0, t⟩).1 with ofs := (wr w.n ⟨2, .zero, x.id, 0, t⟩).1.ofs.filter (nt (ofId x.id)) } : Nod) = _
   rw [e1]
   rfl
  rw [hn]
  exact ⟨e4, e5, rfl, rfl, rfl, rfl⟩
theorem settle_rem {w : Wst} (h : Val w.n) (he : w.err = 0) {id : Nid} (hf : (findM w.n.dur id).2 = true) {t : Int} (ht : inR t 0 1099511627776 = true) {s a : Bool} (h0 : (w.settle t id s a).err = 0) :
  ∃ x ∈ w.n.dur.items, x.id = id ∧ ((x.custody = true ∧ (s && a) = false ∧ w.settle t id s a = w.act ⟨4, x, 0, 0⟩) ∨ ((x.custody = false ∨ (s && a) = true) ∧ Rem w.n (w.settle t id s a).n t x ∧ Val (w.settle t id s a).n ∧ (w.settle t id s a).acts = w.acts ++ [⟨5, x, 0, 0⟩])) := by
 obtain ⟨hx, hi⟩ := find_mem hf
 refine ⟨_, hx, hi, ?_⟩
 unfold Wst.settle at h0 ⊢
 rw [if_neg (by rw [hf]; decide)] at h0 ⊢
 by_cases q : (decM (findM w.n.dur id).1.custody s a == 3) = true
 ·rw [if_pos q]
  left
  unfold decM at q
  split at q
  ·rename_i q2
   rw [Bool.and_eq_true, Bool.not_eq_true'] at q2
   exact ⟨q2.1, q2.2, rfl⟩
  ·cases q
 ·rw [if_neg q] at h0 ⊢
  right
  refine ⟨?_, remove_rem h he hx ht h0⟩
  unfold decM at q
  split at q
  ·exact absurd rfl q
  ·rename_i q2
   rw [Bool.and_eq_true, Bool.not_eq_true', not_and, Bool.not_eq_false] at q2
   cases q3 : (findM w.n.dur id).1.custody
   ·exact .inl rfl
   ·exact .inr (q2 q3)
def is5 (c : Mb.Act) : Bool := c.kind == 5
structure Run (P : Itm → Prop) (n n' : Nod) (a : List Mb.Act) : Prop where
 self : n'.self = n.self
 quota : n'.quota = n.quota
 last : n'.last = n.last
 box : n'.dur.inbox = n.dur.inbox
 jour : ∃ s, ls n'.jour = ls n.jour ++ s
 kinds : ∀ c ∈ a, c.kind = 4 ∨ c.kind = 5
 gone : ∃ G : List Itm, n'.dur.items = n.dur.items.filter (fun x => !G.any (hasId x.id)) ∧ Uniq G ∧ (∀ y ∈ G, y ∈ n.dur.items ∧ P y) ∧ a.filter is5 = G.map (fun y => ⟨5, y, 0, 0⟩)
theorem Run.same {P : Itm → Prop} {n n' : Nod} (h1 : n'.self = n.self) (h2 : n'.quota = n.quota) (h3 : n'.last = n.last) (h4 : n'.dur = n.dur) (h5 : n'.jour = n.jour) : Run P n n' [] :=
 ⟨h1, h2, h3, by rw [h4], ⟨[], by rw [h5, List.append_nil]⟩, (fun c hc => by cases hc), ⟨[], by
  rw [h4]
  exact (List.filter_eq_self.2 (fun _ _ => rfl)).symm, List.Pairwise.nil, (fun y hy => by cases hy), rfl⟩⟩
theorem Run.keep {P : Itm → Prop} {n n' : Nod} {a : List Mb.Act} (h : Run P n n' a) (x : Itm) : Run P n n' (a ++ [⟨4, x, 0, 0⟩]) := by
 refine ⟨h.self, h.quota, h.last, h.box, h.jour, fun c hc => ?_, ?_⟩
 ·rcases List.mem_append.1 hc with q | q
  ·exact h.kinds c q
  ·rw [List.mem_singleton.1 q]; exact .inl rfl
 ·obtain ⟨G, g1, g2, g3, g4⟩ := h.gone
  refine ⟨G, g1, g2, g3, ?_⟩
  rw [List.filter_append, g4]
  simp [is5]
theorem any_id {G : List Itm} {id : Nid} : G.any (hasId id) = true ↔ ∃ y ∈ G, y.id = id := by
 rw [List.any_eq_true]
 refine exists_congr fun y => and_congr Iff.rfl ?_
 unfold hasId
 rw [Nid.eqv_iff]
theorem Run.rem {P : Itm → Prop} {n m n' : Nod} {a : List Mb.Act} (h : Run P n m a) {t : Int} {x : Itm} (hx : x ∈ m.dur.items) (hP : P x) (hr : Rem m n' t x) : Run P n n' (a ++ [⟨5, x, 0, 0⟩]) := by
 obtain ⟨s, hs⟩ := h.jour
 refine ⟨hr.self.trans h.self, hr.quota.trans h.quota, hr.last.trans h.last, ?_, ⟨s ++ sealL (conL ⟨2, .zero, x.id, 0, t⟩), by rw [hr.jour, hs, List.append_assoc]⟩, fun c hc => ?_, ?_⟩
 ·rw [hr.dur]; exact h.box
 ·rcases List.mem_append.1 hc with q | q
  ·exact h.kinds c q
  ·rw [List.mem_singleton.1 q]; exact .inr rfl
 ·obtain ⟨G, g1, g2, g3, g4⟩ := h.gone
  rw [g1, List.mem_filter] at hx
  obtain ⟨x1, x2⟩ := hx
  have x2 : G.any (hasId x.id) = false := by simpa using x2
  refine ⟨G ++ [x], ?_, ?_, ?_, ?_⟩
  ·rw [hr.dur]
   show m.dur.items.filter _ = _
   rw [g1, List.filter_filter]
   refine List.filter_congr fun y _ => ?_
   rw [List.any_append, Bool.not_or, Bool.and_comm]
   congr 1
   unfold notId
   simp only [List.any_cons, List.any_nil, Bool.or_false]
   congr 1
   unfold hasId
   rw [Bool.eq_iff_iff, Nid.eqv_iff, Nid.eqv_iff]
   exact eq_comm
  ·unfold Uniq at g2 ⊢
   rw [List.map_append, List.pairwise_append]
   refine ⟨g2, by simp, ?_⟩
   intro i hi j hj
   rw [List.map_singleton, List.mem_singleton] at hj
   obtain ⟨y, hy, rfl⟩ := List.mem_map.1 hi
   rw [hj]
   intro q
   rw [any_id.2 ⟨y, hy, q⟩] at x2
   cases x2
  ·intro y hy
   rcases List.mem_append.1 hy with q | q
   ·exact g3 y q
   ·rw [List.mem_singleton.1 q]; exact ⟨x1, hP⟩
  ·rw [List.filter_append, g4, List.map_append]
   simp [is5]
def Why (n : Nod) (e : Evt) (x : Itm) : Prop :=
 (e.kind = 3 ∧ x.id = e.id ∧ (x.custody = false ∨ (e.acc = true ∧ n.ofs.any (ofKey e.id e.contact) = true))) ∨ (e.kind = 4 ∧ x.custody = false) ∨ (e.kind = 5 ∧ x.expires ≤ e.time) ∨ (e.kind = 6 ∧ x.id = e.id)
theorem go_err {n : Nod} {e : Evt} (hz : (goM n e).2.2 = 0) : (kindW (startW n) e).err = 0 := by
 unfold goM at hz
 split at hz
 ·rename_i q; simp only at hz; rw [hz] at q; cases q
 split at hz
 ·cases hz
 split at hz
 ·rename_i q3; simp only at hz; rw [hz] at q3; cases q3
 ·rename_i q3; simpa using q3
end Go.Proofs.YtggjngbighkdgaaGreat

namespace Go.Proofs.YtggjngbighkdgaaGreat
open Go.Sy Go.Mb
set_option maxRecDepth 100000
set_option maxHeartbeats 4000000
def isNew (c : Mb.Act) : Bool := c.kind == 2 && c.value != 3
structure Step (n n' : Nod) (a : List Mb.Act) : Prop where
 self : n'.self = n.self
 quota : n'.quota = n.quota
 box : n'.dur.inbox = n.dur.inbox ∨ ∃ x : Itm, n'.dur.inbox = n.dur.inbox ++ [x] ∧ x.dest = n.self
 jour : ∃ s, ls n'.jour = ls n.jour ++ s
 last : n'.last = if a.any isNew then (n'.jour.size : Int) else (n.jour.size : Int)
end Go.Proofs.YtggjngbighkdgaaGreat

namespace Go.Proofs.YtggjngbighkdgaaGreat
open Go.Sy Go.Mb
set_option maxRecDepth 100000
set_option maxHeartbeats 4000000
structure Cust (n n' : Nod) (e : Evt) (a : List Mb.Act) (G : List Itm) : Prop where
 uniq : Uniq G
 mem : ∀ y ∈ G, y ∈ n.dur.items ∧ Why n e y
 acts : a.filter is5 = G.map (fun y => ⟨5, y, 0, 0⟩)
 found : ∀ x ∈ n.dur.items, (findM n'.dur x.id).2 = !G.any (hasId x.id)
theorem found_self {d : Dur} {x : Itm} (hx : x ∈ d.items) : (findM d x.id).2 = true := (find_iff _ _).2 ⟨x, hx, rfl⟩
def goneM (n n' : Nod) : List Itm := n.dur.items.filter (fun x => (findM n.dur x.id).2 && !(findM n'.dur x.id).2)
theorem sub_len {α : Type} [DecidableEq α] : ∀ {l m : List α}, l.Pairwise (· ≠ ·) → (∀ x ∈ l, x ∈ m) → l.length ≤ m.length
 | [], _, _, _ => Nat.zero_le _
 | a :: l, m, h, hs => by
  rw [List.pairwise_cons] at h
  have ha : a ∈ m := hs a (List.mem_cons_self ..)
  have := sub_len (l := l) (m := m.erase a) h.2 (fun x hx => (List.mem_erase_of_ne (fun q => h.1 x hx q.symm)).2 (hs x (List.mem_cons_of_mem _ hx)))
  rw [List.length_erase_of_mem ha] at this
  have := List.length_pos_of_mem ha
  rw [List.length_cons]
  omega
theorem Cust.gone {n n' : Nod} {e : Evt} {a : List Mb.Act} {G : List Itm} (h : Cust n n' e a G) : goneM n n' = n.dur.items.filter (fun x => G.any (hasId x.id)) := by
 unfold goneM
 refine List.filter_congr fun x hx => ?_
 rw [found_self hx, h.found x hx, Bool.true_and, Bool.not_not]
theorem Cust.mem_iff {n n' : Nod} {e : Evt} {a : List Mb.Act} {G : List Itm} (h : Cust n n' e a G) (id : Nid) : id ∈ (goneM n n').map Itm.id ↔ id ∈ G.map Itm.id := by
 rw [h.gone, List.mem_map, List.mem_map]
 constructor
 ·rintro ⟨x, hx, rfl⟩
  exact any_id.1 (List.mem_filter.1 hx).2
 ·rintro ⟨y, hy, rfl⟩
  exact ⟨y, List.mem_filter.2 ⟨(h.mem y hy).1, any_id.2 ⟨y, hy, rfl⟩⟩, rfl⟩
theorem Cust.len {n n' : Nod} {e : Evt} {a : List Mb.Act} {G : List Itm} (h : Cust n n' e a G) (hu : Uniq n.dur.items) : (a.filter is5).length = (goneM n n').length := by
 haveI : DecidableEq Nid := fun _ _ => Classical.propDecidable _
 have e1 : (a.filter is5).length = (G.map Itm.id).length := by rw [h.acts, List.length_map, List.length_map]
 have e2 : (goneM n n').length = ((goneM n n').map Itm.id).length := by rw [List.length_map]
 have hg : Uniq (goneM n n') := by unfold goneM; exact uniq_filter hu
 rw [e1, e2]
 exact Nat.le_antisymm (sub_len h.uniq fun x hx => (h.mem_iff x).2 hx) (sub_len hg fun x hx => (h.mem_iff x).1 hx)
theorem Cust.sub {n n' : Nod} {e : Evt} {a : List Mb.Act} {G : List Itm} (h : Cust n n' e a G) {c : Mb.Act} (hc : c ∈ a.filter is5) : c.item.id ∈ (goneM n n').map Itm.id := by
 rw [h.acts, List.mem_map] at hc
 obtain ⟨y, hy, rfl⟩ := hc
 exact (h.mem_iff y.id).2 (List.mem_map.2 ⟨y, hy, rfl⟩)
end Go.Proofs.YtggjngbighkdgaaGreat

namespace Go.Proofs.YtggjngbighkdgaaGreat
open Go.Sy Go.Mb
set_option maxRecDepth 100000
set_option maxHeartbeats 4000000
theorem idxO2_ok (l : List Ofr) (hl : l.length ≤ 1000000) (f c d : Nat) (el em : Nat → A) (p : Ofr → Bool) (hc : ∀ x, FnOK Tryz.prog f [.agg (Ofr.cells x), .ip c el, .ip d em] (.bool (p x), none)) : FnOK Tryz.prog 82 [slOfr l, .fn f [.ip c el, .ip d em]] (.int .i64 (idx p l), none) := by
 refine fn_ok CF rfl (by kernel_rfl) Tryz.func82 rfl ?_
 refine Sat.go (Eq.refl _) ?_
 refine NS.loop (σ := { k : Nat // k ≤ l.length ∧ ∀ i, i < k → p (l.getD i default) = false }) (fun k => [(0, slOfr l), (1, .fn f [.ip c el, .ip d em]), (7, .int .i64 l.length), (8, .int .i64 k.1)]) (fun _ => []) (fun k => l.length - k.1) ⟨0, Nat.zero_le _, fun i hi => by omega⟩ ?_ ?_
 ·exact weak_hd [] rfl ⟨rfl, rfl, rfl, rfl, trivial⟩ trivial trivial (by kernel_rfl)
 rintro ⟨k, hk, hn⟩
 refine Sat.go (Eq.refl _) (NS.ite (fun h => ?_) (fun h => ?_))
 ·have h : k < l.length := by simpa using h
  repeat' (first | (refine Sat.go (Eq.refl _) (NS.chk (by kernel_rfl) ?_)) | (refine Sat.go (Eq.refl _) (NS.need (by simp; omega) ?_)))
  refine Sat.go (Eq.refl _) (NS.call (hc (l.getD k default)) rfl ?_)
  refine Sat.go (Eq.refl _) (NS.ite (fun h2 => ?_) (fun h2 => ?_))
  ·exact Sat.go (Eq.refl _) (NS.leaveOut rfl (Eq.refl _) (NS.ret rfl rfl (LeA.of (congrArg (A.int .i64) ((idx_found (by omega) h2 hn).symm)))))
  ·refine Sat.go (Eq.refl _) (NS.next ⟨k + 1, by omega, fun i hi => ?_⟩ (by simp; omega) ?_)
   ·by_cases hik : i = k
    ·subst hik; exact h2
    ·exact hn i (by omega)
   ·exact weak_hd [] rfl ⟨rfl, rfl, rfl, ren_int rfl (i64_k (by omega) (by omega)), trivial⟩ trivial trivial (by kernel_rfl)
 ·have h : ¬ k < l.length := by simpa using h
  refine Sat.go (Eq.refl _) (NS.leave rfl (Eq.refl _) ?_)
  exact Sat.go (Eq.refl _) (NS.ret rfl rfl (LeA.of (congrArg (A.int .i64) ((idx_none fun i hi => hn i (by omega)).symm))))
theorem contO2_ok (l : List Ofr) (hl : l.length ≤ 1000000) (f c d : Nat) (el em : Nat → A) (p : Ofr → Bool) (hc : ∀ x, FnOK Tryz.prog f [.agg (Ofr.cells x), .ip c el, .ip d em] (.bool (p x), none)) : FnOK Tryz.prog 34 [slOfr l, .fn f [.ip c el, .ip d em]] (.bool (l.any p), none) := by
 refine fn_ok CF rfl (by kernel_rfl) Tryz.func34 rfl ?_
 refine Sat.go (Eq.refl _) (NS.call (idxO2_ok l hl f c d el em p hc) rfl ?_)
 exact Sat.go (Eq.refl _) (NS.ret rfl rfl (LeA.of (congrArg A.bool (idx_any p l))))
theorem idxA2_ok (l : List Mb.Act) (hl : l.length ≤ 1000000) (f c d : Nat) (el em : Nat → A) (p : Mb.Act → Bool) (hc : ∀ x, FnOK Tryz.prog f [.agg (Mb.Act.cells x), .ip c el, .ip d em] (.bool (p x), none)) : FnOK Tryz.prog 83 [slAct l, .fn f [.ip c el, .ip d em]] (.int .i64 (idx p l), none) := by
 refine fn_ok CF rfl (by kernel_rfl) Tryz.func83 rfl ?_
 refine Sat.go (Eq.refl _) ?_
 refine NS.loop (σ := { k : Nat // k ≤ l.length ∧ ∀ i, i < k → p (l.getD i default) = false }) (fun k => [(0, slAct l), (1, .fn f [.ip c el, .ip d em]), (7, .int .i64 l.length), (8, .int .i64 k.1)]) (fun _ => []) (fun k => l.length - k.1) ⟨0, Nat.zero_le _, fun i hi => by omega⟩ ?_ ?_
 ·exact weak_hd [] rfl ⟨rfl, rfl, rfl, rfl, trivial⟩ trivial trivial (by kernel_rfl)
 rintro ⟨k, hk, hn⟩
 refine Sat.go (Eq.refl _) (NS.ite (fun h => ?_) (fun h => ?_))
 ·have h : k < l.length := by simpa using h
  repeat' (first | (refine Sat.go (Eq.refl _) (NS.chk (by kernel_rfl) ?_)) | (refine Sat.go (Eq.refl _) (NS.need (by simp; omega) ?_)))
  refine Sat.go (Eq.refl _) (NS.call (hc (l.getD k default)) rfl ?_)
  refine Sat.go (Eq.refl _) (NS.ite (fun h2 => ?_) (fun h2 => ?_))
  ·exact Sat.go (Eq.refl _) (NS.leaveOut rfl (Eq.refl _) (NS.ret rfl rfl (LeA.of (congrArg (A.int .i64) ((idx_found (by omega) h2 hn).symm)))))
  ·refine Sat.go (Eq.refl _) (NS.next ⟨k + 1, by omega, fun i hi => ?_⟩ (by simp; omega) ?_)
   ·by_cases hik : i = k
    ·subst hik; exact h2
    ·exact hn i (by omega)
   ·exact weak_hd [] rfl ⟨rfl, rfl, rfl, ren_int rfl (i64_k (by omega) (by omega)), trivial⟩ trivial trivial (by kernel_rfl)
 ·have h : ¬ k < l.length := by simpa using h
  refine Sat.go (Eq.refl _) (NS.leave rfl (Eq.refl _) ?_)
  exact Sat.go (Eq.refl _) (NS.ret rfl rfl (LeA.of (congrArg (A.int .i64) ((idx_none fun i hi => hn i (by omega)).symm))))
theorem contA2_ok (l : List Mb.Act) (hl : l.length ≤ 1000000) (f c d : Nat) (el em : Nat → A) (p : Mb.Act → Bool) (hc : ∀ x, FnOK Tryz.prog f [.agg (Mb.Act.cells x), .ip c el, .ip d em] (.bool (p x), none)) : FnOK Tryz.prog 38 [slAct l, .fn f [.ip c el, .ip d em]] (.bool (l.any p), none) := by
 refine fn_ok CF rfl (by kernel_rfl) Tryz.func38 rfl ?_
 refine Sat.go (Eq.refl _) (NS.call (idxA2_ok l hl f c d el em p hc) rfl ?_)
 exact Sat.go (Eq.refl _) (NS.ret rfl rfl (LeA.of (congrArg A.bool (idx_any p l))))
def lostB (n n' : Nod) (id : Nid) : Bool := (findM n.dur id).2 && !(findM n'.dur id).2
theorem lost_ok (n n' : Nod) (id : Nid) (h1 : n.dur.items.length ≤ 1000000) (h2 : n'.dur.items.length ≤ 1000000) : FnOK Tryz.prog 37 [.agg n.cells, .agg n'.cells, .agg id.cells] (.bool (lostB n n' id), none) := by
 refine fn_ok CF rfl (by kernel_rfl) Tryz.func37 rfl ?_
 refine Sat.go (Eq.refl _) (NS.call (find_ok n.dur id h1) rfl ?_)
 refine Sat.go (Eq.refl _) (NS.call (find_ok n'.dur id h2) rfl ?_)
 refine Sat.go (Eq.refl _) (NS.ite (fun g1 => ?_) (fun g1 => ?_))
 ·have g1 : (findM n.dur id).2 = true := g1
  exact Sat.go (Eq.refl _) (NS.ret rfl rfl (LeA.of (congrArg A.bool (by unfold lostB; rw [g1, Bool.true_and]))))
 ·have g1 : (findM n.dur id).2 = false := g1
  exact Sat.go (Eq.refl _) (NS.ret rfl rfl (LeA.of (congrArg A.bool (by unfold lostB; rw [g1, Bool.false_and]))))
end Go.Proofs.YtggjngbighkdgaaGreat

namespace Go.Proofs.YtggjngbighkdgaaGreat
open Go.Sy Go.Mb
set_option maxRecDepth 100000
set_option maxHeartbeats 4000000
theorem con_len {r : Jrec} (h : recErr r = 0) (hd : stoK r.kind = true → r.item.data.size ≤ 100) : (conL r).length ≤ 217 := by
 have h1 := encL_len (conI_in h)
 have h2 : (conI r).length ≤ 12 := by
  unfold conI idI
  split
  ·simp
  ·split <;> simp
 have h3 : (if stoK r.kind then txtL r.item.data else []).length ≤ 109 := by
  split
  ·rename_i q
   have q1 := hd q
   unfold txtL
   rw [List.length_append, ls_len]
   have q2 := encI_len (n := (r.item.data.size : Int)) (by rw [inI_iff]; omega)
   omega
  ·exact Nat.zero_le _
 unfold conL
 rw [List.length_append]
 omega
theorem seal_len {r : Jrec} (h : recErr r = 0) (hd : stoK r.kind = true → r.item.data.size ≤ 100) : (sealL (conL r)).length ≤ 256 := by
 have h1 := con_len h hd
 have h2 := (sealL_len (p := conL r) (by omega)).1
 omega
theorem wr_room {n : Nod} (h : OkJ n) {r : Jrec} (hr : recErr r = 0) (hc : (conL r).length ≤ 65536) (hs : n.jour.size + (sealL (conL r)).length ≤ 65536) : (wr n r).2 = 0 := by
 have he : encRM r = (sealL (conL r), 0) := by
  unfold encRM
  rw [if_neg (by rw [hr]; exact zero3), if_neg (by rw [decide_eq_true_eq]; omega)]
 have hj : appJ (ls n.jour) [r] = (ls n.jour ++ sealL (conL r), 0) := by
  unfold appJ
  rw [he, if_neg (show ¬ (((sealL (conL r), (0 : Int)) : List Nat × Int).2 != 0) = true from Bool.false_ne_true)]
  rfl
 have ha : appM (ls n.jour) [r] = (ls n.jour ++ sealL (conL r), 0) := by
  unfold appM
  rw [hj, if_neg (show ¬ (((ls n.jour ++ sealL (conL r), (0 : Int)) : List Nat × Int).2 != 0) = true from Bool.false_ne_true), if_neg (by rw [decide_eq_true_eq, List.length_append, ls_len]; omega)]
 have hap : applyM n.dur r = (effM n.dur r, 0) := by unfold applyM; rw [(good_iff _).2 h.good, hr]; rfl
 unfold wr
 rw [if_neg (by rw [ha]; exact zero3), if_neg (by rw [hap]; exact zero3)]
structure Mono (n n' : Nod) : Prop where
 room : n'.jour.size + 256 * n'.dur.items.length ≤ n.jour.size + 256 * n.dur.items.length
 sub : ∀ o ∈ n'.ofs, o ∈ n.ofs
 len : n'.ofs.length ≤ n.ofs.length
theorem Mono.refl (n : Nod) : Mono n n := ⟨Nat.le_refl _, fun o h => h, Nat.le_refl _⟩
theorem Mono.trans {a b c : Nod} (h : Mono a b) (g : Mono b c) : Mono a c := ⟨Nat.le_trans g.room h.room, fun o q => h.sub o (g.sub o q), Nat.le_trans g.len h.len⟩
theorem rem_mono {n n' : Nod} {t : Int} {x : Itm} (hv : Val n) (h : Rem n n' t x) (hx : x ∈ n.dur.items) (ht : inR t 0 1099511627776 = true) : Mono n n' := by
 have hr := recErr2 (ok_id (h := hv.j.good.1 x hx)) ht
 have h1 := seal_len hr (fun q => by cases q)
 have h2 : (n.dur.items.filter (notId x.id)).length < n.dur.items.length := by
  rw [List.length_filter_lt_length_iff_exists]
  refine ⟨x, hx, ?_⟩
  unfold notId
  rw [hasId_self]
  decide
 have h3 := ls_len n'.jour
 rw [h.jour, List.length_append, ls_len] at h3
 refine ⟨?_, fun o ho => ?_, ?_⟩
 ·rw [h.dur]
  show n'.jour.size + 256 * (n.dur.items.filter (notId x.id)).length ≤ _
  omega
 ·rw [h.ofs] at ho
  exact (List.mem_filter.1 ho).1
 ·rw [h.ofs]
  exact List.length_filter_le _ _
theorem settle_mono {w : Wst} (h : Val w.n) (he : w.err = 0) {id : Nid} (hf : (findM w.n.dur id).2 = true) {t : Int} (ht : inR t 0 1099511627776 = true) {s a : Bool} (h0 : (w.settle t id s a).err = 0) : Mono w.n (w.settle t id s a).n := by
 obtain ⟨x, x1, x2, x3⟩ := settle_rem h he hf ht h0
 rcases x3 with ⟨_, _, x3⟩ | ⟨_, x4, _, _⟩
 ·rw [x3]; exact .refl _
 ·exact rem_mono h x4 x1 ht
theorem tm_mono {w : Wst} (h : Val w.n) (ha : w.acts = []) (he : w.err = 0) {l : List Ofr} {t : Int} (ht : inR t 0 1099511627776 = true) (hp : l.Pairwise ofLt) (hf : ∀ o ∈ l, (findM w.n.dur o.id).2 = true) : ∀ k, k ≤ l.length → (tmN l t w k).err = 0 → Mono w.n (tmN l t w k).n
 | 0, _, _ => .refl _
 | k + 1, hk, h1 => by
  obtain ⟨i1, i2⟩ := tm_agr h ha he ht hp hf k (by omega)
  have ih := tm_mono h ha he ht hp hf k (by omega)
  rw [tmN] at h1 ⊢
  generalize tmN l t w k = W at *
  split at h1
  ·rename_i q
   rw [if_pos q]
   rcases i2 with ⟨b1, _⟩ | ⟨b1, _, b3, b4⟩
   ·rw [(settle_err i1 b1 (l.getD k default).id ht false false).2] at h1; cases h1
   ·have q' : k = 0 ∨ (l.getD k default).id ≠ (l.getD (k - 1) default).id := by
     rw [Bool.or_eq_true, beq_iff_eq, Bool.not_eq_true', ← Bool.not_eq_true, Nid.eqv_iff] at q
     rcases q with q | q
     ·exact .inl q
     ·exact .inr fun r => q r.symm
    exact (ih b1).trans (settle_mono b3 b1 (b4 k (Nat.le_refl _) hk q') ht h1)
  ·rename_i q
   rw [if_neg q]
   exact ih h1
theorem ex_mono {w : Wst} (h : Val w.n) (ha : w.acts = []) (he : w.err = 0) {l : List Itm} (hl : l = w.n.dur.items) {t : Int} (ht : inR t 0 1099511627776 = true) : ∀ k, k ≤ l.length →
  (exN (expRecs t l) t w (expRecs t (l.take k)).length).err = 0 → Mono w.n (exN (expRecs t l) t w (expRecs t (l.take k)).length).n
 | 0, _, _ => .refl _
 | k + 1, hk, h1 => by
  obtain ⟨i1, i2⟩ := ex_agr h ha he hl ht k (by omega)
  have ih := ex_mono h ha he hl ht k (by omega)
  have hs : expRecs t (l.take (k + 1)) = expRecs t (l.take k) ++ expRec t (l.getD k default) := by rw [take_snoc hk, expRecs_snoc]
  rw [hs] at h1 ⊢
  by_cases q : (l.getD k default).expires > t
  ·have e0 : expRec t (l.getD k default) = [] := by unfold expRec; rw [if_neg (by omega)]
   rw [e0, List.append_nil] at h1 ⊢
   exact ih h1
  ·have e1 : expRec t (l.getD k default) = [⟨2, .zero, (l.getD k default).id, 0, t⟩] := by unfold expRec; rw [if_pos (by omega)]
   have e2 : (expRecs t l).getD (expRecs t (l.take k)).length default = ⟨2, .zero, (l.getD k default).id, 0, t⟩ := by
    have e3 : expRecs t l = expRecs t (l.take k) ++ ([⟨2, .zero, (l.getD k default).id, 0, t⟩] ++ expRecs t (l.drop (k + 1))) := by
     rw [← e1, ← List.append_assoc, ← hs]
     conv => lhs; rw [← List.take_append_drop (k + 1) l]
     unfold expRecs
     rw [List.flatMap_append]
    rw [e3]
    simp [List.getD]
   rw [e1, List.length_append, List.length_singleton, exN, e2] at h1 ⊢
   generalize exN (expRecs t l) t w (expRecs t (l.take k)).length = W at *
   rcases i2 with ⟨b1, b2⟩ | ⟨b1, b2, b3, b4⟩
   ·split at h1
    ·rename_i hf
     rw [(remove_err i1 b1 (find_mem hf).1 ht).2] at h1; cases h1
    ·rw [b1] at h1; cases h1
   ·have hm : l.getD k default ∈ W.n.dur.items := b4 k (Nat.le_refl _) hk
    have hfe : findM W.n.dur (l.getD k default).id = (l.getD k default, true) := find_eq b3.j.good.2.2.1 hm
    rw [if_pos (show (findM W.n.dur (l.getD k default).id).2 = true by rw [hfe]), show (findM W.n.dur (l.getD k default).id).1 = l.getD k default by rw [hfe]] at h1 ⊢
    obtain ⟨r1, r2, r3⟩ := remove_rem b3 b1 hm ht h1
    exact (ih b1).trans (rem_mono b3 r1 hm ht)
theorem setF_mono (n : Nod) (p : Ofr → Bool) : Mono n { n with ofs := n.ofs.filter p } := ⟨Nat.le_refl _, fun o h => (List.mem_filter.1 h).1, List.length_filter_le _ _⟩
theorem go_mono {n : Nod} (h : Val n) {e : Evt} (hz : (goM n e).2.2 = 0) (hk : 3 ≤ e.kind ∧ e.kind ≤ 6) : Mono (startW n).n (goM n e).1 := by
 obtain ⟨g1, _, g3, _⟩ := go_val h hz
 have h0 := go_err hz
 obtain ⟨_, k2, k3⟩ := evE_ok g1
 have hv := h.lastN
 have hofs := (ofs_iff _).1 hv.of
 rw [g3]
 show Mono (startW n).n (kindW (startW n) e).n
 have hk4 : e.kind = 3 ∨ e.kind = 4 ∨ e.kind = 5 ∨ e.kind = 6 := by omega
 rcases hk4 with r | r | r | r
 ·have hkw : kindW (startW n) e = signalW (startW n) e := by
   unfold kindW
   rw [if_neg (by rw [r]; decide), if_neg (by rw [r]; decide), if_pos (by rw [r]; rfl)]
  rw [hkw] at h0 ⊢
  unfold signalW at h0 ⊢
  by_cases q : ((signalM (startW n).n.ofs e.id e.contact).2.1 == 1) = true
  ·rw [if_pos q]
   exact .refl _
  rw [if_neg q] at h0 ⊢
  have hs : signalM (startW n).n.ofs e.id e.contact = (n.ofs.filter (nt (ofKey e.id e.contact)), 3, 0) ∧ n.ofs.any (ofKey e.id e.contact) = true := by
   have q0 : chkO (startW n).n.ofs = 0 := hv.of
   unfold signalM at q ⊢
   rw [if_neg (by rw [q0]; exact zero3)] at q ⊢
   by_cases q2 : (((List.filter (ofKey e.id e.contact) (startW n).n.ofs).length : Int) == 0) = true
   ·rw [if_pos q2] at q
    exact absurd rfl q
   ·rw [if_neg q2]
    refine ⟨rfl, ?_⟩
    cases q3 : n.ofs.any (ofKey e.id e.contact)
    ·exfalso
     apply q2
     have : n.ofs.filter (ofKey e.id e.contact) = [] := by
      rw [List.filter_eq_nil_iff]
      rw [List.any_eq_false] at q3
      exact q3
     show (((List.filter (ofKey e.id e.contact) n.ofs).length : Int) == 0) = true
     rw [this]; rfl
    ·rfl
  obtain ⟨hs1, hs2⟩ := hs
  rw [hs1] at h0 ⊢
  have hv' : Val ((startW n).setO (n.ofs.filter (nt (ofKey e.id e.contact)))).n := hv.setF (nt (ofKey e.id e.contact))
  obtain ⟨o, ho1, ho2⟩ := List.any_eq_true.1 hs2
  have hid : o.id = e.id := by
   unfold ofKey at ho2
   rw [Bool.and_eq_true, Nid.eqv_iff] at ho2
   exact ho2.1
  have hf : (findM ((startW n).setO (n.ofs.filter (nt (ofKey e.id e.contact)))).n.dur e.id).2 = true := by
   have := h.fd o ho1
   rw [hid] at this
   exact this
  exact (setF_mono (startW n).n (nt (ofKey e.id e.contact))).trans (settle_mono hv' rfl hf k2 h0)
 ·have hkw : kindW (startW n) e = timerW (startW n) e := by
   unfold kindW
   rw [if_neg (by rw [r]; decide), if_neg (by rw [r]; decide), if_neg (by rw [r]; decide), if_pos (by rw [r]; rfl)]
  rw [hkw] at h0 ⊢
  have hd : dueM (startW n).n.ofs e.time = (n.ofs.filter (ofDue e.time), n.ofs.filter (nt (ofDue e.time)), 0) := by
   have q0 : chkO (startW n).n.ofs = 0 := hv.of
   unfold dueM
   rw [if_neg (by rw [q0]; exact zero3)]
   rfl
  unfold timerW at h0 ⊢
  rw [hd] at h0 ⊢
  have hv' : Val ((startW n).setO (n.ofs.filter (nt (ofDue e.time)))).n := hv.setF (nt (ofDue e.time))
  exact (setF_mono (startW n).n (nt (ofDue e.time))).trans (tm_mono (w := (startW n).setO (n.ofs.filter (nt (ofDue e.time)))) hv' rfl rfl (l := n.ofs.filter (ofDue e.time)) k2 (hofs.filter (ofDue e.time)).2.2 (fun o ho => h.fd o (List.mem_filter.1 ho).1) _ (Nat.le_refl _) h0)
 ·have hkw : kindW (startW n) e = expireW (startW n) e := by
   unfold kindW
   rw [if_neg (by rw [r]; decide), if_neg (by rw [r]; decide), if_neg (by rw [r]; decide), if_neg (by rw [r]; decide), if_pos (by rw [r]; rfl)]
  rw [hkw] at h0 ⊢
  have hd : expireM (startW n).n.dur e.time = (expRecs e.time n.dur.items, 0) := by
   have q0 : checkM (startW n).n.dur = 0 := (good_iff _).2 hv.j.good
   unfold expireM
   rw [if_neg (by rw [q0]; exact zero3), if_neg (by rw [k2]; decide)]
   rfl
  unfold expireW at h0 ⊢
  rw [hd] at h0 ⊢
  dsimp only at h0 ⊢
  rw [if_neg zero3] at h0 ⊢
  have := ex_mono hv rfl rfl (l := n.dur.items) rfl k2 _ (Nat.le_refl _)
  rw [List.take_length] at this
  exact this h0
 ·have hkw : kindW (startW n) e = dropW (startW n) e := by
   unfold kindW
   rw [if_neg (by rw [r]; decide), if_neg (by rw [r]; decide), if_neg (by rw [r]; decide), if_neg (by rw [r]; decide), if_neg (by rw [r]; decide), if_pos (by rw [r]; rfl)]
  rw [hkw] at h0 ⊢
  unfold dropW at h0 ⊢
  by_cases q : (findM (startW n).n.dur e.id).2 = true
  ·rw [if_pos q] at h0 ⊢
   obtain ⟨hx, hi⟩ := find_mem q
   obtain ⟨r1, r2, r3⟩ := remove_rem hv rfl hx k2 h0
   exact rem_mono hv r1 hx k2
  ·rw [if_neg q]
   exact .refl _
structure Cap (k : Nat) (n : Nod) : Prop where
 room : n.jour.size + 256 * n.dur.items.length ≤ 512 * k
 len : n.ofs.length ≤ k
theorem Cap.mono {k : Nat} {n n' : Nod} (h : Cap k n) (g : Mono n n') : Cap (k + 1) n' := ⟨by have := h.room; have := g.room; omega, by have := h.len; have := g.len; omega⟩
theorem Cap.le {k m : Nat} {n : Nod} (h : Cap k n) (g : k ≤ m) : Cap m n := ⟨by have := h.room; omega, by have := h.len; omega⟩
theorem begin_len {l : List Ofr} {id : Nid} {c d : Int} : (beginM l id c d).1.length ≤ l.length + 1 := by
 unfold beginM
 simp only
 split
 ·exact Nat.zero_le _
 split
 ·exact Nat.zero_le _
 split
 ·exact Nat.zero_le _
 split
 ·exact Nat.zero_le _
 ·have ht := filt_two (fun p => ltO p ⟨id, c, d, ((l.filter (ofId id)).length : Int)⟩) l
  simp only [List.length_append, List.length_singleton]
  omega
theorem go_cap {k : Nat} {n : Nod} (h : Val n) (hc : Cap k n) {e : Evt} (hg : e.item.data.size ≤ 100) (hz : (goM n e).2.2 = 0) : Cap (k + 1) (goM n e).1 := by
 obtain ⟨g1, _, g3, _⟩ := go_val h hz
 obtain ⟨k1, k2, k3⟩ := evE_ok g1
 obtain ⟨k1, k1'⟩ := inR_iff.1 k1
 have hk : e.kind = 1 ∨ e.kind = 2 ∨ (3 ≤ e.kind ∧ e.kind ≤ 6) ∨ e.kind = 7 := by omega
 have c1 := hc.room
 have c2 := hc.len
 rcases hk with r | r | r | r
 ·rw [r] at k3
  have k3 : okItem e.item = true := k3
  obtain ⟨_, _, _, hp⟩ := go_put h hz r
  generalize (goM n e).1 = m at *
  have keep : m = (startW n).n → Cap (k + 1) m := fun q => by rw [q]; exact ⟨by show n.jour.size + 256 * n.dur.items.length ≤ _; omega, by show n.ofs.length ≤ _; omega⟩
  have grow : ∀ r : Jrec, (sealL (conL r)).length ≤ 256 → Grow (startW n).n m r → m.dur.items.length ≤ n.dur.items.length + 1 → Cap (k + 1) m := fun r hr g gl => by
   have h3 := ls_len m.jour
   have h4 : (ls (startW n).n.jour).length = n.jour.size := ls_len n.jour
   rw [g.jour, List.length_append, h4] at h3
   refine ⟨by omega, ?_⟩
   rw [g.ofs]
   show n.ofs.length ≤ _
   omega
  cases hp with
  | old h1 => exact keep h1
  | full h1 => exact keep h1
  | dupo h1 _ => exact keep h1
  | dup h1 _ => exact keep h1
  | box h1 h2 h3 => exact grow _ (seal_len (recErr3 k3 k2) (fun _ => hg)) h3 (by rw [h1]; exact Nat.le_succ _)
  | item h1 h3 => exact grow _ (seal_len (recErr1 k3 k2) (fun _ => hg)) h3 (by rw [h1]; show (n.dur.items ++ [e.item]).length ≤ _; simp)
 ·have h0 := go_err hz
  have hkw : kindW (startW n) e = sendW (startW n) e := by
   unfold kindW
   rw [if_neg (by rw [r]; decide), if_pos (by rw [r]; rfl)]
  rw [g3]
  show Cap (k + 1) (kindW (startW n) e).n
  have keep : ∀ l : List Ofr, l.length ≤ n.ofs.length + 1 → Cap (k + 1) { (startW n).n with ofs := l } := fun l hl => ⟨by show n.jour.size + 256 * n.dur.items.length ≤ _; omega, by show l.length ≤ _; omega⟩
  rw [hkw] at h0 ⊢
  unfold sendW at h0 ⊢
  split
  ·exact keep n.ofs (Nat.le_succ _)
  ·split
   ·exact keep _ begin_len
   ·split
    ·exact keep n.ofs (Nat.le_succ _)
    ·exact keep n.ofs (Nat.le_succ _)
 ·have hm := go_mono h hz r
  have hs : Cap k (startW n).n := ⟨hc.room, hc.len⟩
  exact hs.mono hm
 ·have h0 := go_err hz
  rw [r] at k3
  have k3 : (vId e.id && inR e.ticket 0 1152921504606846976) = true := k3
  rw [Bool.and_eq_true] at k3
  rw [g3]
  show Cap (k + 1) (kindW (startW n) e).n
  have hkw : kindW (startW n) e = ticketW (startW n) e := by
   unfold kindW
   rw [if_neg (by rw [r]; decide), if_neg (by rw [r]; decide), if_neg (by rw [r]; decide), if_neg (by rw [r]; decide), if_neg (by rw [r]; decide), if_neg (by rw [r]; decide)]
  rw [hkw] at h0 ⊢
  unfold ticketW at h0 ⊢
  by_cases hf : (findM (startW n).n.dur e.id).2 = true
  ·rw [if_pos hf] at h0 ⊢
   have hr := recErr4 (id := e.id) (by rw [← vId_valid]; exact k3.1) k3.2 k2
   have h0 : (if (wr (startW n).n ⟨4, .zero, e.id, e.ticket, e.time⟩).2 != 0 then (wr (startW n).n ⟨4, .zero, e.id, e.ticket, e.time⟩).2 else (0 : Int)) = 0 := h0
   rcases wr_both h.lastN.j hr with ⟨e1, _⟩ | ⟨e1, e2, e3, e4, e5, e6⟩
   ·rw [e1] at h0; cases h0
   ·have hn : ((startW n).write [⟨4, .zero, e.id, e.ticket, e.time⟩]).n = wrN (startW n).n ⟨4, .zero, e.id, e.ticket, e.time⟩ := by
     show (wr (startW n).n ⟨4, .zero, e.id, e.ticket, e.time⟩).1 = _
     rw [e1]
    rw [hn]
    have h3 := ls_len (wrN (startW n).n ⟨4, .zero, e.id, e.ticket, e.time⟩).jour
    have h4 : (ls (startW n).n.jour).length = n.jour.size := ls_len n.jour
    have h5 := seal_len hr (fun q => by cases q)
    rw [e5, List.length_append, h4] at h3
    have h6 : (wrN (startW n).n ⟨4, .zero, e.id, e.ticket, e.time⟩).dur.items.length = n.dur.items.length := by
     rw [e4]
     have := congrArg List.length (tick_size n.dur.items e.id e.ticket).2
     rw [List.length_map, List.length_map] at this
     exact this
    exact ⟨by omega, by show n.ofs.length ≤ _; omega⟩
  ·rw [if_neg hf]
   exact ⟨by show n.jour.size + 256 * n.dur.items.length ≤ _; omega, by show n.ofs.length ≤ _; omega⟩
end Go.Proofs.YtggjngbighkdgaaGreat

namespace Go.Proofs.YtggjngbighkdgaaGreat
open Go.Sy Go.Mb
set_option maxRecDepth 100000
set_option maxHeartbeats 4000000
def Fate (x : Itm) (w : Wst) : Prop :=
 (x.custody = true ∧ x ∈ w.n.dur.items ∧ (⟨4, x, 0, 0⟩ : Mb.Act) ∈ w.acts) ∨ (x.custody = false ∧ (findM w.n.dur x.id).2 = false ∧ w.n.ofs.any (ofId x.id) = false ∧ (⟨5, x, 0, 0⟩ : Mb.Act) ∈ w.acts)
theorem settle_room {w : Wst} (h : Val w.n) (he : w.err = 0) {id : Nid} (hf : (findM w.n.dur id).2 = true) {t : Int} (ht : inR t 0 1099511627776 = true) (s a : Bool) (hr : w.n.jour.size + 256 * w.n.dur.items.length ≤ 65536) : (w.settle t id s a).err = 0 := by
 obtain ⟨hx, hi⟩ := find_mem hf
 unfold Wst.settle
 rw [if_neg (by rw [hf]; decide)]
 split
 ·exact he
 ·have hre := recErr2 (ok_id (h.j.good.1 _ hx)) ht
  have h1 := con_len hre (fun q => by cases q)
  have h2 := seal_len hre (fun q => by cases q)
  have h3 := List.length_pos_of_mem hx
  have h4 := wr_room h.j hre (by omega) (by omega)
  show (if (wr w.n ⟨2, .zero, (findM w.n.dur id).1.id, 0, t⟩).2 != 0 then (wr w.n ⟨2, .zero, (findM w.n.dur id).1.id, 0, t⟩).2 else w.err) = 0
  rw [h4, if_neg zero3]
  exact he
theorem found_false {d : Dur} {id : Nid} : (findM d id).2 = false ↔ ∀ x ∈ d.items, x.id ≠ id := by
 rw [← Bool.not_eq_true, find_iff]
 exact ⟨fun h x hx e => h ⟨x, hx, e⟩, fun h ⟨x, hx, e⟩ => h x hx e⟩
theorem ofs_none {l : List Ofr} {id : Nid} : l.any (ofId id) = false ↔ ∀ o ∈ l, o.id ≠ id := by
 rw [List.any_eq_false]
 unfold ofId
 refine forall_congr' fun o => forall_congr' fun _ => ?_
 rw [Nid.eqv_iff]
theorem settle_fate {w : Wst} (h : Val w.n) (he : w.err = 0) {id : Nid} (hf : (findM w.n.dur id).2 = true) {t : Int} (ht : inR t 0 1099511627776 = true) {s a : Bool} (hsa : (s && a) = false) (h0 : (w.settle t id s a).err = 0) (x : Itm) :
  Val (w.settle t id s a).n ∧ (id ≠ x.id → x ∈ w.n.dur.items → x ∈ (w.settle t id s a).n.dur.items) ∧ (id ≠ x.id → Fate x w → Fate x (w.settle t id s a)) ∧ (id = x.id → x ∈ w.n.dur.items → Fate x (w.settle t id s a)) := by
 obtain ⟨y, y1, y2, y3⟩ := settle_rem h he hf ht h0
 have same : id = x.id → x ∈ w.n.dur.items → y = x := fun e hx => by
  have e1 := find_eq h.j.good.2.2.1 y1
  have e2 := find_eq h.j.good.2.2.1 hx
  rw [y2, e, e2] at e1
  exact (congrArg Prod.fst e1).symm
 rcases y3 with ⟨c1, _, c2⟩ | ⟨c1, c2, c3, c4⟩
 ·rw [c2]
  refine ⟨h, fun _ q => q, fun _ q => ?_, fun e hx => ?_⟩
  ·rcases q with ⟨q1, q2, q3⟩ | ⟨q1, q2, q3, q4⟩
   ·exact .inl ⟨q1, q2, List.mem_append_left _ q3⟩
   ·exact .inr ⟨q1, q2, q3, List.mem_append_left _ q4⟩
  ·have q := same e hx
   subst q
   exact .inl ⟨c1, hx, List.mem_append_right _ (List.mem_singleton.2 rfl)⟩
 ·have c1 : y.custody = false := c1.resolve_right (by rw [hsa]; decide)
  have hd := c2.dur
  have ho := c2.ofs
  generalize (w.settle t id s a) = W at *
  refine ⟨c3, fun e hx => ?_, fun e q => ?_, fun e hx => ?_⟩
  ·rw [hd]
   exact (filter_id x).2 ⟨hx, by rw [y2]; exact fun q => e q.symm⟩
  ·rcases q with ⟨q1, q2, q3⟩ | ⟨q1, q2, q3, q4⟩
   ·refine .inl ⟨q1, ?_, by rw [c4]; exact List.mem_append_left _ q3⟩
    rw [hd]
    exact (filter_id x).2 ⟨q2, by rw [y2]; exact fun q => e q.symm⟩
   ·refine .inr ⟨q1, ?_, ?_, by rw [c4]; exact List.mem_append_left _ q4⟩
    ·rw [found_false] at q2 ⊢
     intro z hz
     rw [hd] at hz
     exact q2 z ((filter_id z).1 hz).1
    ·rw [ofs_none] at q3 ⊢
     intro o hoo
     rw [ho] at hoo
     exact q3 o (List.mem_filter.1 hoo).1
  ·have q := same e hx
   subst q
   refine .inr ⟨c1, ?_, ?_, by rw [c4]; exact List.mem_append_right _ (List.mem_singleton.2 rfl)⟩
   ·rw [found_false]
    intro z hz
    rw [hd] at hz
    exact ((filter_id z).1 hz).2
   ·rw [ofs_none]
    intro o hoo e2
    rw [ho] at hoo
    have := (List.mem_filter.1 hoo).2
    unfold nt ofId at this
    rw [Nid.eqv_iff.2 e2] at this
    cases this
theorem id_between {l : List Ofr} (hp : l.Pairwise ofLt) {j i k : Nat} (hji : j ≤ i) (hik : i < k) (hk : k < l.length) (h : (l.getD j default).id = (l.getD k default).id) : (l.getD i default).id = (l.getD k default).id := by
 rcases Nat.eq_or_lt_of_le hji with q | q
 ·rw [← q]; exact h
 rw [List.pairwise_iff_getElem] at hp
 have p1 := hp j i (by omega) (by omega) q
 have p2 := hp i k (by omega) hk hik
 rw [← getD_lt (by omega : j < l.length), ← getD_lt (by omega : i < l.length)] at p1
 rw [← getD_lt (by omega : i < l.length), ← getD_lt hk] at p2
 rcases p1 with p1 | ⟨p1, _⟩
 ·rcases p2 with p2 | ⟨p2, _⟩
  ·rw [h] at p1
   exact (idLt_asymm p1 p2).elim
  ·exact p2
 ·rw [← p1]; exact h
theorem tm_fate {w : Wst} (h : Val w.n) (ha : w.acts = []) (he : w.err = 0) {l : List Ofr} {t : Int} (ht : inR t 0 1099511627776 = true) (hp : l.Pairwise ofLt) (hf : ∀ o ∈ l, (findM w.n.dur o.id).2 = true) (hr : w.n.jour.size + 256 * w.n.dur.items.length ≤ 65536) {x : Itm} (hx : x ∈ w.n.dur.items) : ∀ k, k ≤ l.length →
  (tmN l t w k).err = 0 ∧ ((∀ j, j < k → (l.getD j default).id ≠ x.id) → x ∈ (tmN l t w k).n.dur.items) ∧ ((∃ j, j < k ∧ (l.getD j default).id = x.id) → Fate x (tmN l t w k))
 | 0, _ => ⟨he, fun _ => hx, fun ⟨j, hj, _⟩ => by omega⟩
 | k + 1, hk => by
  obtain ⟨ih0, ih1, ih2⟩ := tm_fate h ha he ht hp hf hr hx k (by omega)
  obtain ⟨i1, i2⟩ := tm_agr h ha he ht hp hf k (by omega)
  have hm := tm_mono h ha he ht hp hf k (by omega) ih0
  rw [tmN]
  generalize tmN l t w k = W at *
  rcases i2 with ⟨b1, _⟩ | ⟨b1, _, b3, b4⟩
  ·rw [b1] at ih0; cases ih0
  split
  ·rename_i q
   have q' : k = 0 ∨ (l.getD k default).id ≠ (l.getD (k - 1) default).id := by
    rw [Bool.or_eq_true, beq_iff_eq, Bool.not_eq_true', ← Bool.not_eq_true, Nid.eqv_iff] at q
    rcases q with q | q
    ·exact .inl q
    ·exact .inr fun r => q r.symm
   have hfk := b4 k (Nat.le_refl _) hk q'
   have h0 := settle_room b3 b1 hfk ht false false (Nat.le_trans hm.room hr)
   obtain ⟨f0, f1, f2, f3⟩ := settle_fate b3 b1 hfk ht rfl h0 x
   refine ⟨h0, fun hn => f1 (hn k (by omega)) (ih1 fun j hj => hn j (by omega)), fun hex => ?_⟩
   by_cases hkx : (l.getD k default).id = x.id
   ·refine f3 hkx (ih1 fun j hj hjx => ?_)
    rcases q' with q' | q'
    ·omega
    ·exact q' (id_between hp (show j ≤ k - 1 by omega) (by omega) hk (by rw [hjx, hkx])).symm
   ·obtain ⟨j, hj, hjx⟩ := hex
    have : j ≠ k := by rintro rfl; exact hkx hjx
    exact f2 hkx (ih2 ⟨j, by omega, hjx⟩)
  ·rename_i q
   have q' : k ≠ 0 ∧ (l.getD (k - 1) default).id = (l.getD k default).id := by
    rw [Bool.or_eq_true, beq_iff_eq, Bool.not_eq_true', ← Bool.not_eq_true, Nid.eqv_iff, not_or, Decidable.not_not] at q
    exact q
   refine ⟨b1, fun hn => ih1 fun j hj => hn j (by omega), fun ⟨j, hj, hjx⟩ => ?_⟩
   by_cases hjk : j = k
   ·subst hjk
    exact ih2 ⟨j - 1, by omega, by rw [q'.2]; exact hjx⟩
   ·exact ih2 ⟨j, by omega, hjx⟩
theorem replan_send {n : Nod} (h : Val n) (hl : n.ofs.length < 64) {x : Itm} (hx : x ∈ n.dur.items) {c d : Nat} (hc : c < 64) (hd : d < 256) :
  (n.ofs.any (ofKey x.id (c : Int)) = true ∧ goM n ⟨2, 200, .zero, x.id, (c : Int), 200 + (d : Int), false, 0⟩ = ((startW n).n, [], 0)) ∨
  (n.ofs.any (ofKey x.id (c : Int)) = false ∧ ∃ F, goM n ⟨2, 200, .zero, x.id, (c : Int), 200 + (d : Int), false, 0⟩ = ({ (startW n).n with ofs := F }, [⟨1, x, (c : Int), 0⟩], 0) ∧ F.length = n.ofs.length + 1 ∧ ∃ o ∈ F, ofKey x.id (c : Int) o = true ∧ o.due = 200 + (d : Int) ∧ ∀ p ∈ F, p = o ∨ p ∈ n.ofs) := by
 have hvi : vId x.id = true := by rw [vId_valid]; exact ok_id (h.j.good.1 x hx)
 have hev : evE ⟨2, 200, .zero, x.id, (c : Int), 200 + (d : Int), false, 0⟩ = 0 := by
  unfold evE
  rw [if_neg (show ¬ (!inR 2 1 7) = true by decide), if_pos]
  show (inR 200 0 1099511627776 && (vId x.id && inR (c : Int) 0 63 && inR (200 + (d : Int)) 0 1099511627777)) = true
  rw [hvi, show inR (c : Int) 0 63 = true from inR_iff.2 (by omega), show inR (200 + (d : Int)) 0 1099511627777 = true from inR_iff.2 (by omega)]
  rfl
 have hfe : findM n.dur x.id = (x, true) := find_eq h.j.good.2.2.1 hx
 have hgo : ∀ W : Wst, sendW (startW n) ⟨2, 200, .zero, x.id, (c : Int), 200 + (d : Int), false, 0⟩ = W → W.err = 0 → goM n ⟨2, 200, .zero, x.id, (c : Int), 200 + (d : Int), false, 0⟩ = (W.n, W.acts, 0) := by
  intro W hW h0
  unfold goM
  rw [if_neg (by rw [hev]; exact zero3), if_neg (by rw [h.up]; decide)]
  have hkw : kindW (startW n) ⟨2, 200, .zero, x.id, (c : Int), 200 + (d : Int), false, 0⟩ = W := hW
  rw [hkw, if_neg (by rw [h0]; exact zero3)]
 have hq0 : chkO (startW n).n.ofs = 0 := h.of
 have hfl : (n.ofs.filter (ofId x.id)).length ≤ 64 := Nat.le_trans (List.length_filter_le _ _) (by omega)
 have hv : vOf ⟨x.id, (c : Int), 200 + (d : Int), ((n.ofs.filter (ofId x.id)).length : Int)⟩ = true := by
  unfold vOf
  rw [hvi, Bool.true_and, decide_eq_true_eq]
  simp only
  omega
 have hno : (n.ofs.filter (ofId x.id)).any (ofKey x.id (c : Int)) = n.ofs.any (ofKey x.id (c : Int)) := by
  rw [Bool.eq_iff_iff, List.any_eq_true, List.any_eq_true]
  constructor
  ·rintro ⟨p, hp, hq⟩
   exact ⟨p, (List.mem_filter.1 hp).1, hq⟩
  ·rintro ⟨p, hp, hq⟩
   exact ⟨p, List.mem_filter.2 ⟨hp, by unfold ofKey at hq; rw [Bool.and_eq_true] at hq; exact hq.1⟩, hq⟩
 cases q : n.ofs.any (ofKey x.id (c : Int))
 ·right
  have hb : beginM n.ofs x.id (c : Int) (200 + (d : Int)) = (n.ofs.filter (fun p => ltO p ⟨x.id, (c : Int), 200 + (d : Int), ((n.ofs.filter (ofId x.id)).length : Int)⟩) ++ [⟨x.id, (c : Int), 200 + (d : Int), ((n.ofs.filter (ofId x.id)).length : Int)⟩] ++ n.ofs.filter (nt fun p => ltO p ⟨x.id, (c : Int), 200 + (d : Int), ((n.ofs.filter (ofId x.id)).length : Int)⟩), 0) := by
   unfold beginM
   simp only
   rw [if_neg (by rw [h.of]; decide), if_neg (by rw [hv]; decide), if_neg (by rw [hno, q]; decide), if_neg (by simp; omega)]
  have ht := filt_two (fun p => ltO p ⟨x.id, (c : Int), 200 + (d : Int), ((n.ofs.filter (ofId x.id)).length : Int)⟩) n.ofs
  refine ⟨rfl, _, hgo ⟨{ (startW n).n with ofs := (beginM n.ofs x.id (c : Int) (200 + (d : Int))).1 }, [⟨1, x, (c : Int), 0⟩], 0⟩ ?_ rfl, ?_, ⟨x.id, (c : Int), 200 + (d : Int), ((n.ofs.filter (ofId x.id)).length : Int)⟩, ?_, ?_, rfl, ?_⟩
  ·have e1 : findM (startW n).n.dur x.id = (x, true) := hfe
   have e2 : (beginM (startW n).n.ofs x.id (c : Int) (200 + (d : Int))).2 = 0 := by rw [show (startW n).n.ofs = n.ofs from rfl, hb]
   unfold sendW
   dsimp only
   rw [e1, e2]
   rfl
  ·rw [hb]
   simp only [List.length_append, List.length_singleton]
   omega
  ·rw [hb]
   simp
  ·unfold ofKey
   rw [Nid.eqv_iff.2 rfl]
   simp
  ·intro p hp
   rw [hb] at hp
   simp only [List.mem_append, List.mem_singleton] at hp
   rcases hp with (hp | hp) | hp
   ·exact .inr (List.mem_filter.1 hp).1
   ·exact .inl hp
   ·exact .inr (List.mem_filter.1 hp).1
 ·left
  have hb : (beginM n.ofs x.id (c : Int) (200 + (d : Int))).2 = 6 := by
   unfold beginM
   simp only
   rw [if_neg (by rw [h.of]; decide), if_neg (by rw [hv]; decide), if_pos (by rw [hno, q])]
  refine ⟨rfl, hgo (startW n) ?_ rfl⟩
  have e1 : findM (startW n).n.dur x.id = (x, true) := hfe
  have e2 : (beginM (startW n).n.ofs x.id (c : Int) (200 + (d : Int))).2 = 6 := hb
  unfold sendW
  dsimp only
  rw [e1, e2]
  rfl
structure Ended (x : Itm) (c : Nat) (n' : Nod) (a : List Mb.Act) : Prop where
 found : (findM n'.dur x.id).2 = x.custody
 act : a.any (fun y => y.kind == (if x.custody then 4 else 5) && y.item.id.eqv x.id) = true
 ofs : n'.ofs.any (fun o => o.id.eqv x.id && (o.contact == (c : Int) || !x.custody)) = false
theorem Fate.ended {x : Itm} {w : Wst} (h : Fate x w) {c : Nat} (ho : ∀ o ∈ w.n.ofs, ofKey x.id (c : Int) o = false) : Ended x c w.n w.acts := by
 rcases h with ⟨h1, h2, h3⟩ | ⟨h1, h2, h3, h4⟩
 ·refine ⟨by rw [h1, found_self h2], List.any_eq_true.2 ⟨_, h3, ?_⟩, ?_⟩
  ·rw [h1]
   show ((4 : Int) == 4 && x.id.eqv x.id) = true
   rw [Nid.eqv_iff.2 rfl]; rfl
  ·rw [List.any_eq_false]
   intro o hoo q
   rw [h1, Bool.not_true, Bool.or_false] at q
   have := ho o hoo
   unfold ofKey at this
   rw [q] at this
   cases this
 ·refine ⟨by rw [h1, h2], List.any_eq_true.2 ⟨_, h4, ?_⟩, ?_⟩
  ·rw [h1]
   show ((5 : Int) == 5 && x.id.eqv x.id) = true
   rw [Nid.eqv_iff.2 rfl]; rfl
  ·rw [List.any_eq_false]
   rw [ofs_none] at h3
   intro o hoo q
   rw [Bool.and_eq_true, Nid.eqv_iff] at q
   exact h3 o hoo q.1
theorem replan_signal {n : Nod} (h : Val n) (hr : n.jour.size + 256 * n.dur.items.length ≤ 65536) {x : Itm} (hx : x ∈ n.dur.items) {c : Nat} (hc : c < 64) (hany : n.ofs.any (ofKey x.id (c : Int)) = true) :
  (goM n ⟨3, 200, .zero, x.id, (c : Int), 0, false, 0⟩).2.2 = 0 ∧ (goM n ⟨3, 200, .zero, x.id, (c : Int), 0, false, 0⟩).2.1.length = 1 ∧ Ended x c (goM n ⟨3, 200, .zero, x.id, (c : Int), 0, false, 0⟩).1 (goM n ⟨3, 200, .zero, x.id, (c : Int), 0, false, 0⟩).2.1 := by
 have hvi : vId x.id = true := by rw [vId_valid]; exact ok_id (h.j.good.1 x hx)
 have hev : evE ⟨3, 200, .zero, x.id, (c : Int), 0, false, 0⟩ = 0 := by
  unfold evE
  rw [if_neg (show ¬ (!inR 3 1 7) = true by decide), if_pos]
  show (inR 200 0 1099511627776 && (vId x.id && inR (c : Int) 0 63)) = true
  rw [hvi, show inR (c : Int) 0 63 = true from inR_iff.2 (by omega)]
  rfl
 have hfe : findM n.dur x.id = (x, true) := find_eq h.j.good.2.2.1 hx
 have hv := h.lastN
 have hv' : Val ((startW n).setO (n.ofs.filter (nt (ofKey x.id (c : Int))))).n := hv.setF (nt (ofKey x.id (c : Int)))
 have hf : (findM ((startW n).setO (n.ofs.filter (nt (ofKey x.id (c : Int))))).n.dur x.id).2 = true := by
  show (findM n.dur x.id).2 = true
  rw [hfe]
 have ht : inR 200 0 1099511627776 = true := rfl
 have h0 := settle_room hv' rfl hf ht true false hr
 obtain ⟨f0, _, _, f3⟩ := settle_fate hv' rfl hf ht (s := true) (a := false) rfl h0 x
 have f3 := f3 rfl hx
 have hm := settle_mono hv' rfl hf ht (s := true) (a := false) h0
 have hlen : (((startW n).setO (n.ofs.filter (nt (ofKey x.id (c : Int))))).settle 200 x.id true false).acts.length = 1 := by
  obtain ⟨y, _, _, y3⟩ := settle_rem hv' rfl hf ht (s := true) (a := false) h0
  rcases y3 with ⟨_, _, y3⟩ | ⟨_, _, _, y3⟩
  ·rw [y3]; rfl
  ·rw [y3]; rfl
 have hs : signalM n.ofs x.id (c : Int) = (n.ofs.filter (nt (ofKey x.id (c : Int))), 3, 0) := by
  unfold signalM
  rw [if_neg (by rw [h.of]; decide), if_neg]
  intro q
  have q : ((n.ofs.filter (ofKey x.id (c : Int))).length : Int) = 0 := by simpa using q
  obtain ⟨o, ho1, ho2⟩ := List.any_eq_true.1 hany
  have := List.length_pos_of_mem (List.mem_filter.2 ⟨ho1, ho2⟩)
  omega
 have hgo : goM n ⟨3, 200, .zero, x.id, (c : Int), 0, false, 0⟩ = ((((startW n).setO (n.ofs.filter (nt (ofKey x.id (c : Int))))).settle 200 x.id true false).n, (((startW n).setO (n.ofs.filter (nt (ofKey x.id (c : Int))))).settle 200 x.id true false).acts, 0) := by
  have hkw : kindW (startW n) ⟨3, 200, .zero, x.id, (c : Int), 0, false, 0⟩ = ((startW n).setO (n.ofs.filter (nt (ofKey x.id (c : Int))))).settle 200 x.id true false := by
   show signalW (startW n) ⟨3, 200, .zero, x.id, (c : Int), 0, false, 0⟩ = _
   unfold signalW
   dsimp only
   rw [show signalM (startW n).n.ofs x.id (c : Int) = _ from hs]
   rfl
  unfold goM
  rw [if_neg (by rw [hev]; exact zero3), if_neg (by rw [h.up]; decide), hkw, if_neg (by rw [h0]; exact zero3)]
 rw [hgo]
 refine ⟨rfl, hlen, f3.ended fun o ho => ?_⟩
 have := (List.mem_filter.1 (hm.sub o ho)).2
 unfold nt at this
 simpa using this
theorem replan_timer {n : Nod} (h : Val n) (hr : n.jour.size + 256 * n.dur.items.length ≤ 65536) {x : Itm} (hx : x ∈ n.dur.items) {c d : Nat} (hc : c < 64) (hd : d < 256) {o : Ofr} (ho : o ∈ n.ofs) (hok : ofKey x.id (c : Int) o = true) (hod : o.due = 200 + (d : Int)) (hun : ∀ p ∈ n.ofs, ofKey x.id (c : Int) p = true → p = o) :
  (goM n ⟨4, 200 + (d : Int), .zero, .zero, 0, 0, false, 0⟩).2.2 = 0 ∧ Ended x c (goM n ⟨4, 200 + (d : Int), .zero, .zero, 0, 0, false, 0⟩).1 (goM n ⟨4, 200 + (d : Int), .zero, .zero, 0, 0, false, 0⟩).2.1 := by
 have ht : inR (200 + (d : Int)) 0 1099511627776 = true := inR_iff.2 (by omega)
 have hev : evE ⟨4, 200 + (d : Int), .zero, .zero, 0, 0, false, 0⟩ = 0 := by
  unfold evE
  rw [if_neg (show ¬ (!inR 4 1 7) = true by decide), if_pos]
  show (inR (200 + (d : Int)) 0 1099511627776 && true) = true
  rw [ht]; rfl
 have hv := h.lastN
 have hofs := (ofs_iff _).1 hv.of
 have hv' : Val ((startW n).setO (n.ofs.filter (nt (ofDue (200 + (d : Int)))))).n := hv.setF (nt (ofDue (200 + (d : Int))))
 have hpw := (hofs.filter (ofDue (200 + (d : Int)))).2.2
 have hfo : ∀ o ∈ n.ofs.filter (ofDue (200 + (d : Int))), (findM ((startW n).setO (n.ofs.filter (nt (ofDue (200 + (d : Int)))))).n.dur o.id).2 = true := fun o ho => h.fd o (List.mem_filter.1 ho).1
 obtain ⟨h0, _, f2⟩ := tm_fate (w := (startW n).setO (n.ofs.filter (nt (ofDue (200 + (d : Int)))))) hv' rfl rfl (l := n.ofs.filter (ofDue (200 + (d : Int)))) ht hpw hfo hr (x := x) hx _ (Nat.le_refl _)
 have hm := tm_mono (w := (startW n).setO (n.ofs.filter (nt (ofDue (200 + (d : Int)))))) hv' rfl rfl (l := n.ofs.filter (ofDue (200 + (d : Int)))) ht hpw hfo _ (Nat.le_refl _) h0
 have hdue : ofDue (200 + (d : Int)) o = true := by
  unfold ofDue
  rw [hod]
  simp
 have hid : o.id = x.id := by
  unfold ofKey at hok
  rw [Bool.and_eq_true, Nid.eqv_iff] at hok
  exact hok.1
 have hin : o ∈ n.ofs.filter (ofDue (200 + (d : Int))) := List.mem_filter.2 ⟨ho, hdue⟩
 have f2 := f2 (by
  obtain ⟨j, hj, he⟩ := List.getElem_of_mem hin
  exact ⟨j, hj, by rw [getD_lt hj, he]; exact hid⟩)
 have hs : dueM (startW n).n.ofs (200 + (d : Int)) = (n.ofs.filter (ofDue (200 + (d : Int))), n.ofs.filter (nt (ofDue (200 + (d : Int)))), 0) := by
  have q0 : chkO (startW n).n.ofs = 0 := hv.of
  unfold dueM
  rw [if_neg (by rw [q0]; exact zero3)]
  rfl
 have hgo : goM n ⟨4, 200 + (d : Int), .zero, .zero, 0, 0, false, 0⟩ = ((tmN (n.ofs.filter (ofDue (200 + (d : Int)))) (200 + (d : Int)) ((startW n).setO (n.ofs.filter (nt (ofDue (200 + (d : Int)))))) (n.ofs.filter (ofDue (200 + (d : Int)))).length).n, (tmN (n.ofs.filter (ofDue (200 + (d : Int)))) (200 + (d : Int)) ((startW n).setO (n.ofs.filter (nt (ofDue (200 + (d : Int)))))) (n.ofs.filter (ofDue (200 + (d : Int)))).length).acts, 0) := by
  have hkw : kindW (startW n) ⟨4, 200 + (d : Int), .zero, .zero, 0, 0, false, 0⟩ = tmN (n.ofs.filter (ofDue (200 + (d : Int)))) (200 + (d : Int)) ((startW n).setO (n.ofs.filter (nt (ofDue (200 + (d : Int)))))) (n.ofs.filter (ofDue (200 + (d : Int)))).length := by
   show timerW (startW n) ⟨4, 200 + (d : Int), .zero, .zero, 0, 0, false, 0⟩ = _
   unfold timerW
   dsimp only
   rw [hs]
  unfold goM
  rw [if_neg (by rw [hev]; exact zero3), if_neg (by rw [h.up]; decide), hkw, if_neg (by rw [h0]; exact zero3)]
 rw [hgo]
 refine ⟨rfl, f2.ended fun p hp => ?_⟩
 have h1 := List.mem_filter.1 (hm.sub p hp)
 cases q : ofKey x.id (c : Int) p
 ·rfl
 ·have e1 := hun p h1.1 q
  have h2 := h1.2
  rw [e1] at h2
  unfold nt at h2
  rw [hdue] at h2
  cases h2
end Go.Proofs.YtggjngbighkdgaaGreat

namespace Go.Proofs.YtggjngbighkdgaaGreat
open Go.Sy Go.Mb
set_option maxRecDepth 100000
set_option maxHeartbeats 4000000
theorem rep1_ok (x : Itm) (k : Int) (o : Ofr) : FnOK Tryz.prog 35 [.agg o.cells, .ip 11 (getA x.cells), .ip 1 (getA [.int .i64 k])] (.bool (ofKey x.id k o), none) := by
 refine fn_ok CF rfl (by kernel_rfl) Tryz.func35 rfl ?_
 refine Sat.go (Eq.refl _) (NS.ite (fun g1 => ?_) (fun g1 => ?_))
 ·have g1 : o.id.eqv x.id = true := g1
  exact Sat.go (Eq.refl _) (NS.ret rfl rfl (LeA.of (congrArg A.bool (by unfold ofKey; rw [g1, Bool.true_and]))))
 ·have g1 : o.id.eqv x.id = false := g1
  exact Sat.go (Eq.refl _) (NS.ret rfl rfl (LeA.of (congrArg A.bool (by unfold ofKey; rw [g1, Bool.false_and]))))
def wantA (w : Int) (x : Itm) (c : Mb.Act) : Bool := c.kind == w && c.item.id.eqv x.id
theorem rep2_ok (w : Int) (x : Itm) (c : Mb.Act) : FnOK Tryz.prog 39 [.agg c.cells, .ip 1 (getA [.int .i64 w]), .ip 11 (getA x.cells)] (.bool (wantA w x c), none) := by
 refine fn_ok CF rfl (by kernel_rfl) Tryz.func39 rfl ?_
 refine Sat.go (Eq.refl _) (NS.ite (fun g1 => ?_) (fun g1 => ?_))
 ·have g1 : (c.kind == w) = true := g1
  exact Sat.go (Eq.refl _) (NS.ret rfl rfl (LeA.of (congrArg A.bool (by unfold wantA; rw [g1, Bool.true_and]; rfl))))
 ·have g1 : (c.kind == w) = false := g1
  exact Sat.go (Eq.refl _) (NS.ret rfl rfl (LeA.of (congrArg A.bool (by unfold wantA; rw [g1, Bool.false_and]))))
def leftO (x : Itm) (k : Int) (o : Ofr) : Bool := o.id.eqv x.id && (o.contact == k || !x.custody)
theorem rep3_ok (x : Itm) (k : Int) (o : Ofr) : FnOK Tryz.prog 40 [.agg o.cells, .ip 11 (getA x.cells), .ip 1 (getA [.int .i64 k])] (.bool (leftO x k o), none) := by
 refine fn_ok CF rfl (by kernel_rfl) Tryz.func40 rfl ?_
 refine Sat.go (Eq.refl _) (NS.ite (fun g1 => ?_) (fun g1 => ?_))
 ·have g1 : o.id.eqv x.id = true := g1
  refine Sat.go (Eq.refl _) (NS.ite (fun g2 => ?_) (fun g2 => ?_))
  ·have g2 : (o.contact == k) = true := g2
   exact Sat.go (Eq.refl _) (NS.ret rfl rfl (LeA.of (congrArg A.bool (by unfold leftO; rw [g1, g2]; rfl))))
  ·have g2 : (o.contact == k) = false := g2
   exact Sat.go (Eq.refl _) (NS.ret rfl rfl (LeA.of (congrArg A.bool (by unfold leftO; rw [g1, g2, Bool.true_and, Bool.false_or]))))
 ·have g1 : o.id.eqv x.id = false := g1
  exact Sat.go (Eq.refl _) (NS.ret rfl rfl (LeA.of (congrArg A.bool (by unfold leftO; rw [g1, Bool.false_and]))))
theorem nodeReplan_ok (a : Nat) (ha : a < 256) (b : Nat) (hb : b < 256) (l : List Evt) (c : Nat) (hc : c < 256) (d : Nat) (hd : d < 256) (r : Bool) : FnOK Tryz.prog 7 [.int .u8 (a : Nat), .int .u8 (b : Nat), slEvt l, .int .u8 (c : Nat), .int .u8 (d : Nat), .bool r] (.bool true, none) := by
 have cs := start_ok a b ha hb l
 cases hs : (decide (l.length ≤ 20) && !l.any greatE)
 ·rw [hs] at cs
  refine fn_ok CF rfl (by kernel_rfl) Tryz.func7 rfl ?_
  refine Sat.go (Eq.refl _) (NS.call (cs) rfl ?_)
  refine Sat.go (Eq.refl _) (NS.yes (rfl) ?_)
  refine Sat.go (Eq.refl _) (NS.call (awakeN_ok) rfl ?_)
  exact Sat.go (Eq.refl _) (NS.ret rfl rfl (LeA.refl _))
 rw [hs] at cs
 rw [Bool.and_eq_true, decide_eq_true_eq] at hs
 have hl := hs.1
 have hg : ∀ e ∈ l, e.item.data.size ≤ 100 := by
  intro e he
  have h2 := hs.2
  rw [Bool.not_eq_true', List.any_eq_false] at h2
  have h3 := h2 e he
  unfold greatE at h3
  rw [decide_eq_true_eq] at h3
  omega
 refine fn_ok CF rfl (by kernel_rfl) Tryz.func7 rfl ?_
 refine Sat.go (Eq.refl _) (NS.call (cs) rfl ?_)
 refine Sat.go (Eq.refl _) (NS.no (rfl) ?_)
 refine Sat.go (Eq.refl _) ?_
 refine NS.loop (σ := { q : Nat × Nod // q.1 ≤ l.length ∧ Val q.2 ∧ Cap q.1 q.2 }) (fun q => [(3, .int .u8 (c : Nat)), (4, .int .u8 (d : Nat)), (5, .bool r), (13, .ptr 13 0), (39, slEvt l), (40, .int .i64 l.length), (41, .int .i64 (q.1.1 : Nat))]) (fun q => [(13, .box q.1.2.cells)]) (fun q => l.length - q.1.1) ⟨(0, nod0 a b), Nat.zero_le _, val0 a b hb, ⟨Nat.zero_le _, Nat.zero_le _⟩⟩ ?_ ?_
 ·exact weak_hd [] rfl ⟨rfl, rfl, .inl rfl, rfl, rfl, rfl, rfl, trivial⟩ ⟨⟨_, rfl, renNod _ _⟩, trivial⟩ trivial (by kernel_rfl)
 rintro ⟨⟨k, m⟩, hk, hv, hcap⟩
 have hk : k ≤ l.length := hk
 have hv : Val m := hv
 have hcap : Cap k m := hcap
 refine Sat.go (Eq.refl _) (NS.ite (fun h => ?_) (fun h => ?_))
 ·have h : k < l.length := by simpa using h
  have ch := hand_ok hv (l.getD k default)
  have hgv := fun hz0 => (go_val hv (e := l.getD k default) hz0).2.1
  have hgc := fun hz0 => go_cap hv hcap (e := l.getD k default) (hg _ (by rw [getD_lt h]; exact List.getElem_mem h)) hz0
  refine Sat.go (Eq.refl _) (NS.need (by simp; omega) ?_)
  refine Sat.go (Eq.refl _) (NS.call (ch) rfl ?_)
  generalize goM m (l.getD k default) = z at *
  obtain ⟨z1, z2, z3⟩ := z
  refine Sat.go (Eq.refl _) (NS.ite (fun a3 => ?_) (fun a3 => ?_))
  ·have hz3 : z3 = 0 := by have a3 : (z3 == 0) = true := a3; simpa using a3
   have hv1 : Val z1 := hgv hz3
   have hc1 : Cap (k + 1) z1 := hgc hz3
   refine Sat.go (Eq.refl _) (NS.next ⟨(k + 1, z1), by show k + 1 ≤ l.length; omega, hv1, hc1⟩ (by show l.length - (k + 1) < l.length - k; omega) ?_)
   exact weak_hd [] rfl ⟨rfl, rfl, .inl rfl, rfl, rfl, rfl, ren_int rfl (i64_k (k := k) (n := l.length) h (by omega)), trivial⟩ ⟨⟨_, rfl, renNod _ _⟩, trivial⟩ trivial (by kernel_rfl)
  ·refine Sat.go (Eq.refl _) (NS.next ⟨(k + 1, m), by show k + 1 ≤ l.length; omega, hv, hcap.le (Nat.le_succ _)⟩ (by show l.length - (k + 1) < l.length - k; omega) ?_)
   exact weak_hd [] rfl ⟨rfl, rfl, .inl rfl, rfl, rfl, rfl, ren_int rfl (i64_k (k := k) (n := l.length) h (by omega)), trivial⟩ ⟨⟨_, rfl, renNod _ _⟩, trivial⟩ trivial (by kernel_rfl)
 ·have h : ¬ k < l.length := by simpa using h
  refine Sat.go (Eq.refl _) (NS.leave rfl (Eq.refl _) ?_)
  have hcap2 : Cap 20 m := hcap.le (by omega)
  have hroom := hcap2.room
  have hlen := hcap2.len
  obtain ⟨q3, q4⟩ := items_len hv.j
  have e1 : (IntKind.i64.wrap ((c : Nat) : Int)).tmod 64 = ((c % 64 : Nat) : Int) := by
   rw [wrap_i64 (by omega) (by omega)]
   exact (Int.ofNat_tmod c 64).symm
  have e2 : IntKind.i64.wrap (200 + IntKind.i64.wrap ((d : Nat) : Int)) = 200 + (d : Int) := by
   rw [wrap_i64 (n := ((d : Nat) : Int)) (by omega) (by omega), wrap_i64 (by omega) (by omega)]
  refine Sat.go (Eq.refl _) ?_
  refine NS.loop (σ := { i : Nat // i ≤ m.dur.items.length }) (fun i => [(3, .int .u8 (c : Nat)), (4, .int .u8 (d : Nat)), (5, .bool r), (13, .ptr 13 0), (58, slItm m.dur.items), (59, .int .i64 m.dur.items.length), (60, .int .i64 (i.1 : Nat))]) (fun _ => [(13, .box m.cells)]) (fun i => m.dur.items.length - i.1) ⟨0, Nat.zero_le _⟩ ?_ ?_
  ·exact weak_hd [] rfl ⟨rfl, rfl, .inl rfl, rfl, rfl, rfl, rfl, trivial⟩ ⟨⟨_, rfl, renNod _ _⟩, trivial⟩ trivial (by kernel_rfl)
  rintro ⟨i, hi⟩
  have hi : i ≤ m.dur.items.length := hi
  refine Sat.go (Eq.refl _) (NS.ite (fun b1 => ?_) (fun b1 => ?_))
  ·have b1 : i < m.dur.items.length := by simpa using b1
   have hx : m.dur.items.getD i default ∈ m.dur.items := by rw [getD_lt b1]; exact List.getElem_mem b1
   have ch := hand_ok hv ⟨2, 200, .zero, (m.dur.items.getD i default).id, ((c % 64 : Nat) : Int), 200 + (d : Int), false, 0⟩
   have hvz := fun hz0 => (go_val hv (e := ⟨2, 200, .zero, (m.dur.items.getD i default).id, ((c % 64 : Nat) : Int), 200 + (d : Int), false, 0⟩) hz0).2.1
   have hrs := replan_send hv (by omega) hx (c := c % 64) (d := d) (by omega) hd
   refine Sat.go (Eq.refl _) (NS.need (by simp; omega) ?_)
   refine Sat.go (Eq.refl _) (NS.need (rfl) ?_)
   rcases hrs with ⟨s1, s2⟩ | ⟨s1, F, s2, s3, o, o1, o2, o3, o4⟩
   ·rw [s2] at ch
    refine Sat.go (Eq.refl _) (NS.call (ch.le (LeL.cons (LeA.refl _) (LeL.cons (LeA.of (congrArg A.agg (show Evt.cells ⟨2, 200, .zero, (m.dur.items.getD i default).id, (IntKind.i64.wrap ((c : Nat) : Int)).tmod 64, IntKind.i64.wrap (200 + IntKind.i64.wrap ((d : Nat) : Int)), false, 0⟩ = _ by rw [e1, e2]))) LeL.nil))) rfl ?_)
    refine Sat.go (Eq.refl _) (NS.no (rfl) ?_)
    refine Sat.wk (weak_freezeP 21 21 11 rfl rfl rfl rfl) ?_
    refine Sat.wk (weak_freezeP 22 22 1 rfl rfl rfl rfl) ?_
    refine Sat.go (Eq.refl _) (NS.call (contO2_ok m.ofs (by omega) 35 11 1 (getA (m.dur.items.getD i default).cells) (getA [.int .i64 ((IntKind.i64.wrap ((c : Nat) : Int)).tmod 64)]) (ofKey (m.dur.items.getD i default).id ((IntKind.i64.wrap ((c : Nat) : Int)).tmod 64)) (rep1_ok _ _)) rfl ?_)
    refine Sat.go (Eq.refl _) (NS.yes (by rw [e1]; exact s1) ?_)
    refine Sat.go (Eq.refl _) (NS.no (rfl) ?_)
    refine Sat.go (Eq.refl _) (NS.no (by show ((m.ofs.length : Int) != (m.ofs.length : Int)) = false; simp) ?_)
    refine Sat.go (Eq.refl _) (NS.next ⟨i + 1, by omega⟩ (by show m.dur.items.length - (i + 1) < m.dur.items.length - i; omega) ?_)
    exact weak_hd [] rfl ⟨rfl, rfl, .inl rfl, rfl, rfl, rfl, ren_int rfl (i64_k (k := i) (n := m.dur.items.length) b1 (by omega)), trivial⟩ ⟨⟨_, rfl, renNod _ _⟩, trivial⟩ trivial (by kernel_rfl)
   ·rw [s2] at ch hvz
    have hvz : Val { (startW m).n with ofs := F } := hvz rfl
    refine Sat.go (Eq.refl _) (NS.call (ch.le (LeL.cons (LeA.refl _) (LeL.cons (LeA.of (congrArg A.agg (show Evt.cells ⟨2, 200, .zero, (m.dur.items.getD i default).id, (IntKind.i64.wrap ((c : Nat) : Int)).tmod 64, IntKind.i64.wrap (200 + IntKind.i64.wrap ((d : Nat) : Int)), false, 0⟩ = _ by rw [e1, e2]))) LeL.nil))) rfl ?_)
    refine Sat.go (Eq.refl _) (NS.no (rfl) ?_)
    refine Sat.wk (weak_freezeP 21 21 11 rfl rfl rfl rfl) ?_
    refine Sat.wk (weak_freezeP 22 22 1 rfl rfl rfl rfl) ?_
    refine Sat.go (Eq.refl _) (NS.call (contO2_ok m.ofs (by omega) 35 11 1 (getA (m.dur.items.getD i default).cells) (getA [.int .i64 ((IntKind.i64.wrap ((c : Nat) : Int)).tmod 64)]) (ofKey (m.dur.items.getD i default).id ((IntKind.i64.wrap ((c : Nat) : Int)).tmod 64)) (rep1_ok _ _)) rfl ?_)
    refine Sat.go (Eq.refl _) (NS.no (by rw [e1]; exact s1) ?_)
    refine Sat.go (Eq.refl _) (NS.chk (by kernel_rfl) ?_)
    refine Sat.go (Eq.refl _) (NS.no (rfl) ?_)
    refine Sat.go (Eq.refl _) (NS.need (rfl) ?_)
    refine Sat.go (Eq.refl _) (NS.no (rfl) ?_)
    refine Sat.go (Eq.refl _) (NS.need (rfl) ?_)
    refine Sat.go (Eq.refl _) (NS.no (by show (((c % 64 : Nat) : Int) != (IntKind.i64.wrap ((c : Nat) : Int)).tmod 64) = false; rw [e1]; simp) ?_)
    refine Sat.go (Eq.refl _) (NS.need (rfl) ?_)
    refine Sat.go (Eq.refl _) (NS.call (sameItem_ok (m.dur.items.getD i default) (m.dur.items.getD i default)) rfl ?_)
    refine Sat.go (Eq.refl _) (NS.no (by rw [Itm.eqv_iff.2 rfl]; rfl) ?_)
    refine Sat.go (Eq.refl _) (NS.no (by show ((F.length : Int) != IntKind.i64.wrap ((m.ofs.length : Int) + 1)) = false; rw [wrap_i64 (by omega) (by omega), s3]; simp) ?_)
    have hxz : m.dur.items.getD i default ∈ ({ (startW m).n with ofs := F } : Nod).dur.items := hx
    have hrz : ({ (startW m).n with ofs := F } : Nod).jour.size + 256 * ({ (startW m).n with ofs := F } : Nod).dur.items.length ≤ 65536 := by show m.jour.size + 256 * m.dur.items.length ≤ _; omega
    have hfz : (findM ({ (startW m).n with ofs := F } : Nod).dur (m.dur.items.getD i default).id).2 = true := found_self hxz
    have hany : ({ (startW m).n with ofs := F } : Nod).ofs.any (ofKey (m.dur.items.getD i default).id ((c % 64 : Nat) : Int)) = true := List.any_eq_true.2 ⟨o, o1, o2⟩
    have hun : ∀ p ∈ ({ (startW m).n with ofs := F } : Nod).ofs, ofKey (m.dur.items.getD i default).id ((c % 64 : Nat) : Int) p = true → p = o := by
     intro p hp hq
     rcases o4 p hp with e | e
     ·exact e
     ·rw [List.any_eq_false] at s1
      exact absurd hq (s1 p e)
    have hlost : ∀ y1 : Nod, (findM y1.dur (m.dur.items.getD i default).id).2 = (m.dur.items.getD i default).custody → (lostB { (startW m).n with ofs := F } y1 (m.dur.items.getD i default).id == (m.dur.items.getD i default).custody) = false := by
     intro y1 hy
     unfold lostB
     rw [hfz, hy]
     cases (m.dur.items.getD i default).custody <;> rfl
    refine Sat.go (Eq.refl _) (NS.ite (fun h5 => ?_) (fun h5 => ?_))
    ·have h5 : r = true := h5
     obtain ⟨t1, t2, t3⟩ := replan_signal hvz hrz hxz (c := c % 64) (by omega) hany
     have hvy := (go_val hvz t1).2.1
     have ch2 := hand_ok hvz ⟨3, 200, .zero, (m.dur.items.getD i default).id, ((c % 64 : Nat) : Int), 0, false, 0⟩
     generalize goM { (startW m).n with ofs := F } ⟨3, 200, .zero, (m.dur.items.getD i default).id, ((c % 64 : Nat) : Int), 0, false, 0⟩ = y at *
     obtain ⟨y1, y2, y3⟩ := y
     have t1 : y3 = 0 := t1
     have t2 : y2.length = 1 := t2
     have hvy : Val y1 := hvy
     obtain ⟨f1, f2, f3⟩ := t3
     obtain ⟨q5, q6⟩ := items_len hvy.j
     have q7 : y1.ofs.length ≤ 64 := ((ofs_iff _).1 hvy.of).1
     have t3 := hlost y1 f1
     have t4 : ∀ w : Int, w = (if (m.dur.items.getD i default).custody then 4 else 5) → y2.any (wantA w (m.dur.items.getD i default)) = true := fun w hw => by rw [hw]; exact f2
     have t5 : y1.ofs.any (leftO (m.dur.items.getD i default) ((c % 64 : Nat) : Int)) = false := f3
     refine Sat.go (Eq.refl _) (NS.call (ch2.le (LeL.cons (LeA.refl _) (LeL.cons (LeA.of (congrArg A.agg (show Evt.cells ⟨3, 200, .zero, (m.dur.items.getD i default).id, (IntKind.i64.wrap ((c : Nat) : Int)).tmod 64, 0, false, 0⟩ = _ by rw [e1]))) LeL.nil))) rfl ?_)
     refine Sat.go (Eq.refl _) (NS.ite (fun cu => ?_) (fun cu => ?_))
     ·have cu : (m.dur.items.getD i default).custody = true := cu
      refine Sat.go (Eq.refl _) (NS.chk (by kernel_rfl) ?_)
      refine Sat.go (Eq.refl _) (NS.no (by show (y3 != 0) = false; rw [t1]; rfl) ?_)
      refine Sat.go (Eq.refl _) (NS.call (lost_ok { (startW m).n with ofs := F } y1 (m.dur.items.getD i default).id (by show m.dur.items.length ≤ _; omega) (by omega)) rfl ?_)
      refine Sat.go (Eq.refl _) (NS.no (t3) ?_)
      refine Sat.go (Eq.refl _) (NS.call (contA2_ok y2 (by omega) 39 1 11 (getA [.int .i64 4]) (getA (m.dur.items.getD i default).cells) (wantA 4 (m.dur.items.getD i default)) (rep2_ok 4 (m.dur.items.getD i default))) rfl ?_)
      refine Sat.go (Eq.refl _) (NS.no (by rw [t4 4 (by rw [cu]; rfl)]; rfl) ?_)
      refine Sat.go (Eq.refl _) (NS.yes (h5) ?_)
      refine Sat.go (Eq.refl _) (NS.no (by show ((y2.length : Int) != 1) = false; rw [t2]; rfl) ?_)
      refine Sat.go (Eq.refl _) (NS.call (contO2_ok y1.ofs (by omega) 40 11 1 (getA (m.dur.items.getD i default).cells) (getA [.int .i64 ((IntKind.i64.wrap ((c : Nat) : Int)).tmod 64)]) (leftO (m.dur.items.getD i default) ((IntKind.i64.wrap ((c : Nat) : Int)).tmod 64)) (rep3_ok _ _)) rfl ?_)
      refine Sat.go (Eq.refl _) (NS.no (by rw [e1]; exact t5) ?_)
      refine Sat.go (Eq.refl _) (NS.next ⟨i + 1, by omega⟩ (by show m.dur.items.length - (i + 1) < m.dur.items.length - i; omega) ?_)
      exact weak_hd [] rfl ⟨rfl, rfl, .inl rfl, rfl, rfl, rfl, ren_int rfl (i64_k (k := i) (n := m.dur.items.length) b1 (by omega)), trivial⟩ ⟨⟨_, rfl, renNod _ _⟩, trivial⟩ trivial (by kernel_rfl)
     ·have cu : (m.dur.items.getD i default).custody = false := cu
      refine Sat.go (Eq.refl _) (NS.chk (by kernel_rfl) ?_)
      refine Sat.go (Eq.refl _) (NS.no (by show (y3 != 0) = false; rw [t1]; rfl) ?_)
      refine Sat.go (Eq.refl _) (NS.call (lost_ok { (startW m).n with ofs := F } y1 (m.dur.items.getD i default).id (by show m.dur.items.length ≤ _; omega) (by omega)) rfl ?_)
      refine Sat.go (Eq.refl _) (NS.no (t3) ?_)
      refine Sat.go (Eq.refl _) (NS.call (contA2_ok y2 (by omega) 39 1 11 (getA [.int .i64 5]) (getA (m.dur.items.getD i default).cells) (wantA 5 (m.dur.items.getD i default)) (rep2_ok 5 (m.dur.items.getD i default))) rfl ?_)
      refine Sat.go (Eq.refl _) (NS.no (by rw [t4 5 (by rw [cu]; rfl)]; rfl) ?_)
      refine Sat.go (Eq.refl _) (NS.yes (h5) ?_)
      refine Sat.go (Eq.refl _) (NS.no (by show ((y2.length : Int) != 1) = false; rw [t2]; rfl) ?_)
      refine Sat.go (Eq.refl _) (NS.call (contO2_ok y1.ofs (by omega) 40 11 1 (getA (m.dur.items.getD i default).cells) (getA [.int .i64 ((IntKind.i64.wrap ((c : Nat) : Int)).tmod 64)]) (leftO (m.dur.items.getD i default) ((IntKind.i64.wrap ((c : Nat) : Int)).tmod 64)) (rep3_ok _ _)) rfl ?_)
      refine Sat.go (Eq.refl _) (NS.no (by rw [e1]; exact t5) ?_)
      refine Sat.go (Eq.refl _) (NS.next ⟨i + 1, by omega⟩ (by show m.dur.items.length - (i + 1) < m.dur.items.length - i; omega) ?_)
      exact weak_hd [] rfl ⟨rfl, rfl, .inl rfl, rfl, rfl, rfl, ren_int rfl (i64_k (k := i) (n := m.dur.items.length) b1 (by omega)), trivial⟩ ⟨⟨_, rfl, renNod _ _⟩, trivial⟩ trivial (by kernel_rfl)
    ·have h5 : r = false := h5
     obtain ⟨t1, t3⟩ := replan_timer hvz hrz hxz (c := c % 64) (d := d) (by omega) hd o1 o2 o3 hun
     have hvy := (go_val hvz t1).2.1
     have hny := ((val_szn hvz).go (by omega) ⟨4, 200 + (d : Int), .zero, .zero, 0, 0, false, 0⟩).2
     have ch2 := hand_ok hvz ⟨4, 200 + (d : Int), .zero, .zero, 0, 0, false, 0⟩
     generalize goM { (startW m).n with ofs := F } ⟨4, 200 + (d : Int), .zero, .zero, 0, 0, false, 0⟩ = y at *
     obtain ⟨y1, y2, y3⟩ := y
     have t1 : y3 = 0 := t1
     have t2 : y2.length ≤ 200000 := hny
     have hvy : Val y1 := hvy
     obtain ⟨f1, f2, f3⟩ := t3
     obtain ⟨q5, q6⟩ := items_len hvy.j
     have q7 : y1.ofs.length ≤ 64 := ((ofs_iff _).1 hvy.of).1
     have t3 := hlost y1 f1
     have t4 : ∀ w : Int, w = (if (m.dur.items.getD i default).custody then 4 else 5) → y2.any (wantA w (m.dur.items.getD i default)) = true := fun w hw => by rw [hw]; exact f2
     have t5 : y1.ofs.any (leftO (m.dur.items.getD i default) ((c % 64 : Nat) : Int)) = false := f3
     refine Sat.go (Eq.refl _) (NS.call (ch2.le (LeL.cons (LeA.refl _) (LeL.cons (LeA.of (congrArg A.agg (show Evt.cells ⟨4, IntKind.i64.wrap (200 + IntKind.i64.wrap ((d : Nat) : Int)), .zero, .zero, 0, 0, false, 0⟩ = _ by rw [e2]))) LeL.nil))) rfl ?_)
     refine Sat.go (Eq.refl _) (NS.ite (fun cu => ?_) (fun cu => ?_))
     ·have cu : (m.dur.items.getD i default).custody = true := cu
      refine Sat.go (Eq.refl _) (NS.chk (by kernel_rfl) ?_)
      refine Sat.go (Eq.refl _) (NS.no (by show (y3 != 0) = false; rw [t1]; rfl) ?_)
      refine Sat.go (Eq.refl _) (NS.call (lost_ok { (startW m).n with ofs := F } y1 (m.dur.items.getD i default).id (by show m.dur.items.length ≤ _; omega) (by omega)) rfl ?_)
      refine Sat.go (Eq.refl _) (NS.no (t3) ?_)
      refine Sat.go (Eq.refl _) (NS.call (contA2_ok y2 (by omega) 39 1 11 (getA [.int .i64 4]) (getA (m.dur.items.getD i default).cells) (wantA 4 (m.dur.items.getD i default)) (rep2_ok 4 (m.dur.items.getD i default))) rfl ?_)
      refine Sat.go (Eq.refl _) (NS.no (by rw [t4 4 (by rw [cu]; rfl)]; rfl) ?_)
      refine Sat.go (Eq.refl _) (NS.no (h5) ?_)
      refine Sat.go (Eq.refl _) (NS.call (contO2_ok y1.ofs (by omega) 40 11 1 (getA (m.dur.items.getD i default).cells) (getA [.int .i64 ((IntKind.i64.wrap ((c : Nat) : Int)).tmod 64)]) (leftO (m.dur.items.getD i default) ((IntKind.i64.wrap ((c : Nat) : Int)).tmod 64)) (rep3_ok _ _)) rfl ?_)
      refine Sat.go (Eq.refl _) (NS.no (by rw [e1]; exact t5) ?_)
      refine Sat.go (Eq.refl _) (NS.next ⟨i + 1, by omega⟩ (by show m.dur.items.length - (i + 1) < m.dur.items.length - i; omega) ?_)
      exact weak_hd [] rfl ⟨rfl, rfl, .inl rfl, rfl, rfl, rfl, ren_int rfl (i64_k (k := i) (n := m.dur.items.length) b1 (by omega)), trivial⟩ ⟨⟨_, rfl, renNod _ _⟩, trivial⟩ trivial (by kernel_rfl)
     ·have cu : (m.dur.items.getD i default).custody = false := cu
      refine Sat.go (Eq.refl _) (NS.chk (by kernel_rfl) ?_)
      refine Sat.go (Eq.refl _) (NS.no (by show (y3 != 0) = false; rw [t1]; rfl) ?_)
      refine Sat.go (Eq.refl _) (NS.call (lost_ok { (startW m).n with ofs := F } y1 (m.dur.items.getD i default).id (by show m.dur.items.length ≤ _; omega) (by omega)) rfl ?_)
      refine Sat.go (Eq.refl _) (NS.no (t3) ?_)
      refine Sat.go (Eq.refl _) (NS.call (contA2_ok y2 (by omega) 39 1 11 (getA [.int .i64 5]) (getA (m.dur.items.getD i default).cells) (wantA 5 (m.dur.items.getD i default)) (rep2_ok 5 (m.dur.items.getD i default))) rfl ?_)
      refine Sat.go (Eq.refl _) (NS.no (by rw [t4 5 (by rw [cu]; rfl)]; rfl) ?_)
      refine Sat.go (Eq.refl _) (NS.no (h5) ?_)
      refine Sat.go (Eq.refl _) (NS.call (contO2_ok y1.ofs (by omega) 40 11 1 (getA (m.dur.items.getD i default).cells) (getA [.int .i64 ((IntKind.i64.wrap ((c : Nat) : Int)).tmod 64)]) (leftO (m.dur.items.getD i default) ((IntKind.i64.wrap ((c : Nat) : Int)).tmod 64)) (rep3_ok _ _)) rfl ?_)
      refine Sat.go (Eq.refl _) (NS.no (by rw [e1]; exact t5) ?_)
      refine Sat.go (Eq.refl _) (NS.next ⟨i + 1, by omega⟩ (by show m.dur.items.length - (i + 1) < m.dur.items.length - i; omega) ?_)
      exact weak_hd [] rfl ⟨rfl, rfl, .inl rfl, rfl, rfl, rfl, ren_int rfl (i64_k (k := i) (n := m.dur.items.length) b1 (by omega)), trivial⟩ ⟨⟨_, rfl, renNod _ _⟩, trivial⟩ trivial (by kernel_rfl)
  ·refine Sat.go (Eq.refl _) (NS.leave rfl (Eq.refl _) ?_)
   refine Sat.go (Eq.refl _) (NS.call (awakeN_ok) rfl ?_)
   exact Sat.go (Eq.refl _) (NS.ret rfl rfl (LeA.refl _))
end Go.Proofs.YtggjngbighkdgaaGreat

