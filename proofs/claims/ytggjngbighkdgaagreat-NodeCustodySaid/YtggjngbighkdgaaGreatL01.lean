import Derived.Test.YtggjngbighkdgaaGreatB10
set_option linter.unusedSimpArgs false
set_option linter.unusedSectionVars false
set_option linter.unusedVariables false
namespace Go.Sy
open Go.RowKit
end Go.Sy
namespace Go.Sy
open Go.RowKit
section
variable {E : Env} {Q : Ex → St → Prop} {inl : List FuncId}
end
end Go.Sy
namespace Go.Sy
end Go.Sy
namespace Go.Sy
end Go.Sy
namespace Go.Sy
open Go.RowKit
section
variable {C : Cx} {Q : Ex → St → Prop} {t : OT} {s : List It} {fr : Fr}
end
end Go.Sy
namespace Go.Sy
open Go.RowKit Go.ChangeShapes Go.WideShapes
section
variable {H : Type} {enc : TypeId × Value → H} {P : Program} {w : World} {base : Nat} {spare : Nat → Bool} {held : Bool} {X : Nat → Prop}
end
section
variable {H : Type} {enc : TypeId × Value → H} {P : Program}
end
end Go.Sy
namespace Go.Mb
open Go.Sy
section
variable {α : Type} [Inhabited α]
end
end Go.Mb
namespace Go.Sy
open Go.RowKit
theorem weak_freezeB {B : Nat} {st : St} (b i id : Nat) {cells : List A} {e c n : Nat} {el : Nat → Nat → A} (hb : getO st.objs b = .box cells) (hi : getA cells i = .own id) (ho : getO st.objs id = .row e c n el) : Weak B st ⟨st.tmps, setX (setX st.objs id .dead) b (.box (setL cells i (.sl c n el)))⟩ := by
 intro w0 X a w ρ h
 have hob := h.obj id
 rw [ho] at hob
 have hob2 := hob
 obtain ⟨v, xs, hl, _⟩ := hob2
 have hbd : b ≠ id := by rintro rfl; rw [hb] at ho; cases ho
 let ρ' := upd ρ id .dead
 have hblk : ∀ i b, (ρ' i).block = some b → i ≠ id ∧ (ρ i).block = some b := by
  intro i b hb
  by_cases hid : i = id
  ·subst hid; simp only [ρ', upd_same] at hb; cases hb
  ·simp only [ρ', upd_ne _ _ _ hid] at hb; exact ⟨hid, hb⟩
 have how : ∀ b, owned ρ' b → owned ρ b := by rintro b ⟨i, hi⟩; exact ⟨i, (hblk i b hi).2⟩
 have hL : Later w w (Ow X ρ) (Ow X ρ') ρ ρ' := ⟨Nat.le_refl _, fun _ _ _ => rfl, fun b _ hb => by
  rcases hb with hb | hb
  ·exact .inl hb
  ·exact .inr (how b hb), fun i => by
  by_cases hid : i = id
  ·subst hid; exact .inr (.inr (upd_same _ _ _))
  ·exact .inl (upd_ne _ _ _ hid)⟩
 refine ⟨ρ', ⟨h.len, fun i => R.later _ ρ ρ' _ hL (h.tmp i), fun k => ?_, fun i j b hi hj => h.dis i j b (hblk i b hi).2 (hblk j b hj).2, h.kept, fun b hb => h.new b (how b hb), h.old, h.dfr⟩, hL.ltB⟩
 simp only [getO_setX]
 by_cases hk : k = b
 ·subst hk
  rw [if_pos rfl]
  simp only [ρ']
  rw [upd_ne _ _ _ hbd]
  have hbo := h.obj k
  rw [hb] at hbo
  obtain ⟨bb, vs, t, h1, h2, h3⟩ := hbo
  refine ⟨bb, vs, t, h1, h2, RL_setL i (RL.later _ _ _ _ hL h3) fun u hu => ?_⟩
  have ht' := h3.get i u hu
  rw [hi] at ht'
  simp only [R, hl] at ht'
  obtain ⟨hv, _⟩ := ht'
  rw [hv]
  refine row_sl hob hl hL.own (fun b hb => ?_)
  refine ⟨(h.new b ⟨id, hb⟩).2, ?_⟩
  rintro (hx | ⟨j, hj⟩)
  ·have h1 := h.old b hx
   have h2 := (h.new b ⟨id, hb⟩).1
   omega
  ·obtain ⟨h1, h2⟩ := hblk j b hj
   exact h1 (h.dis j id b h2 hb)
 ·rw [if_neg hk]
  by_cases hid : k = id
  ·subst hid
   rw [if_pos rfl]
   exact upd_same _ _ _
  ·rw [if_neg hid]
   simp only [ρ']
   rw [upd_ne _ _ _ hid]
   exact (h.obj k).later hL fun _ _ => rfl
end Go.Sy

namespace Go.Mb
open Go.Sy
def slNid (l : List Nid) : A := .sl 5 l.length (rowL Nid.cells l)
end Go.Mb

namespace Go.Proofs.YtggjngbighkdgaaGreat
open Go.Sy Go.Mb
set_option maxRecDepth 100000
set_option maxHeartbeats 1000000
theorem kinds {α : Prop} {k : Int} (h : k = 1 ∨ k = 2 ∨ k = 3 ∨ k = 4) (h1 : k = 1 → α) (h2 : k = 2 → α) (h3 : k = 3 → α) (h4 : k = 4 → α) : α := by
 rcases h with h | h | h | h
 ·exact h1 h
 ·exact h2 h
 ·exact h3 h
 ·exact h4 h
end Go.Proofs.YtggjngbighkdgaaGreat

namespace Go.Proofs.YtggjngbighkdgaaGreat
open Go.Sy Go.Mb
set_option maxRecDepth 100000
set_option maxHeartbeats 4000000
def nod0 (a b : Nat) : Nod := ⟨((a % 16 : Nat) : Int), (b : Int), true, .empty, 0, ⟨[], []⟩, []⟩
theorem start_ok (a b : Nat) (ha : a < 256) (hb : b < 256) (l : List Evt) : FnOK Tryz.prog 29 [.int .u8 (a : Nat), .int .u8 (b : Nat), slEvt l] (.tup [.agg (nod0 a b).cells, .bool (decide (l.length ≤ 20) && !l.any greatE)], none) := by
 have e1 : newN ((IntKind.i64.wrap ((a : Nat) : Int)).tmod 16) (IntKind.i64.wrap ((b : Nat) : Int)) = (nod0 a b, 0) := by
  rw [wrap_i64 (by omega) (by omega), wrap_i64 (by omega) (by omega)]
  have e2 : ((a : Int)).tmod 16 = ((a % 16 : Nat) : Int) := (Int.ofNat_tmod a 16).symm
  rw [e2]
  unfold newN
  rw [if_neg]
  ·rfl
  ·rw [Bool.or_eq_true, Bool.not_eq_true', Bool.not_eq_true', ← Bool.not_eq_true, ← Bool.not_eq_true, inR_iff, inR_iff]
   omega
 have cn := nNew_ok ((IntKind.i64.wrap ((a : Nat) : Int)).tmod 16) (IntKind.i64.wrap ((b : Nat) : Int))
 rw [e1] at cn
 by_cases hl : l.length ≤ 20
 ·refine fn_ok CF rfl (by kernel_rfl) Tryz.func29 rfl ?_
  refine Sat.go (Eq.refl _) (NS.need (rfl) ?_)
  refine Sat.go (Eq.refl _) (NS.call (cn) rfl ?_)
  refine Sat.go (Eq.refl _) (NS.chk (by kernel_rfl) ?_)
  refine Sat.go (Eq.refl _) (NS.yes (rfl) ?_)
  refine Sat.go (Eq.refl _) (NS.yes (decide_eq_true (by show (l.length : Int) ≤ 20; omega)) ?_)
  refine Sat.go (Eq.refl _) (NS.call (contE_ok l (by omega)) rfl ?_)
  exact Sat.go (Eq.refl _) (NS.ret rfl rfl (LeA.tup2 (LeA.refl _) (LeA.of (congrArg A.bool (by rw [decide_eq_true hl, Bool.true_and])))))
 ·refine fn_ok CF rfl (by kernel_rfl) Tryz.func29 rfl ?_
  refine Sat.go (Eq.refl _) (NS.need (rfl) ?_)
  refine Sat.go (Eq.refl _) (NS.call (cn) rfl ?_)
  refine Sat.go (Eq.refl _) (NS.chk (by kernel_rfl) ?_)
  refine Sat.go (Eq.refl _) (NS.yes (rfl) ?_)
  refine Sat.go (Eq.refl _) (NS.no (decide_eq_false (by show ¬ (l.length : Int) ≤ 20; omega)) ?_)
  exact Sat.go (Eq.refl _) (NS.ret rfl rfl (LeA.tup2 (LeA.refl _) (LeA.of (congrArg A.bool (by rw [decide_eq_false hl, Bool.false_and])))))
theorem val0 (a b : Nat) (hb : b < 256) : Val (nod0 a b) := by
 have hls : ls (nod0 a b).jour = [] := rfl
 have hr : rdJ ([] : List Nat) = ([], 0) := by
  rw [rdJ_eq (fun x hx => by cases hx)]
  rfl
 refine ⟨⟨Nat.zero_le _, by rw [hls, hr]; rfl, by rw [hls, hr]; rfl⟩, rfl, inR_iff.2 ⟨Int.natCast_nonneg _, ?_⟩, inR_iff.2 ⟨Int.natCast_nonneg _, ?_⟩, by rfl, ?_, by rfl, fun o ho => by cases ho⟩
 ·show ((a % 16 : Nat) : Int) ≤ 15
  omega
 ·show ((b : Nat) : Int) ≤ _
  omega
 ·show usedM [] ≤ ((b : Nat) : Int)
  exact Int.natCast_nonneg _
theorem val_szn {n : Nod} (h : Val n) : Szn n 0 := by
 obtain ⟨h1, h2⟩ := items_len h.j
 exact ⟨by omega, by omega, Nat.le_trans h.j.sz (by decide), by have := ((ofs_iff _).1 h.of).1; omega⟩
theorem val_chk {n : Nod} (h : Val n) : chkN n = 0 := ((val_iff n).2 h).1
theorem hand_go {n : Nod} (h : Val n) (e : Evt) : handM n e = goM n e := by
 unfold handM
 rw [if_neg (by rw [val_chk h]; exact zero3)]
theorem hand_ok {n : Nod} (h : Val n) (e : Evt) : FnOK Tryz.prog 27 [.agg n.cells, .agg e.cells] (nodA (goM n e), none) := by
 rw [← hand_go h e]
 exact nHandle_ok n e ((val_szn h).le (by omega))
structure Grow (n n' : Nod) (r : Jrec) : Prop where
 jour : ls n'.jour = ls n.jour ++ sealL (conL r)
 last : n'.last = (n'.jour.size : Int)
 self : n'.self = n.self
 quota : n'.quota = n.quota
 ofs : n'.ofs = n.ofs
inductive PutR (n n' : Nod) (x : Itm) (t : Int) : Int → Int → Prop
 | old : n' = n → PutR n n' x t 3 5
 | full : n' = n → PutR n n' x t 3 4
 | dupo : n' = n → (findM n.dur x.id).2 = true → PutR n n' x t 3 3
 | dup : n' = n → (findM n.dur x.id).2 = true ∨ n.dur.inbox.any (hasId x.id) = true → PutR n n' x t 2 3
 | box : n'.dur = ⟨n.dur.items, n.dur.inbox ++ [x]⟩ → x.dest = n.self → Grow n n' ⟨3, x, .zero, 0, t⟩ → PutR n n' x t 2 2
 | item : n'.dur = ⟨n.dur.items ++ [x], n.dur.inbox⟩ → Grow n n' ⟨1, x, .zero, 0, t⟩ → PutR n n' x t 2 1
theorem idx_ge {α : Type} [Inhabited α] (p : α → Bool) (l : List α) : (0 ≤ idx p l) ↔ l.any p = true := by
 rw [← idx_any, decide_eq_true_eq]
theorem found_any (d : Dur) (id : Nid) : (findM d id).2 = d.items.any (hasId id) := by
 rw [Bool.eq_iff_iff, find_iff, List.any_eq_true]
 refine exists_congr fun x => and_congr Iff.rfl ?_
 unfold hasId
 rw [Nid.eqv_iff]
theorem put_res {w : Wst} (h : Val w.n) (ha : w.acts = []) (he : w.err = 0) (hl : w.n.last = (w.n.jour.size : Int)) {e : Evt} (hx : okItem e.item = true) (ht : inR e.time 0 1099511627776 = true) (h0 : (putW w e).err = 0) :
  ∃ k r, (putW w e).acts = [⟨k, e.item, 0, r⟩] ∧ PutR w.n (putW w e).n e.item e.time k r := by
 have hg := (good_iff _).2 h.j.good
 have hlen := items_len h.j
 obtain ⟨s1, s2⟩ := inR_iff.1 h.se
 have hp0 : putM w.n.dur w.n.self w.n.quota e.item e.time = if e.item.expires ≤ e.time then ([], 5, 0)
   else if 0 ≤ idx (hasId e.item.id) w.n.dur.items ∨ 0 ≤ idx (hasId e.item.id) w.n.dur.inbox then ([], 3, 0)
   else if e.item.dest = w.n.self then ([⟨3, e.item, .zero, 0, e.time⟩], 2, 0)
   else if IntKind.i64.wrap (usedM w.n.dur.items + (e.item.data.size : Int)) > w.n.quota then ([], 4, 0)
   else ([⟨1, e.item, .zero, 0, e.time⟩], 1, 0) := by
  unfold putM
  rw [if_neg (by rw [hg, hx]; decide), if_neg (by rw [h.qu, ht]; simp; omega)]
 have hnil : ∀ r : Int, putM w.n.dur w.n.self w.n.quota e.item e.time = ([], r, 0) → (putW w e).acts = [⟨kindP w e r, e.item, 0, r⟩] ∧ (putW w e).n = w.n := by
  intro r hp
  unfold putW
  rw [hp, if_neg zero3]
  refine ⟨?_, rfl⟩
  show w.acts ++ [_] = _
  rw [ha]; rfl
 have hone : ∀ (k r : Int) (hkk : k = 1 ∨ k = 3), putM w.n.dur w.n.self w.n.quota e.item e.time = ([⟨k, e.item, .zero, 0, e.time⟩], r, 0) → recErr ⟨k, e.item, .zero, 0, e.time⟩ = 0 →
   (∃ m, (putW w e).acts = [⟨kindP m e r, e.item, 0, r⟩]) ∧ (putW w e).n.dur = effM w.n.dur ⟨k, e.item, .zero, 0, e.time⟩ ∧ Grow w.n (putW w e).n ⟨k, e.item, .zero, 0, e.time⟩ := by
  intro k r hkk hp hre
  have hpw : putW w e = (w.write [⟨k, e.item, .zero, 0, e.time⟩]).act ⟨kindP w e r, e.item, 0, r⟩ := by
   unfold putW
   rw [hp, if_neg zero3]
  rw [hpw] at h0 ⊢
  have h0 : (if (wr w.n ⟨k, e.item, .zero, 0, e.time⟩).2 != 0 then (wr w.n ⟨k, e.item, .zero, 0, e.time⟩).2 else w.err) = 0 := h0
  rcases wr_both h.j hre with ⟨e1, _⟩ | ⟨e1, e2, e3, e4, e5, e6⟩
  ·rw [e1] at h0; cases h0
  ·have hn : ((w.write [⟨k, e.item, .zero, 0, e.time⟩]).act ⟨kindP w e r, e.item, 0, r⟩).n = wrN w.n ⟨k, e.item, .zero, 0, e.time⟩ := by
    show (wr w.n ⟨k, e.item, .zero, 0, e.time⟩).1 = _
    rw [e1]
   have hla : (wrN w.n ⟨k, e.item, .zero, 0, e.time⟩).last = ((wrN w.n ⟨k, e.item, .zero, 0, e.time⟩).jour.size : Int) := by
    unfold wrN
    rcases hkk with rfl | rfl <;> rfl
   refine ⟨⟨w, ?_⟩, by rw [hn]; exact e4, ?_⟩
   ·show w.acts ++ [_] = _
    rw [ha]; rfl
   ·rw [hn]
    exact ⟨e5, hla, rfl, rfl, rfl⟩
 by_cases q1 : e.item.expires ≤ e.time
 ·rw [if_pos q1] at hp0
  obtain ⟨a1, a2⟩ := hnil 5 hp0
  exact ⟨_, _, a1, .old a2⟩
 rw [if_neg q1] at hp0
 by_cases q2 : 0 ≤ idx (hasId e.item.id) w.n.dur.items ∨ 0 ≤ idx (hasId e.item.id) w.n.dur.inbox
 ·rw [if_pos q2] at hp0
  obtain ⟨a1, a2⟩ := hnil 3 hp0
  cases q : w.n.ofs.any (ofId e.item.id)
  ·have hk : kindP w e 3 = 2 := by unfold kindP; rw [q]; rfl
   rw [hk] at a1
   refine ⟨_, _, a1, .dup a2 ?_⟩
   rw [found_any]
   rw [idx_ge, idx_ge] at q2
   exact q2
  ·have hk : kindP w e 3 = 3 := by unfold kindP; rw [q]; rfl
   rw [hk] at a1
   refine ⟨_, _, a1, .dupo a2 ?_⟩
   obtain ⟨o, ho, hi⟩ := List.any_eq_true.1 q
   have := h.fd o ho
   unfold ofId at hi
   rw [Nid.eqv_iff.1 hi] at this
   exact this
 rw [if_neg q2] at hp0
 have hw : ∀ l : List Itm, ¬ 0 ≤ idx (hasId e.item.id) l → withM l e.item = l ++ [e.item] := by
  intro l hl
  unfold withM
  rw [if_neg (fun q => hl q)]
 by_cases q3 : e.item.dest = w.n.self
 ·rw [if_pos q3] at hp0
  obtain ⟨⟨m, a1⟩, a2, a3⟩ := hone 3 2 (.inr rfl) hp0 (recErr3 hx ht)
  have hk : kindP m e 2 = 2 := rfl
  rw [hk] at a1
  refine ⟨_, _, a1, .box ?_ q3 a3⟩
  rw [a2, ← hw _ (fun q => q2 (.inr q))]
  rfl
 rw [if_neg q3] at hp0
 by_cases q4 : IntKind.i64.wrap (usedM w.n.dur.items + (e.item.data.size : Int)) > w.n.quota
 ·rw [if_pos q4] at hp0
  obtain ⟨a1, a2⟩ := hnil 4 hp0
  exact ⟨_, _, a1, .full a2⟩
 rw [if_neg q4] at hp0
 obtain ⟨⟨m, a1⟩, a2, a3⟩ := hone 1 1 (.inl rfl) hp0 (recErr1 hx ht)
 have hk : kindP m e 1 = 2 := rfl
 rw [hk] at a1
 refine ⟨_, _, a1, .item ?_ a3⟩
 rw [a2, ← hw _ (fun q => q2 (.inl q))]
 rfl
theorem go_put {n : Nod} (h : Val n) {e : Evt} (hz : (goM n e).2.2 = 0) (hk : e.kind = 1) : ∃ k r, (goM n e).2.1 = [⟨k, e.item, 0, r⟩] ∧ PutR (startW n).n (goM n e).1 e.item e.time k r := by
 obtain ⟨g1, g2, g3, _⟩ := go_val h hz
 obtain ⟨_, k2, k3⟩ := evE_ok g1
 rw [hk] at k3
 have hkw : kindW (startW n) e = putW (startW n) e := by
  unfold kindW
  rw [if_pos (by rw [hk]; rfl)]
 have h0 : (kindW (startW n) e).err = 0 := by
  unfold goM at hz g3
  split at hz
  ·rename_i q; simp only at hz; rw [hz] at q; cases q
  rename_i q
  split at hz
  ·cases hz
  split at hz
  ·rename_i q3; simp only at hz; rw [hz] at q3; cases q3
  ·rename_i q3; simpa using q3
 rw [hkw] at h0 g3
 rw [g3]
 exact put_res h.lastN rfl rfl rfl k3 k2 h0
end Go.Proofs.YtggjngbighkdgaaGreat

namespace Go.Proofs.YtggjngbighkdgaaGreat
open Go.Sy Go.Mb
set_option maxRecDepth 100000
set_option maxHeartbeats 4000000
structure Rem (n n' : Nod) (t : Int) (x : Itm) : Prop where
 dur : n'.dur = ⟨n.dur.items.filter (notId x.id), n.dur.inbox⟩
 jour : ls n'.jour = ls n.jour ++ sealL (conL ⟨2, .zero, x.id, 0, t⟩)
 self : n'.self = n.self
 quota : n'.quota = n.quota
 last : n'.last = n.last
 ofs : n'.ofs = n.ofs.filter (nt (ofId x.id))
theorem remove_rem {w : Wst} (h : Val w.n) (he : w.err = 0) {x : Itm} (hx : x ∈ w.n.dur.items) {t : Int} (ht : inR t 0 1099511627776 = true) (h0 : (w.remove t x).err = 0) : Rem w.n (w.remove t x).n t x ∧ Val (w.remove t x).n ∧ (w.remove t x).acts = w.acts ++ [⟨5, x, 0, 0⟩] := by
 have hid : validId x.id = true := ok_id (h.j.good.1 x hx)
 have hr := recErr2 hid ht
 have hv : Val (w.remove t x).n := by
  rcases (remove_agr h he hx ht).1.2 with ⟨q, _⟩ | ⟨_, _, _, _, q⟩
  ·rw [q] at h0; cases h0
  ·exact q
 refine ⟨?_, hv, rfl⟩
 rcases wr_both h.j hr with ⟨e1, e2⟩ | ⟨e1, e2, e3, e4, e5, e6⟩
 ·have ee : (w.remove t x).err = 4 := by
   show (if (wr w.n ⟨2, .zero, x.id, 0, t⟩).2 != 0 then (wr w.n ⟨2, .zero, x.id, 0, t⟩).2 else w.err) = 4
   rw [e1]; rfl
  rw [ee] at h0; cases h0
 ·have hn : (w.remove t x).n = { wrN w.n ⟨2, .zero, x.id, 0, t⟩ with ofs := w.n.ofs.filter (nt (ofId x.id)) } := by
   show ({ (wr w.n ⟨2, .zero, x.id, 0, t⟩).1 with ofs := (wr w.n ⟨2, .zero, x.id, 0, t⟩).1.ofs.filter (nt (ofId x.id)) } : Nod) = _
   rw [e1]
   rfl
  rw [hn]
  exact ⟨e4, e5, rfl, rfl, rfl, rfl⟩
theorem settle_rem {w : Wst} (h : Val w.n) (he : w.err = 0) {id : Nid} (hf : (findM w.n.dur id).2 = true) {t : Int} (ht : inR t 0 1099511627776 = true) {s a : Bool} (h0 : (w.settle t id s a).err = 0) :
  ∃ x ∈ w.n.dur.items, x.id = id ∧ ((x.custody = true ∧ (s && a) = false ∧ w.settle t id s a = w.act ⟨4, x, 0, 0⟩) ∨ ((x.custody = false ∨ (s && a) = true) ∧ Rem w.n (w.settle t id s a).n t x ∧ Val (w.settle t id s a).n ∧ (w.settle t id s a).acts = w.acts ++ [⟨5, x, 0, 0⟩])) := by
 obtain ⟨hx, hi⟩ := find_mem hf
 refine ⟨_, hx, hi, ?_⟩
 unfold Wst.settle at h0 ⊢
 rw [if_neg (by rw [hf]; decide)] at h0 ⊢
 by_cases q : (decM (findM w.n.dur id).1.custody s a == 3) = true
 ·rw [if_pos q]
  left
  unfold decM at q
  split at q
  ·rename_i q2
   rw [Bool.and_eq_true, Bool.not_eq_true'] at q2
   exact ⟨q2.1, q2.2, rfl⟩
  ·cases q
 ·rw [if_neg q] at h0 ⊢
  right
  refine ⟨?_, remove_rem h he hx ht h0⟩
  unfold decM at q
  split at q
  ·exact absurd rfl q
  ·rename_i q2
   rw [Bool.and_eq_true, Bool.not_eq_true', not_and, Bool.not_eq_false] at q2
   cases q3 : (findM w.n.dur id).1.custody
   ·exact .inl rfl
   ·exact .inr (q2 q3)
def is5 (c : Mb.Act) : Bool := c.kind == 5
structure Run (P : Itm → Prop) (n n' : Nod) (a : List Mb.Act) : Prop where
 self : n'.self = n.self
 quota : n'.quota = n.quota
 last : n'.last = n.last
 box : n'.dur.inbox = n.dur.inbox
 jour : ∃ s, ls n'.jour = ls n.jour ++ s
 kinds : ∀ c ∈ a, c.kind = 4 ∨ c.kind = 5
 gone : ∃ G : List Itm, n'.dur.items = n.dur.items.filter (fun x => !G.any (hasId x.id)) ∧ Uniq G ∧ (∀ y ∈ G, y ∈ n.dur.items ∧ P y) ∧ a.filter is5 = G.map (fun y => ⟨5, y, 0, 0⟩)
theorem Run.same {P : Itm → Prop} {n n' : Nod} (h1 : n'.self = n.self) (h2 : n'.quota = n.quota) (h3 : n'.last = n.last) (h4 : n'.dur = n.dur) (h5 : n'.jour = n.jour) : Run P n n' [] :=
 ⟨h1, h2, h3, by rw [h4], ⟨[], by rw [h5, List.append_nil]⟩, (fun c hc => by cases hc), ⟨[], by
  rw [h4]
  exact (List.filter_eq_self.2 (fun _ _ => rfl)).symm, List.Pairwise.nil, (fun y hy => by cases hy), rfl⟩⟩
theorem Run.keep {P : Itm → Prop} {n n' : Nod} {a : List Mb.Act} (h : Run P n n' a) (x : Itm) : Run P n n' (a ++ [⟨4, x, 0, 0⟩]) := by
 refine ⟨h.self, h.quota, h.last, h.box, h.jour, fun c hc => ?_, ?_⟩
 ·rcases List.mem_append.1 hc with q | q
  ·exact h.kinds c q
  ·rw [List.mem_singleton.1 q]; exact .inl rfl
 ·obtain ⟨G, g1, g2, g3, g4⟩ := h.gone
  refine ⟨G, g1, g2, g3, ?_⟩
  rw [List.filter_append, g4]
  simp [is5]
theorem any_id {G : List Itm} {id : Nid} : G.any (hasId id) = true ↔ ∃ y ∈ G, y.id = id := by
 rw [List.any_eq_true]
 refine exists_congr fun y => and_congr Iff.rfl ?_
 unfold hasId
 rw [Nid.eqv_iff]
theorem Run.rem {P : Itm → Prop} {n m n' : Nod} {a : List Mb.Act} (h : Run P n m a) {t : Int} {x : Itm} (hx : x ∈ m.dur.items) (hP : P x) (hr : Rem m n' t x) : Run P n n' (a ++ [⟨5, x, 0, 0⟩]) := by
 obtain ⟨s, hs⟩ := h.jour
 refine ⟨hr.self.trans h.self, hr.quota.trans h.quota, hr.last.trans h.last, ?_, ⟨s ++ sealL (conL ⟨2, .zero, x.id, 0, t⟩), by rw [hr.jour, hs, List.append_assoc]⟩, fun c hc => ?_, ?_⟩
 ·rw [hr.dur]; exact h.box
 ·rcases List.mem_append.1 hc with q | q
  ·exact h.kinds c q
  ·rw [List.mem_singleton.1 q]; exact .inr rfl
 ·obtain ⟨G, g1, g2, g3, g4⟩ := h.gone
  rw [g1, List.mem_filter] at hx
  obtain ⟨x1, x2⟩ := hx
  have x2 : G.any (hasId x.id) = false := by simpa using x2
  refine ⟨G ++ [x], ?_, ?_, ?_, ?_⟩
  ·rw [hr.dur]
   show m.dur.items.filter _ = _
   rw [g1, List.filter_filter]
   refine List.filter_congr fun y _ => ?_
   rw [List.any_append, Bool.not_or, Bool.and_comm]
   congr 1
   unfold notId
   simp only [List.any_cons, List.any_nil, Bool.or_false]
   congr 1
   unfold hasId
   rw [Bool.eq_iff_iff, Nid.eqv_iff, Nid.eqv_iff]
   exact eq_comm
  ·unfold Uniq at g2 ⊢
   rw [List.map_append, List.pairwise_append]
   refine ⟨g2, by simp, ?_⟩
   intro i hi j hj
   rw [List.map_singleton, List.mem_singleton] at hj
   obtain ⟨y, hy, rfl⟩ := List.mem_map.1 hi
   rw [hj]
   intro q
   rw [any_id.2 ⟨y, hy, q⟩] at x2
   cases x2
  ·intro y hy
   rcases List.mem_append.1 hy with q | q
   ·exact g3 y q
   ·rw [List.mem_singleton.1 q]; exact ⟨x1, hP⟩
  ·rw [List.filter_append, g4, List.map_append]
   simp [is5]
theorem tm_run {w : Wst} (h : Val w.n) (ha : w.acts = []) (he : w.err = 0) {l : List Ofr} {t : Int} (ht : inR t 0 1099511627776 = true) (hp : l.Pairwise ofLt) (hf : ∀ o ∈ l, (findM w.n.dur o.id).2 = true) {P : Itm → Prop} {n0 : Nod} (hP : ∀ x : Itm, x.custody = false → P x) (h0 : Run P n0 w.n []) : ∀ k, k ≤ l.length →
  (tmN l t w k).err = 0 → Run P n0 (tmN l t w k).n (tmN l t w k).acts
 | 0, _, _ => by show Run P n0 w.n w.acts; rw [ha]; exact h0
 | k + 1, hk, h1 => by
  obtain ⟨i1, i2⟩ := tm_agr h ha he ht hp hf k (by omega)
  have ih := tm_run h ha he ht hp hf hP h0 k (by omega)
  rw [tmN] at h1 ⊢
  generalize tmN l t w k = W at *
  split at h1
  ·rename_i q
   rw [if_pos q]
   rcases i2 with ⟨b1, _⟩ | ⟨b1, _, b3, b4⟩
   ·rw [(settle_err i1 b1 (l.getD k default).id ht false false).2] at h1; cases h1
   ·have q' : k = 0 ∨ (l.getD k default).id ≠ (l.getD (k - 1) default).id := by
     rw [Bool.or_eq_true, beq_iff_eq, Bool.not_eq_true', ← Bool.not_eq_true, Nid.eqv_iff] at q
     rcases q with q | q
     ·exact .inl q
     ·exact .inr fun r => q r.symm
    obtain ⟨x, x1, x2, x3⟩ := settle_rem b3 b1 (b4 k (Nat.le_refl _) hk q') ht h1
    rcases x3 with ⟨_, _, x3⟩ | ⟨x3, x4, _, x5⟩
    ·rw [x3]; exact (ih b1).keep x
    ·rw [x5]
     exact (ih b1).rem x1 (hP x (x3.resolve_right (by decide))) x4
  ·rename_i q
   rw [if_neg q]
   exact ih h1
theorem ex_run {w : Wst} (h : Val w.n) (ha : w.acts = []) (he : w.err = 0) {l : List Itm} (hl : l = w.n.dur.items) {t : Int} (ht : inR t 0 1099511627776 = true) {P : Itm → Prop} {n0 : Nod} (hP : ∀ x : Itm, x.expires ≤ t → P x) (h0 : Run P n0 w.n []) : ∀ k, k ≤ l.length →
  (exN (expRecs t l) t w (expRecs t (l.take k)).length).err = 0 → Run P n0 (exN (expRecs t l) t w (expRecs t (l.take k)).length).n (exN (expRecs t l) t w (expRecs t (l.take k)).length).acts
 | 0, _, _ => by show Run P n0 w.n w.acts; rw [ha]; exact h0
 | k + 1, hk, h1 => by
  obtain ⟨i1, i2⟩ := ex_agr h ha he hl ht k (by omega)
  have ih := ex_run h ha he hl ht hP h0 k (by omega)
  have hs : expRecs t (l.take (k + 1)) = expRecs t (l.take k) ++ expRec t (l.getD k default) := by rw [take_snoc hk, expRecs_snoc]
  rw [hs] at h1 ⊢
  by_cases q : (l.getD k default).expires > t
  ·have e0 : expRec t (l.getD k default) = [] := by unfold expRec; rw [if_neg (by omega)]
   rw [e0, List.append_nil] at h1 ⊢
   exact ih h1
  ·have e1 : expRec t (l.getD k default) = [⟨2, .zero, (l.getD k default).id, 0, t⟩] := by unfold expRec; rw [if_pos (by omega)]
   have e2 : (expRecs t l).getD (expRecs t (l.take k)).length default = ⟨2, .zero, (l.getD k default).id, 0, t⟩ := by
    have e3 : expRecs t l = expRecs t (l.take k) ++ ([⟨2, .zero, (l.getD k default).id, 0, t⟩] ++ expRecs t (l.drop (k + 1))) := by
     rw [← e1, ← List.append_assoc, ← hs]
     conv => lhs; rw [← List.take_append_drop (k + 1) l]
     unfold expRecs
     rw [List.flatMap_append]
    rw [e3]
    simp [List.getD]
   rw [e1, List.length_append, List.length_singleton, exN, e2] at h1 ⊢
   generalize exN (expRecs t l) t w (expRecs t (l.take k)).length = W at *
   rcases i2 with ⟨b1, b2⟩ | ⟨b1, b2, b3, b4⟩
   ·split at h1
    ·rename_i hf
     rw [(remove_err i1 b1 (find_mem hf).1 ht).2] at h1; cases h1
    ·rw [b1] at h1; cases h1
   ·have hm : l.getD k default ∈ W.n.dur.items := b4 k (Nat.le_refl _) hk
    have hfe : findM W.n.dur (l.getD k default).id = (l.getD k default, true) := find_eq b3.j.good.2.2.1 hm
    rw [if_pos (show (findM W.n.dur (l.getD k default).id).2 = true by rw [hfe]), show (findM W.n.dur (l.getD k default).id).1 = l.getD k default by rw [hfe]] at h1 ⊢
    obtain ⟨r1, r2, r3⟩ := remove_rem b3 b1 hm ht h1
    rw [r3]
    exact (ih b1).rem hm (hP _ (by omega)) r1
def Why (n : Nod) (e : Evt) (x : Itm) : Prop :=
 (e.kind = 3 ∧ x.id = e.id ∧ (x.custody = false ∨ (e.acc = true ∧ n.ofs.any (ofKey e.id e.contact) = true))) ∨ (e.kind = 4 ∧ x.custody = false) ∨ (e.kind = 5 ∧ x.expires ≤ e.time) ∨ (e.kind = 6 ∧ x.id = e.id)
theorem go_err {n : Nod} {e : Evt} (hz : (goM n e).2.2 = 0) : (kindW (startW n) e).err = 0 := by
 unfold goM at hz
 split at hz
 ·rename_i q; simp only at hz; rw [hz] at q; cases q
 split at hz
 ·cases hz
 split at hz
 ·rename_i q3; simp only at hz; rw [hz] at q3; cases q3
 ·rename_i q3; simpa using q3
theorem go_run {n : Nod} (h : Val n) {e : Evt} (hz : (goM n e).2.2 = 0) (hk : 3 ≤ e.kind ∧ e.kind ≤ 6) : Run (Why n e) (startW n).n (goM n e).1 (goM n e).2.1 := by
 obtain ⟨g1, _, g3, _⟩ := go_val h hz
 have h0 := go_err hz
 obtain ⟨_, k2, k3⟩ := evE_ok g1
 have hv := h.lastN
 have hofs := (ofs_iff _).1 hv.of
 have hst : Run (Why n e) (startW n).n (startW n).n [] := .same rfl rfl rfl rfl rfl
 rw [g3]
 show Run (Why n e) (startW n).n (kindW (startW n) e).n (kindW (startW n) e).acts
 have hk4 : e.kind = 3 ∨ e.kind = 4 ∨ e.kind = 5 ∨ e.kind = 6 := by omega
 rcases hk4 with r | r | r | r
 ·have hkw : kindW (startW n) e = signalW (startW n) e := by
   unfold kindW
   rw [if_neg (by rw [r]; decide), if_neg (by rw [r]; decide), if_pos (by rw [r]; rfl)]
  rw [hkw] at h0 ⊢
  rw [r] at k3
  have k3 : (vId e.id && inR e.contact 0 63) = true := k3
  unfold signalW at h0 ⊢
  by_cases q : ((signalM (startW n).n.ofs e.id e.contact).2.1 == 1) = true
  ·rw [if_pos q]
   exact hst
  rw [if_neg q] at h0 ⊢
  have hs : signalM (startW n).n.ofs e.id e.contact = (n.ofs.filter (nt (ofKey e.id e.contact)), 3, 0) ∧ n.ofs.any (ofKey e.id e.contact) = true := by
   have q0 : chkO (startW n).n.ofs = 0 := hv.of
   unfold signalM at q ⊢
   rw [if_neg (by rw [q0]; exact zero3)] at q ⊢
   by_cases q2 : (((List.filter (ofKey e.id e.contact) (startW n).n.ofs).length : Int) == 0) = true
   ·rw [if_pos q2] at q
    exact absurd rfl q
   ·rw [if_neg q2]
    refine ⟨rfl, ?_⟩
    cases q3 : n.ofs.any (ofKey e.id e.contact)
    ·exfalso
     apply q2
     have : n.ofs.filter (ofKey e.id e.contact) = [] := by
      rw [List.filter_eq_nil_iff]
      rw [List.any_eq_false] at q3
      exact q3
     show (((List.filter (ofKey e.id e.contact) n.ofs).length : Int) == 0) = true
     rw [this]; rfl
    ·rfl
  obtain ⟨hs1, hs2⟩ := hs
  rw [hs1] at h0 ⊢
  have hv' : Val ((startW n).setO (n.ofs.filter (nt (ofKey e.id e.contact)))).n := hv.setF (nt (ofKey e.id e.contact))
  obtain ⟨o, ho1, ho2⟩ := List.any_eq_true.1 hs2
  have hid : o.id = e.id := by
   unfold ofKey at ho2
   rw [Bool.and_eq_true, Nid.eqv_iff] at ho2
   exact ho2.1
  have hf : (findM ((startW n).setO (n.ofs.filter (nt (ofKey e.id e.contact)))).n.dur e.id).2 = true := by
   have := h.fd o ho1
   rw [hid] at this
   exact this
  have hst2 : Run (Why n e) (startW n).n ((startW n).setO (n.ofs.filter (nt (ofKey e.id e.contact)))).n [] := .same rfl rfl rfl rfl rfl
  obtain ⟨x, x1, x2, x3⟩ := settle_rem hv' rfl hf k2 h0
  rcases x3 with ⟨_, _, x3⟩ | ⟨x3, x4, _, x5⟩
  ·have x3 : ((startW n).setO (n.ofs.filter (nt (ofKey e.id e.contact)))).settle e.time e.id true e.acc = _ := x3
   rw [x3]
   exact hst2.keep x
  ·have x5 : (((startW n).setO (n.ofs.filter (nt (ofKey e.id e.contact)))).settle e.time e.id true e.acc).acts = [] ++ [⟨5, x, 0, 0⟩] := x5
   rw [x5]
   refine hst2.rem x1 (.inl ⟨r, x2, ?_⟩) x4
   rcases x3 with x3 | x3
   ·exact .inl x3
   ·exact .inr ⟨x3, hs2⟩
 ·have hkw : kindW (startW n) e = timerW (startW n) e := by
   unfold kindW
   rw [if_neg (by rw [r]; decide), if_neg (by rw [r]; decide), if_neg (by rw [r]; decide), if_pos (by rw [r]; rfl)]
  rw [hkw] at h0 ⊢
  have hd : dueM (startW n).n.ofs e.time = (n.ofs.filter (ofDue e.time), n.ofs.filter (nt (ofDue e.time)), 0) := by
   have q0 : chkO (startW n).n.ofs = 0 := hv.of
   unfold dueM
   rw [if_neg (by rw [q0]; exact zero3)]
   rfl
  unfold timerW at h0 ⊢
  rw [hd] at h0 ⊢
  have hv' : Val ((startW n).setO (n.ofs.filter (nt (ofDue e.time)))).n := hv.setF (nt (ofDue e.time))
  exact tm_run (P := Why n e) (n0 := (startW n).n) (w := (startW n).setO (n.ofs.filter (nt (ofDue e.time)))) hv' rfl rfl (l := n.ofs.filter (ofDue e.time)) k2 (hofs.filter (ofDue e.time)).2.2 (fun o ho => h.fd o (List.mem_filter.1 ho).1) (fun x hx => .inr (.inl ⟨r, hx⟩)) (.same rfl rfl rfl rfl rfl) _ (Nat.le_refl _) h0
 ·have hkw : kindW (startW n) e = expireW (startW n) e := by
   unfold kindW
   rw [if_neg (by rw [r]; decide), if_neg (by rw [r]; decide), if_neg (by rw [r]; decide), if_neg (by rw [r]; decide), if_pos (by rw [r]; rfl)]
  rw [hkw] at h0 ⊢
  have hd : expireM (startW n).n.dur e.time = (expRecs e.time n.dur.items, 0) := by
   have q0 : checkM (startW n).n.dur = 0 := (good_iff _).2 hv.j.good
   unfold expireM
   rw [if_neg (by rw [q0]; exact zero3), if_neg (by rw [k2]; decide)]
   rfl
  unfold expireW at h0 ⊢
  rw [hd] at h0 ⊢
  dsimp only at h0 ⊢
  rw [if_neg zero3] at h0 ⊢
  have := ex_run (P := Why n e) (n0 := (startW n).n) (w := startW n) hv rfl rfl (l := n.dur.items) rfl k2 (fun x hx => .inr (.inr (.inl ⟨r, hx⟩))) hst _ (Nat.le_refl _)
  rw [List.take_length] at this
  exact this h0
 ·have hkw : kindW (startW n) e = dropW (startW n) e := by
   unfold kindW
   rw [if_neg (by rw [r]; decide), if_neg (by rw [r]; decide), if_neg (by rw [r]; decide), if_neg (by rw [r]; decide), if_neg (by rw [r]; decide), if_pos (by rw [r]; rfl)]
  rw [hkw] at h0 ⊢
  unfold dropW at h0 ⊢
  by_cases q : (findM (startW n).n.dur e.id).2 = true
  ·rw [if_pos q] at h0 ⊢
   obtain ⟨hx, hi⟩ := find_mem q
   obtain ⟨r1, r2, r3⟩ := remove_rem hv rfl hx k2 h0
   rw [r3]
   exact hst.rem hx (.inr (.inr (.inr ⟨r, hi⟩))) r1
  ·rw [if_neg q]
   exact hst
end Go.Proofs.YtggjngbighkdgaaGreat

namespace Go.Proofs.YtggjngbighkdgaaGreat
open Go.Sy Go.Mb
set_option maxRecDepth 100000
set_option maxHeartbeats 4000000
theorem go_send {n : Nod} (h : Val n) {e : Evt} (hz : (goM n e).2.2 = 0) (hk : e.kind = 2) : ∃ l, (goM n e).1 = { (startW n).n with ofs := l } ∧ ((goM n e).2.1 = [] ∨ ∃ x c, (goM n e).2.1 = [⟨1, x, c, 0⟩]) := by
 obtain ⟨g1, _, g3, _⟩ := go_val h hz
 have h0 := go_err hz
 rw [g3]
 show ∃ l, (kindW (startW n) e).n = _ ∧ ((kindW (startW n) e).acts = [] ∨ ∃ x c, (kindW (startW n) e).acts = [⟨1, x, c, 0⟩])
 have hkw : kindW (startW n) e = sendW (startW n) e := by
  unfold kindW
  rw [if_neg (by rw [hk]; decide), if_pos (by rw [hk]; rfl)]
 rw [hkw] at h0 ⊢
 unfold sendW at h0 ⊢
 split
 ·exact ⟨n.ofs, rfl, .inl rfl⟩
 ·split
  ·exact ⟨_, rfl, .inr ⟨_, _, rfl⟩⟩
  ·split
   ·exact ⟨n.ofs, rfl, .inl rfl⟩
   ·exact ⟨n.ofs, rfl, .inl rfl⟩
theorem go_tick {n : Nod} (h : Val n) {e : Evt} (hz : (goM n e).2.2 = 0) (hk : e.kind = 7) : (goM n e).2.1 = [] ∧ (goM n e).1.self = n.self ∧ (goM n e).1.quota = n.quota ∧ (goM n e).1.last = (n.jour.size : Int) ∧ (goM n e).1.dur.inbox = n.dur.inbox ∧ (goM n e).1.ofs = n.ofs ∧ (∃ s, ls (goM n e).1.jour = ls n.jour ++ s) ∧ (goM n e).1.dur.items.map Itm.id = n.dur.items.map Itm.id := by
 obtain ⟨g1, _, g3, _⟩ := go_val h hz
 have h0 := go_err hz
 obtain ⟨_, k2, k3⟩ := evE_ok g1
 rw [hk] at k3
 have k3 : (vId e.id && inR e.ticket 0 1152921504606846976) = true := k3
 rw [Bool.and_eq_true] at k3
 rw [g3]
 show (kindW (startW n) e).acts = [] ∧ (kindW (startW n) e).n.self = n.self ∧ (kindW (startW n) e).n.quota = n.quota ∧ (kindW (startW n) e).n.last = (n.jour.size : Int) ∧ (kindW (startW n) e).n.dur.inbox = n.dur.inbox ∧ (kindW (startW n) e).n.ofs = n.ofs ∧ (∃ s, ls (kindW (startW n) e).n.jour = ls n.jour ++ s) ∧ (kindW (startW n) e).n.dur.items.map Itm.id = n.dur.items.map Itm.id
 have hkw : kindW (startW n) e = ticketW (startW n) e := by
  unfold kindW
  rw [if_neg (by rw [hk]; decide), if_neg (by rw [hk]; decide), if_neg (by rw [hk]; decide), if_neg (by rw [hk]; decide), if_neg (by rw [hk]; decide), if_neg (by rw [hk]; decide)]
 rw [hkw] at h0 ⊢
 unfold ticketW at h0 ⊢
 by_cases hf : (findM (startW n).n.dur e.id).2 = true
 ·rw [if_pos hf] at h0 ⊢
  have hr := recErr4 (id := e.id) (by rw [← vId_valid]; exact k3.1) k3.2 k2
  have h0 : (if (wr (startW n).n ⟨4, .zero, e.id, e.ticket, e.time⟩).2 != 0 then (wr (startW n).n ⟨4, .zero, e.id, e.ticket, e.time⟩).2 else (0 : Int)) = 0 := h0
  rcases wr_both h.lastN.j hr with ⟨e1, _⟩ | ⟨e1, e2, e3, e4, e5, e6⟩
  ·rw [e1] at h0; cases h0
  ·have hn : ((startW n).write [⟨4, .zero, e.id, e.ticket, e.time⟩]).n = wrN (startW n).n ⟨4, .zero, e.id, e.ticket, e.time⟩ := by
    show (wr (startW n).n ⟨4, .zero, e.id, e.ticket, e.time⟩).1 = _
    rw [e1]
   refine ⟨rfl, by rw [hn]; rfl, by rw [hn]; rfl, by rw [hn]; rfl, by rw [hn, e4]; rfl, by rw [hn]; rfl, ⟨sealL (conL ⟨4, .zero, e.id, e.ticket, e.time⟩), by rw [hn, e5]; rfl⟩, ?_⟩
   rw [hn, e4]
   exact (tick_size _ _ _).2
 ·rw [if_neg hf]
  exact ⟨rfl, rfl, rfl, rfl, rfl, rfl, ⟨[], (List.append_nil _).symm⟩, rfl⟩
def isNew (c : Mb.Act) : Bool := c.kind == 2 && c.value != 3
structure Step (n n' : Nod) (a : List Mb.Act) : Prop where
 self : n'.self = n.self
 quota : n'.quota = n.quota
 box : n'.dur.inbox = n.dur.inbox ∨ ∃ x : Itm, n'.dur.inbox = n.dur.inbox ++ [x] ∧ x.dest = n.self
 jour : ∃ s, ls n'.jour = ls n.jour ++ s
 last : n'.last = if a.any isNew then (n'.jour.size : Int) else (n.jour.size : Int)
end Go.Proofs.YtggjngbighkdgaaGreat

namespace Go.Proofs.YtggjngbighkdgaaGreat
open Go.Sy Go.Mb
set_option maxRecDepth 100000
set_option maxHeartbeats 4000000
structure Cust (n n' : Nod) (e : Evt) (a : List Mb.Act) (G : List Itm) : Prop where
 uniq : Uniq G
 mem : ∀ y ∈ G, y ∈ n.dur.items ∧ Why n e y
 acts : a.filter is5 = G.map (fun y => ⟨5, y, 0, 0⟩)
 found : ∀ x ∈ n.dur.items, (findM n'.dur x.id).2 = !G.any (hasId x.id)
theorem cust_none {n n' : Nod} {e : Evt} {a : List Mb.Act} (ha : ∀ c ∈ a, c.kind ≠ 5) (hf : ∀ x ∈ n.dur.items, (findM n'.dur x.id).2 = true) : Cust n n' e a [] :=
 ⟨List.Pairwise.nil, (fun y hy => by cases hy), by
  rw [List.filter_eq_nil_iff.2 (fun c hc => by unfold is5; rw [beq_iff_eq]; exact ha c hc)]
  rfl, fun x hx => by rw [hf x hx]; rfl⟩
theorem found_self {d : Dur} {x : Itm} (hx : x ∈ d.items) : (findM d x.id).2 = true := (find_iff _ _).2 ⟨x, hx, rfl⟩
theorem go_cust {n : Nod} (h : Val n) {e : Evt} (hz : (goM n e).2.2 = 0) : ∃ G, Cust n (goM n e).1 e (goM n e).2.1 G := by
 obtain ⟨g1, _, g3, _⟩ := go_val h hz
 obtain ⟨k1, k2, k3⟩ := evE_ok g1
 obtain ⟨k1, k1'⟩ := inR_iff.1 k1
 have hk : e.kind = 1 ∨ e.kind = 2 ∨ (3 ≤ e.kind ∧ e.kind ≤ 6) ∨ e.kind = 7 := by omega
 rcases hk with r | r | r | r
 ·refine ⟨[], ?_⟩
  obtain ⟨k, q, ha, hp⟩ := go_put h hz r
  rw [ha]
  generalize (goM n e).1 = m at *
  refine cust_none (fun c hc => ?_) (fun x hx => ?_)
  ·rw [List.mem_singleton.1 hc]
   cases hp <;> simp
  ·cases hp with
   | old h1 => rw [h1]; exact found_self (d := n.dur) hx
   | full h1 => rw [h1]; exact found_self (d := n.dur) hx
   | dupo h1 _ => rw [h1]; exact found_self (d := n.dur) hx
   | dup h1 _ => rw [h1]; exact found_self (d := n.dur) hx
   | box h1 _ _ => rw [h1]; exact (find_iff _ _).2 ⟨x, hx, rfl⟩
   | item h1 _ => rw [h1]; exact (find_iff _ _).2 ⟨x, List.mem_append_left _ hx, rfl⟩
 ·refine ⟨[], ?_⟩
  obtain ⟨l, hl, ha⟩ := go_send h hz r
  refine cust_none (fun c hc => ?_) (fun x hx => ?_)
  ·rcases ha with ha | ⟨y, c', ha⟩
   ·rw [ha] at hc; cases hc
   ·rw [ha] at hc; rw [List.mem_singleton.1 hc]; simp
  ·rw [hl]; exact found_self (d := n.dur) hx
 ·have hr := go_run h hz r
  obtain ⟨G, g1, g2, g3, g4⟩ := hr.gone
  refine ⟨G, g2, g3, g4, fun x hx => ?_⟩
  rw [Bool.eq_iff_iff, find_iff]
  constructor
  ·rintro ⟨y, hy, hi⟩
   rw [g1, List.mem_filter] at hy
   rw [hi] at hy
   exact hy.2
  ·intro q
   refine ⟨x, ?_, rfl⟩
   rw [g1, List.mem_filter]
   exact ⟨hx, q⟩
 ·refine ⟨[], ?_⟩
  obtain ⟨t1, _, _, _, _, _, _, t7⟩ := go_tick h hz r
  rw [t1]
  refine cust_none (fun c hc => by cases hc) (fun x hx => ?_)
  exact found_map (d := n.dur) t7 x.id (found_self hx)
def goneM (n n' : Nod) : List Itm := n.dur.items.filter (fun x => (findM n.dur x.id).2 && !(findM n'.dur x.id).2)
theorem sub_len {α : Type} [DecidableEq α] : ∀ {l m : List α}, l.Pairwise (· ≠ ·) → (∀ x ∈ l, x ∈ m) → l.length ≤ m.length
 | [], _, _, _ => Nat.zero_le _
 | a :: l, m, h, hs => by
  rw [List.pairwise_cons] at h
  have ha : a ∈ m := hs a (List.mem_cons_self ..)
  have := sub_len (l := l) (m := m.erase a) h.2 (fun x hx => (List.mem_erase_of_ne (fun q => h.1 x hx q.symm)).2 (hs x (List.mem_cons_of_mem _ hx)))
  rw [List.length_erase_of_mem ha] at this
  have := List.length_pos_of_mem ha
  rw [List.length_cons]
  omega
theorem Cust.gone {n n' : Nod} {e : Evt} {a : List Mb.Act} {G : List Itm} (h : Cust n n' e a G) : goneM n n' = n.dur.items.filter (fun x => G.any (hasId x.id)) := by
 unfold goneM
 refine List.filter_congr fun x hx => ?_
 rw [found_self hx, h.found x hx, Bool.true_and, Bool.not_not]
theorem Cust.lost {n n' : Nod} {e : Evt} {a : List Mb.Act} {G : List Itm} (h : Cust n n' e a G) (hu : Uniq n.dur.items) {x : Itm} (hx : x ∈ n.dur.items) (hl : ((findM n.dur x.id).2 && !(findM n'.dur x.id).2) = true) : Why n e x := by
 rw [found_self hx, h.found x hx, Bool.true_and, Bool.not_not, any_id] at hl
 obtain ⟨y, hy, hi⟩ := hl
 obtain ⟨y1, y2⟩ := h.mem y hy
 have e1 := find_eq hu hx
 have e2 := find_eq hu y1
 rw [hi, e1] at e2
 have e3 : x = y := congrArg Prod.fst e2
 rw [e3]
 exact y2
theorem Cust.mem_iff {n n' : Nod} {e : Evt} {a : List Mb.Act} {G : List Itm} (h : Cust n n' e a G) (id : Nid) : id ∈ (goneM n n').map Itm.id ↔ id ∈ G.map Itm.id := by
 rw [h.gone, List.mem_map, List.mem_map]
 constructor
 ·rintro ⟨x, hx, rfl⟩
  exact any_id.1 (List.mem_filter.1 hx).2
 ·rintro ⟨y, hy, rfl⟩
  exact ⟨y, List.mem_filter.2 ⟨(h.mem y hy).1, any_id.2 ⟨y, hy, rfl⟩⟩, rfl⟩
theorem Cust.len {n n' : Nod} {e : Evt} {a : List Mb.Act} {G : List Itm} (h : Cust n n' e a G) (hu : Uniq n.dur.items) : (a.filter is5).length = (goneM n n').length := by
 haveI : DecidableEq Nid := fun _ _ => Classical.propDecidable _
 have e1 : (a.filter is5).length = (G.map Itm.id).length := by rw [h.acts, List.length_map, List.length_map]
 have e2 : (goneM n n').length = ((goneM n n').map Itm.id).length := by rw [List.length_map]
 have hg : Uniq (goneM n n') := by unfold goneM; exact uniq_filter hu
 rw [e1, e2]
 exact Nat.le_antisymm (sub_len h.uniq fun x hx => (h.mem_iff x).2 hx) (sub_len hg fun x hx => (h.mem_iff x).1 hx)
theorem Cust.sub {n n' : Nod} {e : Evt} {a : List Mb.Act} {G : List Itm} (h : Cust n n' e a G) {c : Mb.Act} (hc : c ∈ a.filter is5) : c.item.id ∈ (goneM n n').map Itm.id := by
 rw [h.acts, List.mem_map] at hc
 obtain ⟨y, hy, rfl⟩ := hc
 exact (h.mem_iff y.id).2 (List.mem_map.2 ⟨y, hy, rfl⟩)
end Go.Proofs.YtggjngbighkdgaaGreat

namespace Go.Proofs.YtggjngbighkdgaaGreat
open Go.Sy Go.Mb
set_option maxRecDepth 100000
set_option maxHeartbeats 4000000
theorem idxO2_ok (l : List Ofr) (hl : l.length ≤ 1000000) (f c d : Nat) (el em : Nat → A) (p : Ofr → Bool) (hc : ∀ x, FnOK Tryz.prog f [.agg (Ofr.cells x), .ip c el, .ip d em] (.bool (p x), none)) : FnOK Tryz.prog 82 [slOfr l, .fn f [.ip c el, .ip d em]] (.int .i64 (idx p l), none) := by
 refine fn_ok CF rfl (by kernel_rfl) Tryz.func82 rfl ?_
 refine Sat.go (Eq.refl _) ?_
 refine NS.loop (σ := { k : Nat // k ≤ l.length ∧ ∀ i, i < k → p (l.getD i default) = false }) (fun k => [(0, slOfr l), (1, .fn f [.ip c el, .ip d em]), (7, .int .i64 l.length), (8, .int .i64 k.1)]) (fun _ => []) (fun k => l.length - k.1) ⟨0, Nat.zero_le _, fun i hi => by omega⟩ ?_ ?_
 ·exact weak_hd [] rfl ⟨rfl, rfl, rfl, rfl, trivial⟩ trivial trivial (by kernel_rfl)
 rintro ⟨k, hk, hn⟩
 refine Sat.go (Eq.refl _) (NS.ite (fun h => ?_) (fun h => ?_))
 ·have h : k < l.length := by simpa using h
  repeat' (first | (refine Sat.go (Eq.refl _) (NS.chk (by kernel_rfl) ?_)) | (refine Sat.go (Eq.refl _) (NS.need (by simp; omega) ?_)))
  refine Sat.go (Eq.refl _) (NS.call (hc (l.getD k default)) rfl ?_)
  refine Sat.go (Eq.refl _) (NS.ite (fun h2 => ?_) (fun h2 => ?_))
  ·exact Sat.go (Eq.refl _) (NS.leaveOut rfl (Eq.refl _) (NS.ret rfl rfl (LeA.of (congrArg (A.int .i64) ((idx_found (by omega) h2 hn).symm)))))
  ·refine Sat.go (Eq.refl _) (NS.next ⟨k + 1, by omega, fun i hi => ?_⟩ (by simp; omega) ?_)
   ·by_cases hik : i = k
    ·subst hik; exact h2
    ·exact hn i (by omega)
   ·exact weak_hd [] rfl ⟨rfl, rfl, rfl, ren_int rfl (i64_k (by omega) (by omega)), trivial⟩ trivial trivial (by kernel_rfl)
 ·have h : ¬ k < l.length := by simpa using h
  refine Sat.go (Eq.refl _) (NS.leave rfl (Eq.refl _) ?_)
  exact Sat.go (Eq.refl _) (NS.ret rfl rfl (LeA.of (congrArg (A.int .i64) ((idx_none fun i hi => hn i (by omega)).symm))))
theorem contO2_ok (l : List Ofr) (hl : l.length ≤ 1000000) (f c d : Nat) (el em : Nat → A) (p : Ofr → Bool) (hc : ∀ x, FnOK Tryz.prog f [.agg (Ofr.cells x), .ip c el, .ip d em] (.bool (p x), none)) : FnOK Tryz.prog 34 [slOfr l, .fn f [.ip c el, .ip d em]] (.bool (l.any p), none) := by
 refine fn_ok CF rfl (by kernel_rfl) Tryz.func34 rfl ?_
 refine Sat.go (Eq.refl _) (NS.call (idxO2_ok l hl f c d el em p hc) rfl ?_)
 exact Sat.go (Eq.refl _) (NS.ret rfl rfl (LeA.of (congrArg A.bool (idx_any p l))))
theorem idxD_ok (l : List Nid) (hl : l.length ≤ 1000000) (f c : Nat) (el : Nat → A) (p : Nid → Bool) (hc : ∀ x, FnOK Tryz.prog f [.agg (Nid.cells x), .ip c el] (.bool (p x), none)) : FnOK Tryz.prog 86 [slNid l, .fn f [.ip c el]] (.int .i64 (idx p l), none) := by
 refine fn_ok CF rfl (by kernel_rfl) Tryz.func86 rfl ?_
 refine Sat.go (Eq.refl _) ?_
 refine NS.loop (σ := { k : Nat // k ≤ l.length ∧ ∀ i, i < k → p (l.getD i default) = false }) (fun k => [(0, slNid l), (1, .fn f [.ip c el]), (7, .int .i64 l.length), (8, .int .i64 k.1)]) (fun _ => []) (fun k => l.length - k.1) ⟨0, Nat.zero_le _, fun i hi => by omega⟩ ?_ ?_
 ·exact weak_hd [] rfl ⟨rfl, rfl, rfl, rfl, trivial⟩ trivial trivial (by kernel_rfl)
 rintro ⟨k, hk, hn⟩
 refine Sat.go (Eq.refl _) (NS.ite (fun h => ?_) (fun h => ?_))
 ·have h : k < l.length := by simpa using h
  repeat' (first | (refine Sat.go (Eq.refl _) (NS.chk (by kernel_rfl) ?_)) | (refine Sat.go (Eq.refl _) (NS.need (by simp; omega) ?_)))
  refine Sat.go (Eq.refl _) (NS.call (hc (l.getD k default)) rfl ?_)
  refine Sat.go (Eq.refl _) (NS.ite (fun h2 => ?_) (fun h2 => ?_))
  ·exact Sat.go (Eq.refl _) (NS.leaveOut rfl (Eq.refl _) (NS.ret rfl rfl (LeA.of (congrArg (A.int .i64) ((idx_found (by omega) h2 hn).symm)))))
  ·refine Sat.go (Eq.refl _) (NS.next ⟨k + 1, by omega, fun i hi => ?_⟩ (by simp; omega) ?_)
   ·by_cases hik : i = k
    ·subst hik; exact h2
    ·exact hn i (by omega)
   ·exact weak_hd [] rfl ⟨rfl, rfl, rfl, ren_int rfl (i64_k (by omega) (by omega)), trivial⟩ trivial trivial (by kernel_rfl)
 ·have h : ¬ k < l.length := by simpa using h
  refine Sat.go (Eq.refl _) (NS.leave rfl (Eq.refl _) ?_)
  exact Sat.go (Eq.refl _) (NS.ret rfl rfl (LeA.of (congrArg (A.int .i64) ((idx_none fun i hi => hn i (by omega)).symm))))
theorem contD_ok (l : List Nid) (hl : l.length ≤ 1000000) (f c : Nat) (el : Nat → A) (p : Nid → Bool) (hc : ∀ x, FnOK Tryz.prog f [.agg (Nid.cells x), .ip c el] (.bool (p x), none)) : FnOK Tryz.prog 47 [slNid l, .fn f [.ip c el]] (.bool (l.any p), none) := by
 refine fn_ok CF rfl (by kernel_rfl) Tryz.func47 rfl ?_
 refine Sat.go (Eq.refl _) (NS.call (idxD_ok l hl f c el p hc) rfl ?_)
 exact Sat.go (Eq.refl _) (NS.ret rfl rfl (LeA.of (congrArg A.bool (idx_any p l))))
theorem renNid (σ : Nat → Nat) (x : Nid) : RenL σ x.cells x.cells := ⟨_, _, rfl, rfl, _, _, rfl, rfl, _, _, rfl, rfl, _, _, rfl, rfl, _, _, rfl, rfl, rfl⟩
theorem indexD_ok (l : List Nid) (hl : l.length ≤ 1000000) (v : Nid) : FnOK Tryz.prog 87 [slNid l, .agg v.cells] (.int .i64 (idx (fun z => v.eqv z) l), none) := by
 refine fn_ok CF rfl (by kernel_rfl) Tryz.func87 rfl ?_
 refine Sat.go (Eq.refl _) ?_
 refine NS.loop (σ := { k : Nat // k ≤ l.length ∧ ∀ i, i < k → v.eqv (l.getD i default) = false }) (fun k => [(0, slNid l), (3, .ptr 3 0), (7, .int .i64 l.length), (8, .int .i64 k.1)]) (fun _ => [(3, .box v.cells)]) (fun k => l.length - k.1) ⟨0, Nat.zero_le _, fun i hi => by omega⟩ ?_ ?_
 ·exact weak_hd [] rfl ⟨rfl, rfl, rfl, rfl, trivial⟩ ⟨⟨_, rfl, renNid _ _⟩, trivial⟩ trivial (by kernel_rfl)
 rintro ⟨k, hk, hn⟩
 refine Sat.go (Eq.refl _) (NS.ite (fun h => ?_) (fun h => ?_))
 ·have h : k < l.length := by simpa using h
  repeat' (first | (refine Sat.go (Eq.refl _) (NS.chk (by kernel_rfl) ?_)) | (refine Sat.go (Eq.refl _) (NS.need (by simp; omega) ?_)))
  refine Sat.go (Eq.refl _) (NS.ite (fun h2 => ?_) (fun h2 => ?_))
  ·have h2 : v.eqv (l.getD k default) = true := h2
   exact Sat.go (Eq.refl _) (NS.leaveOut rfl (Eq.refl _) (NS.ret rfl rfl (LeA.of (congrArg (A.int .i64) ((idx_found (p := fun z => v.eqv z) (by omega) h2 hn).symm)))))
  ·have h2 : v.eqv (l.getD k default) = false := h2
   refine Sat.go (Eq.refl _) (NS.next ⟨k + 1, by omega, fun i hi => ?_⟩ (by simp; omega) ?_)
   ·by_cases hik : i = k
    ·subst hik; exact h2
    ·exact hn i (by omega)
   ·exact weak_hd [] rfl ⟨rfl, rfl, rfl, ren_int rfl (i64_k (by omega) (by omega)), trivial⟩ ⟨⟨_, rfl, renNid _ _⟩, trivial⟩ trivial (by kernel_rfl)
 ·have h : ¬ k < l.length := by simpa using h
  refine Sat.go (Eq.refl _) (NS.leave rfl (Eq.refl _) ?_)
  exact Sat.go (Eq.refl _) (NS.ret rfl rfl (LeA.of (congrArg (A.int .i64) ((idx_none (p := fun z => v.eqv z) fun i hi => hn i (by omega)).symm))))
theorem containsD_ok (l : List Nid) (hl : l.length ≤ 1000000) (v : Nid) : FnOK Tryz.prog 49 [slNid l, .agg v.cells] (.bool (l.any fun z => v.eqv z), none) := by
 refine fn_ok CF rfl (by kernel_rfl) Tryz.func49 rfl ?_
 refine Sat.go (Eq.refl _) (NS.call (indexD_ok l hl v) rfl ?_)
 exact Sat.go (Eq.refl _) (NS.ret rfl rfl (LeA.of (congrArg A.bool (idx_any _ l))))
def lostB (n n' : Nod) (id : Nid) : Bool := (findM n.dur id).2 && !(findM n'.dur id).2
theorem lost_ok (n n' : Nod) (id : Nid) (h1 : n.dur.items.length ≤ 1000000) (h2 : n'.dur.items.length ≤ 1000000) : FnOK Tryz.prog 37 [.agg n.cells, .agg n'.cells, .agg id.cells] (.bool (lostB n n' id), none) := by
 refine fn_ok CF rfl (by kernel_rfl) Tryz.func37 rfl ?_
 refine Sat.go (Eq.refl _) (NS.call (find_ok n.dur id h1) rfl ?_)
 refine Sat.go (Eq.refl _) (NS.call (find_ok n'.dur id h2) rfl ?_)
 refine Sat.go (Eq.refl _) (NS.ite (fun g1 => ?_) (fun g1 => ?_))
 ·have g1 : (findM n.dur id).2 = true := g1
  exact Sat.go (Eq.refl _) (NS.ret rfl rfl (LeA.of (congrArg A.bool (by unfold lostB; rw [g1, Bool.true_and]))))
 ·have g1 : (findM n.dur id).2 = false := g1
  exact Sat.go (Eq.refl _) (NS.ret rfl rfl (LeA.of (congrArg A.bool (by unfold lostB; rw [g1, Bool.false_and]))))
end Go.Proofs.YtggjngbighkdgaaGreat

namespace Go.Proofs.YtggjngbighkdgaaGreat
open Go.Sy Go.Mb
set_option maxRecDepth 100000
set_option maxHeartbeats 4000000
theorem cus1_ok (x : Itm) (e : Evt) (o : Ofr) : FnOK Tryz.prog 46 [.agg o.cells, .ip 11 (getA x.cells), .ip 22 (getA e.cells)] (.bool (ofKey x.id e.contact o), none) := by
 refine fn_ok CF rfl (by kernel_rfl) Tryz.func46 rfl ?_
 refine Sat.go (Eq.refl _) (NS.ite (fun g1 => ?_) (fun g1 => ?_))
 ·have g1 : o.id.eqv x.id = true := g1
  exact Sat.go (Eq.refl _) (NS.ret rfl rfl (LeA.of (congrArg A.bool (by unfold ofKey; rw [g1, Bool.true_and]))))
 ·have g1 : o.id.eqv x.id = false := g1
  exact Sat.go (Eq.refl _) (NS.ret rfl rfl (LeA.of (congrArg A.bool (by unfold ofKey; rw [g1, Bool.false_and]))))
theorem cus2_ok (l : List Nid) (hl : l.length ≤ 1000000) (v : Nid) : FnOK Tryz.prog 48 [.agg v.cells, .ip 1 (getA [slNid l])] (.bool (!l.any fun z => v.eqv z), none) := by
 refine fn_ok CF rfl (by kernel_rfl) Tryz.func48 rfl ?_
 refine Sat.go (Eq.refl _) (NS.call (containsD_ok l hl v) rfl ?_)
 exact Sat.go (Eq.refl _) (NS.ret rfl rfl (LeA.refl _))
def goneI (n n' : Nod) (l : List Itm) : List Nid := (l.filter (fun x => lostB n n' x.id)).map Itm.id
def remI (l : List Mb.Act) : List Nid := (l.filter is5).map (fun c => c.item.id)
theorem goneI_snoc {n n' : Nod} {l : List Itm} {k : Nat} (h : k < l.length) : goneI n n' (l.take (k + 1)) = goneI n n' (l.take k) ++ (if lostB n n' (l.getD k default).id then [(l.getD k default).id] else []) := by
 unfold goneI
 rw [filter_snoc h, List.map_append]
 split <;> rfl
theorem remI_snoc {l : List Mb.Act} {k : Nat} (h : k < l.length) : remI (l.take (k + 1)) = remI (l.take k) ++ (if is5 (l.getD k default) then [(l.getD k default).item.id] else []) := by
 unfold remI
 rw [filter_snoc h, List.map_append]
 split <;> rfl
theorem goneI_len (n n' : Nod) (l : List Itm) (k : Nat) : (goneI n n' (l.take k)).length ≤ l.length := by
 unfold goneI
 rw [List.length_map]
 exact Nat.le_trans (List.length_filter_le _ _) (by simp; omega)
theorem remI_len (l : List Mb.Act) (k : Nat) : (remI (l.take k)).length ≤ l.length := by
 unfold remI
 rw [List.length_map]
 exact Nat.le_trans (List.length_filter_le _ _) (by simp; omega)
theorem cust_fin {n n' : Nod} {e : Evt} {a : List Mb.Act} {G : List Itm} (h : Cust n n' e a G) (hu : Uniq n.dur.items) : (remI a).length = (goneI n n' n.dur.items).length ∧ (remI a).any (fun v => !(goneI n n' n.dur.items).any fun z => v.eqv z) = false := by
 have hg : goneI n n' n.dur.items = (goneM n n').map Itm.id := rfl
 refine ⟨?_, ?_⟩
 ·unfold remI
  rw [hg, List.length_map, List.length_map]
  exact h.len hu
 ·rw [List.any_eq_false]
  intro v hv
  unfold remI at hv
  obtain ⟨c, hc, rfl⟩ := List.mem_map.1 hv
  have := h.sub hc
  rw [hg]
  rw [show (((goneM n n').map Itm.id).any fun z => c.item.id.eqv z) = true from List.any_eq_true.2 ⟨_, this, Nid.eqv_iff.2 rfl⟩]
  decide
theorem nodeCustody_ok (a : Nat) (ha : a < 256) (b : Nat) (hb : b < 256) (l : List Evt) : FnOK Tryz.prog 10 [.int .u8 (a : Nat), .int .u8 (b : Nat), slEvt l] (.bool true, none) := by
 have cs := start_ok a b ha hb l
 cases hs : (decide (l.length ≤ 20) && !l.any greatE)
 ·rw [hs] at cs
  refine fn_ok CF rfl (by kernel_rfl) Tryz.func10 rfl ?_
  refine Sat.go (Eq.refl _) (NS.call (cs) rfl ?_)
  refine Sat.go (Eq.refl _) (NS.yes (rfl) ?_)
  refine Sat.go (Eq.refl _) (NS.call (awakeN_ok) rfl ?_)
  exact Sat.go (Eq.refl _) (NS.ret rfl rfl (LeA.refl _))
 rw [hs] at cs
 rw [Bool.and_eq_true, decide_eq_true_eq] at hs
 have hl := hs.1
 refine fn_ok CF rfl (by kernel_rfl) Tryz.func10 rfl ?_
 refine Sat.go (Eq.refl _) (NS.call (cs) rfl ?_)
 refine Sat.go (Eq.refl _) (NS.no (rfl) ?_)
 refine Sat.go (Eq.refl _) ?_
 refine NS.loop (σ := { q : Nat × Nod // q.1 ≤ l.length ∧ Val q.2 }) (fun q => [(7, .ptr 7 0), (33, slEvt l), (34, .int .i64 l.length), (35, .int .i64 (q.1.1 : Nat))]) (fun q => [(7, .box q.1.2.cells)]) (fun q => l.length - q.1.1) ⟨(0, nod0 a b), Nat.zero_le _, val0 a b hb⟩ ?_ ?_
 ·exact weak_hd [] rfl ⟨rfl, rfl, rfl, rfl, trivial⟩ ⟨⟨_, rfl, renNod _ _⟩, trivial⟩ trivial (by kernel_rfl)
 rintro ⟨⟨k, m⟩, hk, hv⟩
 have hk : k ≤ l.length := hk
 have hv : Val m := hv
 refine Sat.go (Eq.refl _) (NS.ite (fun h => ?_) (fun h => ?_))
 ·have h : k < l.length := by simpa using h
  have ch := hand_ok hv (l.getD k default)
  have hgv := fun hz0 => (go_val hv (e := l.getD k default) hz0).2.1
  have hgc := fun hz0 => go_cust hv (e := l.getD k default) hz0
  have hgn := ((val_szn hv).go (by omega) (l.getD k default)).2
  refine Sat.go (Eq.refl _) (NS.need (by simp; omega) ?_)
  refine Sat.go (Eq.refl _) (NS.call (ch) rfl ?_)
  generalize goM m (l.getD k default) = z at *
  obtain ⟨z1, z2, z3⟩ := z
  refine Sat.go (Eq.refl _) (NS.ite (fun a3 => ?_) (fun a3 => ?_))
  ·refine Sat.go (Eq.refl _) (NS.next ⟨(k + 1, m), by show k + 1 ≤ l.length; omega, hv⟩ (by show l.length - (k + 1) < l.length - k; omega) ?_)
   exact weak_hd [] rfl ⟨rfl, rfl, rfl, ren_int rfl (i64_k (k := k) (n := l.length) h (by omega)), trivial⟩ ⟨⟨_, rfl, renNod _ _⟩, trivial⟩ trivial (by kernel_rfl)
  have hz3 : z3 = 0 := by have a3 : (z3 != 0) = false := a3; simpa using a3
  have hv1 : Val z1 := hgv hz3
  obtain ⟨G, hG⟩ := hgc hz3
  have hG : Cust m z1 (l.getD k default) z2 G := hG
  have hzl : z2.length ≤ 200000 := hgn
  have hu := hv.j.good.2.2.1
  obtain ⟨f1, f2⟩ := cust_fin hG hu
  obtain ⟨q1, q2⟩ := items_len hv1.j
  obtain ⟨q3, q4⟩ := items_len hv.j
  have q5 : m.ofs.length ≤ 64 := ((ofs_iff _).1 hv.of).1
  refine Sat.wk (weak_freezeP 10 10 22 rfl rfl rfl rfl) ?_
  refine Sat.go (Eq.refl _) ?_
  refine NS.loop (σ := { i : Nat // i ≤ m.dur.items.length }) (fun i => [(7, .ptr 7 0), (10, .ip 22 (getA (l.getD k default).cells)), (11, .ptr 11 0), (12, slAct z2), (14, .ptr 14 0), (33, slEvt l), (34, .int .i64 l.length), (35, .int .i64 (k : Nat)), (50, slItm m.dur.items), (51, .int .i64 m.dur.items.length), (52, .int .i64 (i.1 : Nat))]) (fun i => [(7, .box m.cells), (11, .box z1.cells), (14, .box [.own 64]), (64, .row 39 5 (goneI m z1 (m.dur.items.take i.1)).length (rowL Nid.cells (goneI m z1 (m.dur.items.take i.1))))]) (fun i => m.dur.items.length - i.1) ⟨0, Nat.zero_le _⟩ ?_ ?_
  ·refine (weak_promoteB 14 0 64 39 5 (rowL Nid.cells []) rfl rfl rfl).trans ?_
   exact weak_hd [] rfl ⟨rfl, rfl, rfl, rfl, rfl, rfl, rfl, rfl, rfl, rfl, rfl, trivial⟩ ⟨⟨_, rfl, renNod _ _⟩, ⟨_, rfl, renNod _ _⟩, ⟨_, rfl, _, _, rfl, rfl, rfl⟩, ren_row rfl rfl fun _ _ _ _ => rfl, trivial⟩ trivial (by kernel_rfl)
  rintro ⟨i, hi⟩
  have hi : i ≤ m.dur.items.length := hi
  have hil := goneI_len m z1 m.dur.items i
  refine Sat.go (Eq.refl _) (NS.ite (fun b1 => ?_) (fun b1 => ?_))
  ·have b1 : i < m.dur.items.length := by simpa using b1
   have hsn := goneI_snoc (n := m) (n' := z1) b1
   have hm : m.dur.items.getD i default ∈ m.dur.items := by rw [getD_lt b1]; exact List.getElem_mem b1
   refine Sat.go (Eq.refl _) (NS.need (by simp; omega) ?_)
   refine Sat.go (Eq.refl _) (NS.call (lost_ok m z1 (m.dur.items.getD i default).id (by omega) (by omega)) rfl ?_)
   refine Sat.go (Eq.refl _) (NS.ite (fun b2 => ?_) (fun b2 => ?_))
   ·have b2 : lostB m z1 (m.dur.items.getD i default).id = false := by have b2 : (!lostB m z1 (m.dur.items.getD i default).id) = true := b2; simpa using b2
    rw [if_neg (by rw [b2]; decide), List.append_nil] at hsn
    refine Sat.go (Eq.refl _) (NS.next ⟨i + 1, by omega⟩ (by show m.dur.items.length - (i + 1) < m.dur.items.length - i; omega) ?_)
    exact weak_hd [] rfl ⟨rfl, rfl, rfl, rfl, rfl, rfl, rfl, rfl, rfl, rfl, ren_int rfl (i64_k (k := i) (n := m.dur.items.length) b1 (by omega)), trivial⟩ ⟨⟨_, rfl, renNod _ _⟩, ⟨_, rfl, renNod _ _⟩, ⟨_, rfl, _, _, rfl, rfl, rfl⟩, ren_row rfl (by rw [hsn]) (fun _ _ _ _ => by rw [hsn]), trivial⟩ trivial (by kernel_rfl)
   ·have b2 : lostB m z1 (m.dur.items.getD i default).id = true := by have b2 : (!lostB m z1 (m.dur.items.getD i default).id) = false := b2; simpa using b2
    rw [if_pos b2] at hsn
    have hw := hG.lost hu hm b2
    refine Sat.wk (weak_freezeP 16 16 11 rfl rfl rfl rfl) ?_
    refine Sat.go (Eq.refl _) (NS.need (decide_eq_true (by simp only [maxRow]; omega)) ?_)
    rcases hw with ⟨w1, w2, w3⟩ | ⟨w1, w2⟩ | ⟨w1, w2⟩ | ⟨w1, w2⟩
    ·refine Sat.go (Eq.refl _) (NS.yes (by show ((l.getD k default).kind == 3) = true; rw [w1]; rfl) ?_)
     refine Sat.go (Eq.refl _) (NS.ite (fun ac => ?_) (fun ac => ?_))
     ·refine Sat.go (Eq.refl _) (NS.yes (Nid.eqv_iff.2 w2.symm) ?_)
      refine Sat.go (Eq.refl _) (NS.call (contO2_ok m.ofs (by omega) 46 11 22 (getA (m.dur.items.getD i default).cells) (getA (l.getD k default).cells) (ofKey (m.dur.items.getD i default).id (l.getD k default).contact) (cus1_ok (m.dur.items.getD i default) (l.getD k default))) rfl ?_)
      refine Sat.go (Eq.refl _) (NS.no (by show ((l.getD k default).kind == 5) = false; rw [w1]; rfl) ?_)
      refine Sat.go (Eq.refl _) (NS.no (by show ((l.getD k default).kind == 6) = false; rw [w1]; rfl) ?_)
      refine Sat.go (Eq.refl _) (NS.ite (fun cu => ?_) (fun cu => ?_))
      ·have w4 : m.ofs.any (ofKey (m.dur.items.getD i default).id (l.getD k default).contact) = true := by
        rcases w3 with w3 | ⟨_, w3⟩
        ·have cu : (m.dur.items.getD i default).custody = true := cu
         rw [w3] at cu; cases cu
        ·rw [w2]; exact w3
       refine Sat.go (Eq.refl _) (NS.no (by rw [w4]; rfl) ?_)
       refine Sat.go (Eq.refl _) (NS.next ⟨i + 1, by omega⟩ (by show m.dur.items.length - (i + 1) < m.dur.items.length - i; omega) ?_)
       exact weak_hd [(64, 66)] rfl ⟨rfl, rfl, rfl, rfl, rfl, rfl, rfl, rfl, rfl, rfl, ren_int rfl (i64_k (k := i) (n := m.dur.items.length) b1 (by omega)), trivial⟩ ⟨⟨_, rfl, renNod _ _⟩, ⟨_, rfl, renNod _ _⟩, ⟨_, rfl, _, _, rfl, rfl, rfl⟩, ren_row rfl (by rw [hsn]; simp) (fun q hq j hj => by rw [hsn] at hq ⊢; exact row_snoc (cells := Nid.cells) (x := (m.dur.items.getD i default).id) rfl q (by simpa using hq) j hj), trivial⟩ trivial (by kernel_rfl)
      ·refine Sat.go (Eq.refl _) (NS.next ⟨i + 1, by omega⟩ (by show m.dur.items.length - (i + 1) < m.dur.items.length - i; omega) ?_)
       exact weak_hd [(64, 66)] rfl ⟨rfl, rfl, rfl, rfl, rfl, rfl, rfl, rfl, rfl, rfl, ren_int rfl (i64_k (k := i) (n := m.dur.items.length) b1 (by omega)), trivial⟩ ⟨⟨_, rfl, renNod _ _⟩, ⟨_, rfl, renNod _ _⟩, ⟨_, rfl, _, _, rfl, rfl, rfl⟩, ren_row rfl (by rw [hsn]; simp) (fun q hq j hj => by rw [hsn] at hq ⊢; exact row_snoc (cells := Nid.cells) (x := (m.dur.items.getD i default).id) rfl q (by simpa using hq) j hj), trivial⟩ trivial (by kernel_rfl)
     ·have ac : (l.getD k default).acc = false := ac
      have w4 : (m.dur.items.getD i default).custody = false := w3.resolve_right (fun q => by rw [ac] at q; cases q.1)
      refine Sat.go (Eq.refl _) (NS.no (by show ((l.getD k default).kind == 5) = false; rw [w1]; rfl) ?_)
      refine Sat.go (Eq.refl _) (NS.no (by show ((l.getD k default).kind == 6) = false; rw [w1]; rfl) ?_)
      refine Sat.go (Eq.refl _) (NS.no (w4) ?_)
      refine Sat.go (Eq.refl _) (NS.next ⟨i + 1, by omega⟩ (by show m.dur.items.length - (i + 1) < m.dur.items.length - i; omega) ?_)
      exact weak_hd [(64, 66)] rfl ⟨rfl, rfl, rfl, rfl, rfl, rfl, rfl, rfl, rfl, rfl, ren_int rfl (i64_k (k := i) (n := m.dur.items.length) b1 (by omega)), trivial⟩ ⟨⟨_, rfl, renNod _ _⟩, ⟨_, rfl, renNod _ _⟩, ⟨_, rfl, _, _, rfl, rfl, rfl⟩, ren_row rfl (by rw [hsn]; simp) (fun q hq j hj => by rw [hsn] at hq ⊢; exact row_snoc (cells := Nid.cells) (x := (m.dur.items.getD i default).id) rfl q (by simpa using hq) j hj), trivial⟩ trivial (by kernel_rfl)
    ·refine Sat.go (Eq.refl _) (NS.no (by show ((l.getD k default).kind == 3) = false; rw [w1]; rfl) ?_)
     refine Sat.go (Eq.refl _) (NS.no (by show ((l.getD k default).kind == 5) = false; rw [w1]; rfl) ?_)
     refine Sat.go (Eq.refl _) (NS.no (by show ((l.getD k default).kind == 6) = false; rw [w1]; rfl) ?_)
     refine Sat.go (Eq.refl _) (NS.no (w2) ?_)
     refine Sat.go (Eq.refl _) (NS.next ⟨i + 1, by omega⟩ (by show m.dur.items.length - (i + 1) < m.dur.items.length - i; omega) ?_)
     exact weak_hd [(64, 66)] rfl ⟨rfl, rfl, rfl, rfl, rfl, rfl, rfl, rfl, rfl, rfl, ren_int rfl (i64_k (k := i) (n := m.dur.items.length) b1 (by omega)), trivial⟩ ⟨⟨_, rfl, renNod _ _⟩, ⟨_, rfl, renNod _ _⟩, ⟨_, rfl, _, _, rfl, rfl, rfl⟩, ren_row rfl (by rw [hsn]; simp) (fun q hq j hj => by rw [hsn] at hq ⊢; exact row_snoc (cells := Nid.cells) (x := (m.dur.items.getD i default).id) rfl q (by simpa using hq) j hj), trivial⟩ trivial (by kernel_rfl)
    ·refine Sat.go (Eq.refl _) (NS.no (by show ((l.getD k default).kind == 3) = false; rw [w1]; rfl) ?_)
     refine Sat.go (Eq.refl _) (NS.yes (by show ((l.getD k default).kind == 5) = true; rw [w1]; rfl) ?_)
     refine Sat.go (Eq.refl _) (NS.yes (decide_eq_true w2) ?_)
     refine Sat.go (Eq.refl _) (NS.ite (fun cu => ?_) (fun cu => ?_))
     ·refine Sat.go (Eq.refl _) (NS.next ⟨i + 1, by omega⟩ (by show m.dur.items.length - (i + 1) < m.dur.items.length - i; omega) ?_)
      exact weak_hd [(64, 66)] rfl ⟨rfl, rfl, rfl, rfl, rfl, rfl, rfl, rfl, rfl, rfl, ren_int rfl (i64_k (k := i) (n := m.dur.items.length) b1 (by omega)), trivial⟩ ⟨⟨_, rfl, renNod _ _⟩, ⟨_, rfl, renNod _ _⟩, ⟨_, rfl, _, _, rfl, rfl, rfl⟩, ren_row rfl (by rw [hsn]; simp) (fun q hq j hj => by rw [hsn] at hq ⊢; exact row_snoc (cells := Nid.cells) (x := (m.dur.items.getD i default).id) rfl q (by simpa using hq) j hj), trivial⟩ trivial (by kernel_rfl)
     ·refine Sat.go (Eq.refl _) (NS.next ⟨i + 1, by omega⟩ (by show m.dur.items.length - (i + 1) < m.dur.items.length - i; omega) ?_)
      exact weak_hd [(64, 66)] rfl ⟨rfl, rfl, rfl, rfl, rfl, rfl, rfl, rfl, rfl, rfl, ren_int rfl (i64_k (k := i) (n := m.dur.items.length) b1 (by omega)), trivial⟩ ⟨⟨_, rfl, renNod _ _⟩, ⟨_, rfl, renNod _ _⟩, ⟨_, rfl, _, _, rfl, rfl, rfl⟩, ren_row rfl (by rw [hsn]; simp) (fun q hq j hj => by rw [hsn] at hq ⊢; exact row_snoc (cells := Nid.cells) (x := (m.dur.items.getD i default).id) rfl q (by simpa using hq) j hj), trivial⟩ trivial (by kernel_rfl)
    ·refine Sat.go (Eq.refl _) (NS.no (by show ((l.getD k default).kind == 3) = false; rw [w1]; rfl) ?_)
     refine Sat.go (Eq.refl _) (NS.no (by show ((l.getD k default).kind == 5) = false; rw [w1]; rfl) ?_)
     refine Sat.go (Eq.refl _) (NS.yes (by show ((l.getD k default).kind == 6) = true; rw [w1]; rfl) ?_)
     refine Sat.go (Eq.refl _) (NS.ite (fun cu => ?_) (fun cu => ?_))
     ·refine Sat.go (Eq.refl _) (NS.no (by show (!((l.getD k default).id.eqv (m.dur.items.getD i default).id)) = false; rw [Nid.eqv_iff.2 w2.symm]; rfl) ?_)
      refine Sat.go (Eq.refl _) (NS.next ⟨i + 1, by omega⟩ (by show m.dur.items.length - (i + 1) < m.dur.items.length - i; omega) ?_)
      exact weak_hd [(64, 66)] rfl ⟨rfl, rfl, rfl, rfl, rfl, rfl, rfl, rfl, rfl, rfl, ren_int rfl (i64_k (k := i) (n := m.dur.items.length) b1 (by omega)), trivial⟩ ⟨⟨_, rfl, renNod _ _⟩, ⟨_, rfl, renNod _ _⟩, ⟨_, rfl, _, _, rfl, rfl, rfl⟩, ren_row rfl (by rw [hsn]; simp) (fun q hq j hj => by rw [hsn] at hq ⊢; exact row_snoc (cells := Nid.cells) (x := (m.dur.items.getD i default).id) rfl q (by simpa using hq) j hj), trivial⟩ trivial (by kernel_rfl)
     ·refine Sat.go (Eq.refl _) (NS.next ⟨i + 1, by omega⟩ (by show m.dur.items.length - (i + 1) < m.dur.items.length - i; omega) ?_)
      exact weak_hd [(64, 66)] rfl ⟨rfl, rfl, rfl, rfl, rfl, rfl, rfl, rfl, rfl, rfl, ren_int rfl (i64_k (k := i) (n := m.dur.items.length) b1 (by omega)), trivial⟩ ⟨⟨_, rfl, renNod _ _⟩, ⟨_, rfl, renNod _ _⟩, ⟨_, rfl, _, _, rfl, rfl, rfl⟩, ren_row rfl (by rw [hsn]; simp) (fun q hq j hj => by rw [hsn] at hq ⊢; exact row_snoc (cells := Nid.cells) (x := (m.dur.items.getD i default).id) rfl q (by simpa using hq) j hj), trivial⟩ trivial (by kernel_rfl)
  ·have b1 : ¬ i < m.dur.items.length := by simpa using b1
   obtain rfl : i = m.dur.items.length := by omega
   rw [List.take_length] at hil
   refine Sat.go (Eq.refl _) (NS.leave rfl (Eq.refl _) ?_)
   rw [List.take_length]
   refine Sat.wk (weak_freezeB 14 0 64 rfl rfl rfl) ?_
   refine Sat.wk (weak_freezeP 14 14 1 rfl rfl rfl rfl) ?_
   refine Sat.go (Eq.refl _) ?_
   refine NS.loop (σ := { i : Nat // i ≤ z2.length }) (fun i => [(7, .ptr 7 0), (11, .ptr 11 0), (14, .ip 1 (getA [slNid (goneI m z1 m.dur.items)])), (20, .own 20), (33, slEvt l), (34, .int .i64 l.length), (35, .int .i64 (k : Nat)), (121, slAct z2), (122, .int .i64 z2.length), (123, .int .i64 (i.1 : Nat))]) (fun i => [(7, .box m.cells), (11, .box z1.cells), (20, .row 39 5 (remI (z2.take i.1)).length (rowL Nid.cells (remI (z2.take i.1))))]) (fun i => z2.length - i.1) ⟨0, Nat.zero_le _⟩ ?_ ?_
   ·refine (weak_promote 20 20 39 5 (rowL Nid.cells []) rfl rfl).trans ?_
    exact weak_hd [] rfl ⟨rfl, rfl, rfl, rfl, rfl, rfl, rfl, rfl, rfl, rfl, trivial⟩ ⟨⟨_, rfl, renNod _ _⟩, ⟨_, rfl, renNod _ _⟩, ren_row rfl rfl fun _ _ _ _ => rfl, trivial⟩ trivial (by kernel_rfl)
   rintro ⟨i, hi⟩
   have hi : i ≤ z2.length := hi
   have hrl := remI_len z2 i
   refine Sat.go (Eq.refl _) (NS.ite (fun b2 => ?_) (fun b2 => ?_))
   ·have b2 : i < z2.length := by simpa using b2
    have hsn := remI_snoc b2
    refine Sat.go (Eq.refl _) (NS.need (by simp; omega) ?_)
    refine Sat.go (Eq.refl _) (NS.ite (fun b3 => ?_) (fun b3 => ?_))
    ·have b3 : is5 (z2.getD i default) = true := b3
     rw [if_pos b3] at hsn
     refine Sat.go (Eq.refl _) (NS.need (decide_eq_true (by simp only [maxRow]; omega)) ?_)
     refine Sat.go (Eq.refl _) (NS.next ⟨i + 1, by omega⟩ (by show z2.length - (i + 1) < z2.length - i; omega) ?_)
     exact weak_hd [(20, 135)] rfl ⟨rfl, rfl, rfl, rfl, rfl, rfl, rfl, rfl, rfl, ren_int rfl (i64_k (k := i) (n := z2.length) b2 (by omega)), trivial⟩ ⟨⟨_, rfl, renNod _ _⟩, ⟨_, rfl, renNod _ _⟩, ren_row rfl (by rw [hsn]; simp) (fun q hq j hj => by rw [hsn] at hq ⊢; exact row_snoc (cells := Nid.cells) (x := (z2.getD i default).item.id) rfl q (by simpa using hq) j hj), trivial⟩ trivial (by kernel_rfl)
    ·have b3 : is5 (z2.getD i default) = false := b3
     rw [if_neg (by rw [b3]; decide), List.append_nil] at hsn
     refine Sat.go (Eq.refl _) (NS.next ⟨i + 1, by omega⟩ (by show z2.length - (i + 1) < z2.length - i; omega) ?_)
     exact weak_hd [] rfl ⟨rfl, rfl, rfl, rfl, rfl, rfl, rfl, rfl, rfl, ren_int rfl (i64_k (k := i) (n := z2.length) b2 (by omega)), trivial⟩ ⟨⟨_, rfl, renNod _ _⟩, ⟨_, rfl, renNod _ _⟩, ren_row rfl (by rw [hsn]) (fun _ _ _ _ => by rw [hsn]), trivial⟩ trivial (by kernel_rfl)
   ·have b2 : ¬ i < z2.length := by simpa using b2
    obtain rfl : i = z2.length := by omega
    rw [List.take_length] at hrl
    refine Sat.go (Eq.refl _) (NS.leave rfl (Eq.refl _) ?_)
    rw [List.take_length]
    refine Sat.wk (weak_freeze 20 20 rfl rfl) ?_
    refine Sat.go (Eq.refl _) (NS.no (by show (((remI z2).length : Int) != ((goneI m z1 m.dur.items).length : Int)) = false; rw [f1]; simp) ?_)
    refine Sat.go (Eq.refl _) (NS.call (contD_ok (remI z2) (by omega) 48 1 (getA [slNid (goneI m z1 m.dur.items)]) (fun v => !(goneI m z1 m.dur.items).any fun z => v.eqv z) (cus2_ok (goneI m z1 m.dur.items) (by omega))) rfl ?_)
    refine Sat.go (Eq.refl _) (NS.no (f2) ?_)
    refine Sat.go (Eq.refl _) (NS.next ⟨(k + 1, z1), by show k + 1 ≤ l.length; omega, hv1⟩ (by show l.length - (k + 1) < l.length - k; omega) ?_)
    exact weak_hd [] rfl ⟨rfl, rfl, rfl, ren_int rfl (i64_k (k := k) (n := l.length) h (by omega)), trivial⟩ ⟨⟨_, rfl, renNod _ _⟩, trivial⟩ trivial (by kernel_rfl)
 ·have h : ¬ k < l.length := by simpa using h
  refine Sat.go (Eq.refl _) (NS.leave rfl (Eq.refl _) ?_)
  refine Sat.go (Eq.refl _) (NS.call (awakeN_ok) rfl ?_)
  exact Sat.go (Eq.refl _) (NS.ret rfl rfl (LeA.refl _))
end Go.Proofs.YtggjngbighkdgaaGreat

