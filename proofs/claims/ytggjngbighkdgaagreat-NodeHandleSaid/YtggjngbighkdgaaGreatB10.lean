import Derived.Test.YtggjngbighkdgaaGreatB09
set_option linter.unusedSimpArgs false
set_option linter.unusedSectionVars false
set_option linter.unusedVariables false
namespace Go.Mb
open Go.Sy
def rdJA (l : List Nat) : List Jrec × Nat × Int := if decide ((l.length : Int) > 65536) then ([], 0, 4) else ((rdJ l).1, (rdJ l).2, 0)
structure RdAt (L : List Nat) (at_ : Nat) (o : List Jrec) : Prop where
 le : at_ ≤ L.length
 res : rdJ L = (o ++ (rdJ (L.drop at_)).1, at_ + (rdJ (L.drop at_)).2)
 len : o.length ≤ at_
theorem RdAt.start (L : List Nat) : RdAt L 0 [] := ⟨Nat.zero_le _, by simp, Nat.le_refl _⟩
theorem RdAt.next {L : List Nat} (hL : ∀ x ∈ L, x < 256) {at_ : Nat} {o : List Jrec} (h : RdAt L at_ o) {r : Jrec} {n : Nat} (hf : fstJ (L.drop at_) = some (r, n)) : RdAt L (at_ + n) (o ++ [r]) ∧ 0 < n ∧ at_ + n ≤ L.length := by
 have hd : ∀ x ∈ L.drop at_, x < 256 := fun x hx => hL x (List.mem_of_mem_drop hx)
 obtain ⟨_, h1, h2, _⟩ := fstJ_ok hd hf
 rw [List.length_drop] at h2
 have hle := h.le
 have hlen := h.len
 refine ⟨⟨by omega, ?_, by simp; omega⟩, h1, by omega⟩
 rw [h.res, rdJ_eq hd, hf]
 simp only [List.drop_drop]
 refine Prod.ext ?_ ?_
 ·simp
 ·show at_ + (n + (rdJ (L.drop (at_ + n))).2) = at_ + n + (rdJ (L.drop (at_ + n))).2; omega
theorem RdAt.fin {L : List Nat} (hL : ∀ x ∈ L, x < 256) {at_ : Nat} {o : List Jrec} (h : RdAt L at_ o) (hf : fstJ (L.drop at_) = none) : rdJ L = (o, at_) := by
 rw [h.res, rdJ_eq fun x hx => hL x (List.mem_of_mem_drop hx), hf]
 simp
theorem dropJ (s : ByteArray) (k : Nat) (h : k ≤ s.size) : ls (s.extract (Int.toNat ((k : Nat) : Int)) (Int.toNat ((s.size : Nat) : Int))) = (ls s).drop k := by
 rw [ls_extract]; show ((ls s).take s.size).drop k = _
 rw [List.take_of_length_le (by rw [ls_len]; omega)]
end Go.Mb
namespace Go.Proofs.YtggjngbighkdgaaGreat
open Go.Sy Go.Mb
set_option maxRecDepth 100000
set_option maxHeartbeats 2000000
theorem read_ok (s : ByteArray) : FnOK Tryz.prog 30 [.str s] (.tup [slR (rdJA (ls s)).1, .int .i64 ((rdJA (ls s)).2.1 : Nat), .int .i64 (rdJA (ls s)).2.2], none) := by
 have hL := ls_lt s
 have hn := ls_len s
 by_cases hb : (s.size : Int) > 65536
 ·have e : rdJA (ls s) = ([], 0, 4) := by unfold rdJA; rw [hn, if_pos (decide_eq_true hb)]
  rw [e]
  refine fn_ok CN rfl (by kernel_rfl) Tryz.func30 rfl ?_
  refine Sat.go (Eq.refl _) (NS.yes (decide_eq_true hb) ?_)
  exact Sat.go (Eq.refl _) (NS.ret rfl rfl (LeA.tup3 (LeA.nil' rfl) (LeA.refl _) (LeA.refl _)))
 have e : rdJA (ls s) = ((rdJ (ls s)).1, (rdJ (ls s)).2, 0) := by unfold rdJA; rw [hn, if_neg (by simpa using hb)]
 rw [e]
 refine fn_ok CN rfl (by kernel_rfl) Tryz.func30 rfl ?_
 refine Sat.go (Eq.refl _) (NS.no (decide_eq_false hb) ?_)
 refine Sat.go (Eq.refl _) ?_
 refine NS.loop (σ := { p : Nat × List Jrec // RdAt (ls s) p.1 p.2 }) (fun p => [(0, .str s), (5, .own 5), (6, .int .i64 p.1.1)]) (fun p => [(5, .row 101 19 p.1.2.length (rowL Jrec.cells p.1.2))]) (fun p => (ls s).length - p.1.1) ⟨(0, []), RdAt.start _⟩ ?_ ?_
 ·refine (weak_promote 5 5 101 19 (rowL Jrec.cells []) rfl rfl).trans ?_
  exact weak_hd [] rfl ⟨rfl, rfl, rfl, trivial⟩ ⟨ren_row rfl rfl fun _ _ _ _ => rfl, trivial⟩ trivial (by kernel_rfl)
 rintro ⟨⟨q, o⟩, hR⟩
 have hR : RdAt (ls s) q o := hR
 have hle := hR.le
 have hol := hR.len
 have c := first_ok (s.extract (Int.toNat ((q : Nat) : Int)) (Int.toNat ((s.size : Nat) : Int))) (by rw [← ls_len, dropJ s q (by omega), List.length_drop]; omega)
 rw [dropJ s q (by omega)] at c
 refine Sat.go (Eq.refl _) (NS.need (by show decide (0 ≤ ((q : Nat) : Int) ∧ ((q : Nat) : Int) ≤ s.size ∧ (s.size : Int) ≤ s.size) = true; rw [decide_eq_true_eq]; omega) ?_)
 refine Sat.go (Eq.refl _) (NS.call (c) rfl ?_)
 rcases hf : fstJ ((ls s).drop q) with _ | ⟨r, n⟩
 ·refine Sat.go (Eq.refl _) (NS.yes (rfl) ?_)
  have hfin := hR.fin hL hf
  rw [hfin]
  refine Sat.go (Eq.refl _) (NS.leaveOut rfl (Eq.refl _) (NS.ret rfl rfl (LeA.refl _)))
 ·obtain ⟨hN, hn0, hle2⟩ := hR.next hL hf
  refine Sat.go (Eq.refl _) (NS.no (rfl) ?_)
  have hqb : q ≤ 65536 := by omega
  refine Sat.go (Eq.refl _) (NS.need (decide_eq_true (by simp only [maxRow]; show (o.length + 1) * (159 + 1 + 1) ≤ _; omega)) ?_)
  refine Sat.go (Eq.refl _) (NS.next ⟨(q + n, o ++ [r]), hN⟩ (by show (ls s).length - (q + n) < (ls s).length - q; omega) ?_)
  exact weak_hd [(5, 28)] rfl ⟨rfl, rfl, ren_int rfl (show IntKind.i64.wrap ((q : Nat) + (n : Nat) : Int) = ((q + n : Nat) : Int) by rw [wrap_i64 (by omega) (by omega)]; omega), trivial⟩ ⟨ren_row rfl (by simp) (fun i hi j hj => row_snoc (cells := Jrec.cells) (x := r) rfl i (by simpa using hi) j hj), trivial⟩ trivial (by kernel_rfl)
end Go.Proofs.YtggjngbighkdgaaGreat

namespace Go.Proofs.YtggjngbighkdgaaGreat
open Go.Sy Go.Mb
def wrN (n : Nod) (r : Jrec) : Nod := { n with jour := bs (appM (ls n.jour) [r]).1, dur := (applyM n.dur r).1, last := if r.kind == 1 || r.kind == 3 then ((bs (appM (ls n.jour) [r]).1).size : Int) else n.last }
def wr (n : Nod) (r : Jrec) : Nod × Int :=
 if (appM (ls n.jour) [r]).2 != 0 then (n, 4)
 else if (applyM n.dur r).2 != 0 then (n, (applyM n.dur r).2)
 else (wrN n r, 0)
structure Wst where
 n : Nod
 acts : List Mb.Act
 err : Int
def wCells (w : Wst) (e : Evt) (a : A) : List A := [.int .i64 w.n.self, .int .i64 w.n.quota, .bool w.n.up, .str w.n.jour, .int .i64 w.n.last, slItm w.n.dur.items, slItm w.n.dur.inbox, slOfr w.n.ofs, .int .i64 e.kind, .int .i64 e.time, .int .i64 e.item.ticket, .int .i64 e.item.id.source, .int .i64 e.item.id.created, .int .i64 e.item.id.seq, .int .i64 e.item.id.off, .int .i64 e.item.id.total, .int .i64 e.item.dest, .int .i64 e.item.expires, .int .i64 e.item.prio, .bool e.item.custody, .str e.item.data, .int .i64 e.id.source, .int .i64 e.id.created, .int .i64 e.id.seq, .int .i64 e.id.off, .int .i64 e.id.total, .int .i64 e.contact, .int .i64 e.due, .bool e.acc, .int .i64 e.ticket, a, .int .i64 w.err]
def Wst.write (w : Wst) : List Jrec → Wst
 | [] => w
 | r :: _ => ⟨(wr w.n r).1, w.acts, if (wr w.n r).2 != 0 then (wr w.n r).2 else w.err⟩
def Wst.act (w : Wst) (a : Mb.Act) : Wst := ⟨w.n, w.acts ++ [a], w.err⟩
def Wst.setO (w : Wst) (l : List Ofr) : Wst := ⟨{ w.n with ofs := l }, w.acts, w.err⟩
def Wst.remove (w : Wst) (t : Int) (x : Itm) : Wst :=
 ((w.write [⟨2, .zero, x.id, 0, t⟩]).setO ((w.write [⟨2, .zero, x.id, 0, t⟩]).n.ofs.filter (nt (ofId x.id)))).act ⟨5, x, 0, 0⟩
def Wst.settle (w : Wst) (t : Int) (id : Nid) (s a : Bool) : Wst :=
 if !(findM w.n.dur id).2 then w else if decM (findM w.n.dur id).1.custody s a == 3 then w.act ⟨4, (findM w.n.dur id).1, 0, 0⟩ else w.remove t (findM w.n.dur id).1
def kindP (w : Wst) (e : Evt) (r : Int) : Int := if r == 4 || r == 5 || (r == 3 && w.n.ofs.any (ofId e.item.id)) then 3 else 2
def putW (w : Wst) (e : Evt) : Wst :=
 if (putM w.n.dur w.n.self w.n.quota e.item e.time).2.2 != 0 then ⟨w.n, w.acts, (putM w.n.dur w.n.self w.n.quota e.item e.time).2.2⟩
 else (w.write (putM w.n.dur w.n.self w.n.quota e.item e.time).1).act ⟨kindP w e (putM w.n.dur w.n.self w.n.quota e.item e.time).2.1, e.item, 0, (putM w.n.dur w.n.self w.n.quota e.item e.time).2.1⟩
def sendW (w : Wst) (e : Evt) : Wst :=
 if !(findM w.n.dur e.id).2 then w
 else if (beginM w.n.ofs e.id e.contact e.due).2 == 0 then (w.setO (beginM w.n.ofs e.id e.contact e.due).1).act ⟨1, (findM w.n.dur e.id).1, e.contact, 0⟩
 else if (beginM w.n.ofs e.id e.contact e.due).2 == 6 then w else ⟨w.n, w.acts, (beginM w.n.ofs e.id e.contact e.due).2⟩
def signalW (w : Wst) (e : Evt) : Wst :=
 if (signalM w.n.ofs e.id e.contact).2.1 == 1 then w else (w.setO (signalM w.n.ofs e.id e.contact).1).settle e.time e.id true e.acc
def tmN (l : List Ofr) (t : Int) (w : Wst) : Nat → Wst
 | 0 => w
 | k + 1 => if k == 0 || !((l.getD (k - 1) default).id.eqv (l.getD k default).id) then (tmN l t w k).settle t (l.getD k default).id false false else tmN l t w k
def timerW (w : Wst) (e : Evt) : Wst := tmN (dueM w.n.ofs e.time).1 e.time (w.setO (dueM w.n.ofs e.time).2.1) (dueM w.n.ofs e.time).1.length
def exN (l : List Jrec) (t : Int) (w : Wst) : Nat → Wst
 | 0 => w
 | k + 1 => if (findM (exN l t w k).n.dur (l.getD k default).id).2 then (exN l t w k).remove t (findM (exN l t w k).n.dur (l.getD k default).id).1 else exN l t w k
def expireW (w : Wst) (e : Evt) : Wst :=
 if (expireM w.n.dur e.time).2 != 0 then ⟨w.n, w.acts, (expireM w.n.dur e.time).2⟩ else exN (expireM w.n.dur e.time).1 e.time w (expireM w.n.dur e.time).1.length
def dropW (w : Wst) (e : Evt) : Wst := if (findM w.n.dur e.id).2 then w.remove e.time (findM w.n.dur e.id).1 else w
def ticketW (w : Wst) (e : Evt) : Wst := if (findM w.n.dur e.id).2 then w.write [⟨4, .zero, e.id, e.ticket, e.time⟩] else w
def kindW (w : Wst) (e : Evt) : Wst :=
 if e.kind == 1 then putW w e else if e.kind == 2 then sendW w e else if e.kind == 3 then signalW w e else if e.kind == 4 then timerW w e else if e.kind == 5 then expireW w e else if e.kind == 6 then dropW w e else ticketW w e
def evE (e : Evt) : Int :=
 if !inR e.kind 1 7 then 8
 else if inR e.time 0 1099511627776 && (if e.kind == 1 then okItem e.item else if e.kind == 2 then vId e.id && inR e.contact 0 63 && inR e.due 0 1099511627777 else if e.kind == 3 then vId e.id && inR e.contact 0 63 else if e.kind == 6 then vId e.id else if e.kind == 7 then vId e.id && inR e.ticket 0 1152921504606846976 else true) then 0 else 2
def zeroN : Nod := ⟨0, 0, false, .empty, 0, ⟨[], []⟩, []⟩
def startW (n : Nod) : Wst := ⟨{ n with last := (n.jour.size : Int) }, [], 0⟩
def goM (n : Nod) (e : Evt) : Nod × List Mb.Act × Int :=
 if evE e != 0 then (zeroN, [], evE e) else if !n.up then (zeroN, [], 29)
 else if (kindW (startW n) e).err != 0 then (zeroN, [], (kindW (startW n) e).err) else ((kindW (startW n) e).n, (kindW (startW n) e).acts, 0)
end Go.Proofs.YtggjngbighkdgaaGreat

namespace Go.Proofs.YtggjngbighkdgaaGreat
open Go.Sy Go.Mb
set_option maxRecDepth 100000
set_option maxHeartbeats 4000000
def lookO : List (Nat × Ob) → Nat → Ob
 | [], _ => .dead
 | (k, o) :: os, i => match Nat.beq k i with | true => o | false => lookO os i
def mkO (os : List (Nat × Ob)) : Nat → Nat → List Ob
 | 0, _ => []
 | n + 1, i => lookO os i :: mkO os n (i + 1)
def rowAct (l : List Mb.Act) : Ob := .row 63 14 l.length (rowL Mb.Act.cells l)
def zB : Ob := .box [.int .i64 0, .int .i64 0, .bool false, .str .empty, .int .i64 0, .nils, .nils, .nils]
def wL (n : Nat) (x : Ob) (w : Wst) (e : Evt) : List Ob := mkO [(4, zB), (23, .box (wCells w e (.own 110))), (33, x), (110, rowAct w.acts)] n 0
theorem renW (σ : Nat → Nat) (w : Wst) (e : Evt) {j k : Nat} (h : σ j = k) : RenL σ (wCells w e (.own j)) (wCells w e (.own k)) := by
 subst h
 exact ⟨_, _, rfl, rfl, _, _, rfl, rfl, _, _, rfl, .inl rfl, _, _, rfl, rfl, _, _, rfl, rfl, _, _, rfl, rfl, _, _, rfl, rfl, _, _, rfl, rfl,
  _, _, rfl, rfl, _, _, rfl, rfl, _, _, rfl, rfl, _, _, rfl, rfl, _, _, rfl, rfl, _, _, rfl, rfl, _, _, rfl, rfl, _, _, rfl, rfl, _, _, rfl, rfl, _, _, rfl, rfl, _, _, rfl, rfl, _, _, rfl, .inl rfl, _, _, rfl, rfl, _, _, rfl, rfl, _, _, rfl, rfl, _, _, rfl, rfl, _, _, rfl, rfl, _, _, rfl, rfl, _, _, rfl, rfl, _, _, rfl, rfl, _, _, rfl, .inl rfl, _, _, rfl, rfl,
  _, _, rfl, rfl, _, _, rfl, rfl, rfl⟩
theorem renW2 (σ : Nat → Nat) {w : Wst} (w' : Wst) (e : Evt) (hw : w = w') {j k : Nat} (h : σ j = k) : RenL σ (wCells w e (.own j)) (wCells w' e (.own k)) := by subst hw; exact renW σ w e h
noncomputable def EZ : Env := { P := Tryz.prog, eqT := lookE eqTab, mu := [] }
theorem EZ_ok : EqOK EZ := eqOK_of eqTab_ok
noncomputable def CZ : Cx := { E := EZ, inl := [], ok := EZ_ok }
def wrK (w : Wst) (r : Jrec) : Nat → Wst
 | 0 => w
 | _ + 1 => ⟨(wr w.n r).1, w.acts, w.err⟩
theorem write_one (w : Wst) {l : List Jrec} (h : 0 < l.length) : w.write l = ⟨(wr w.n (l.getD 0 default)).1, w.acts, if (wr w.n (l.getD 0 default)).2 != 0 then (wr w.n (l.getD 0 default)).2 else w.err⟩ := by
 cases l with
 | nil => cases h
 | cons r l => rfl
theorem writeD_ok (w : Wst) (e : Evt) (l : List Jrec) (hl : l.length ≤ 1) (h1 : w.n.dur.items.length ≤ 900000) (h2 : w.n.dur.inbox.length ≤ 900000) (h3 : w.n.jour.size ≤ 100000) :
  FnIn Tryz.prog 173 [.ptr 23 0, slR l] (wL 165 (.dead) w e) 185 (.tup []) (putOs (takeO 185 (wL 165 (.dead) w e)) [(23, .box (wCells (w.write l) e (.own 110)))]) := by
 refine fn_in CZ rfl (by kernel_rfl) Tryz.func173 rfl ?_
 refine Sat.go (Eq.refl _) ?_
 refine NS.loop (σ := { k : Nat // k ≤ l.length ∧ (0 < k → (wr w.n (l.getD 0 default)).2 = 0) }) (fun k => [(0, .ptr 23 0), (9, slR l), (10, .int .i64 l.length), (11, .int .i64 k.1)]) (fun k => [(23, .box (wCells (wrK w (l.getD 0 default) k.1) e (.own 110)))]) (fun k => l.length - k.1) ⟨0, Nat.zero_le _, fun h => absurd h (Nat.lt_irrefl _)⟩ ?_ ?_
 ·exact weak_hd [] rfl ⟨rfl, rfl, rfl, rfl, trivial⟩ ⟨⟨_, rfl, renW _ _ _ rfl⟩, trivial⟩ (Pre_cut (by kernel_rfl)) (by kernel_rfl)
 rintro ⟨k, hk, hr⟩
 refine Sat.go (Eq.refl _) (NS.ite (fun h => ?_) (fun h => ?_))
 ·have h : k < l.length := by simpa using h
  obtain rfl : k = 0 := by omega
  have hw := write_one w (l := l) h
  refine Sat.go (Eq.refl _) (NS.need (by simp; omega) ?_)
  refine Sat.go (Eq.refl _) (NS.chk (by kernel_rfl) ?_)
  refine Sat.go (Eq.refl _) (NS.call ((append_ok w.n.jour [l.getD 0 default] (by omega) (by simp)).le (LeL.cons (LeA.refl _) (LeL.cons (LeA.sl rfl (row_one rfl)) LeL.nil))) rfl ?_)
  refine Sat.go (Eq.refl _) (NS.ite (fun q1 => ?_) (fun q1 => ?_))
  ·rw [show wr w.n (l.getD 0 default) = (w.n, 4) from if_pos q1] at hw
   exact Sat.go (Eq.refl _) (NS.leaveOut rfl (Eq.refl _) (NS.fin (ts := []) rfl (weak_hd [] rfl trivial ⟨⟨_, rfl, by rw [hw]; exact renW _ ⟨w.n, w.acts, 4⟩ e rfl⟩, trivial⟩ (Pre_cut (by kernel_rfl)) (by kernel_rfl)) rfl (LeA.refl _)))
  refine Sat.go (Eq.refl _) (NS.chk (by kernel_rfl) ?_)
  refine Sat.go (Eq.refl _) (NS.call (apply_ok w.n.dur (l.getD 0 default) (by omega) (by omega)) rfl ?_)
  refine Sat.go (Eq.refl _) (NS.ite (fun q2 => ?_) (fun q2 => ?_))
  ·rw [show wr w.n (l.getD 0 default) = (w.n, (applyM w.n.dur (l.getD 0 default)).2) from by unfold wr; rw [if_neg (by rw [q1]; decide), if_pos q2]] at hw
   rw [if_pos q2] at hw
   exact Sat.go (Eq.refl _) (NS.leaveOut rfl (Eq.refl _) (NS.fin (ts := []) rfl (weak_hd [] rfl trivial ⟨⟨_, rfl, by rw [hw]; exact renW _ ⟨w.n, w.acts, (applyM w.n.dur (l.getD 0 default)).2⟩ e rfl⟩, trivial⟩ (Pre_cut (by kernel_rfl)) (by kernel_rfl)) rfl (LeA.refl _)))
  have hwr : wr w.n (l.getD 0 default) = (wrN w.n (l.getD 0 default), 0) := by unfold wr; rw [if_neg (by rw [q1]; decide), if_neg (by rw [q2]; decide)]
  refine Sat.go (Eq.refl _) (NS.chk (by kernel_rfl) ?_)
  refine Sat.go (Eq.refl _) (NS.ite (fun q3 => ?_) (fun q3 => ?_))
  ·have hn : wrN w.n (l.getD 0 default) = { w.n with jour := bs (appM (ls w.n.jour) [l.getD 0 default]).1, dur := (applyM w.n.dur (l.getD 0 default)).1, last := ((bs (appM (ls w.n.jour) [l.getD 0 default]).1).size : Int) } := by unfold wrN; rw [show ((l.getD 0 default).kind == 1) = true from q3]; rfl
   rw [hn] at hwr
   refine Sat.go (Eq.refl _) (NS.next ⟨1, by omega, fun _ => by rw [hwr]⟩ (by show l.length - 1 < l.length - 0; omega) ?_)
   exact weak_hd [] rfl ⟨rfl, rfl, rfl, ren_int rfl (i64_k (k := 0) (by omega) (by omega)), trivial⟩ ⟨⟨_, rfl, renW2 _ ⟨{ w.n with jour := bs (appM (ls w.n.jour) [l.getD 0 default]).1, dur := (applyM w.n.dur (l.getD 0 default)).1, last := ((bs (appM (ls w.n.jour) [l.getD 0 default]).1).size : Int) }, w.acts, w.err⟩ e (by show (⟨(wr w.n (l.getD 0 default)).1, w.acts, w.err⟩ : Wst) = _; rw [hwr]) rfl⟩, trivial⟩ (Pre_cut (by kernel_rfl)) (by kernel_rfl)
  ·refine Sat.go (Eq.refl _) (NS.ite (fun q4 => ?_) (fun q4 => ?_))
   ·have hn : wrN w.n (l.getD 0 default) = { w.n with jour := bs (appM (ls w.n.jour) [l.getD 0 default]).1, dur := (applyM w.n.dur (l.getD 0 default)).1, last := ((bs (appM (ls w.n.jour) [l.getD 0 default]).1).size : Int) } := by unfold wrN; rw [show ((l.getD 0 default).kind == 1) = false from q3, show ((l.getD 0 default).kind == 3) = true from q4]; rfl
    rw [hn] at hwr
    refine Sat.go (Eq.refl _) (NS.next ⟨1, by omega, fun _ => by rw [hwr]⟩ (by show l.length - 1 < l.length - 0; omega) ?_)
    exact weak_hd [] rfl ⟨rfl, rfl, rfl, ren_int rfl (i64_k (k := 0) (by omega) (by omega)), trivial⟩ ⟨⟨_, rfl, renW2 _ ⟨{ w.n with jour := bs (appM (ls w.n.jour) [l.getD 0 default]).1, dur := (applyM w.n.dur (l.getD 0 default)).1, last := ((bs (appM (ls w.n.jour) [l.getD 0 default]).1).size : Int) }, w.acts, w.err⟩ e (by show (⟨(wr w.n (l.getD 0 default)).1, w.acts, w.err⟩ : Wst) = _; rw [hwr]) rfl⟩, trivial⟩ (Pre_cut (by kernel_rfl)) (by kernel_rfl)
   ·have hn : wrN w.n (l.getD 0 default) = { w.n with jour := bs (appM (ls w.n.jour) [l.getD 0 default]).1, dur := (applyM w.n.dur (l.getD 0 default)).1, last := w.n.last } := by unfold wrN; rw [show ((l.getD 0 default).kind == 1) = false from q3, show ((l.getD 0 default).kind == 3) = false from q4]; rfl
    rw [hn] at hwr
    refine Sat.go (Eq.refl _) (NS.next ⟨1, by omega, fun _ => by rw [hwr]⟩ (by show l.length - 1 < l.length - 0; omega) ?_)
    exact weak_hd [] rfl ⟨rfl, rfl, rfl, ren_int rfl (i64_k (k := 0) (by omega) (by omega)), trivial⟩ ⟨⟨_, rfl, renW2 _ ⟨{ w.n with jour := bs (appM (ls w.n.jour) [l.getD 0 default]).1, dur := (applyM w.n.dur (l.getD 0 default)).1, last := w.n.last }, w.acts, w.err⟩ e (by show (⟨(wr w.n (l.getD 0 default)).1, w.acts, w.err⟩ : Wst) = _; rw [hwr]) rfl⟩, trivial⟩ (Pre_cut (by kernel_rfl)) (by kernel_rfl)
 ·have h : ¬ k < l.length := by simpa using h
  obtain rfl : k = l.length := by omega
  refine Sat.go (Eq.refl _) (NS.leave rfl (Eq.refl _) ?_)
  rcases l with _ | ⟨r, _ | ⟨r2, l⟩⟩
  ·exact Sat.go (Eq.refl _) (NS.fin (ts := []) rfl (weak_hd [] rfl trivial ⟨⟨_, rfl, renW _ w e rfl⟩, trivial⟩ (Pre_cut (by kernel_rfl)) (by kernel_rfl)) rfl (LeA.refl _))
  ·have hr : (wr w.n r).2 = 0 := hr (by simp)
   have hw := write_one w (l := [r]) (by simp)
   rw [show (wr w.n ([r].getD 0 default)).2 = 0 from hr] at hw
   exact Sat.go (Eq.refl _) (NS.fin (ts := []) rfl (weak_hd [] rfl trivial ⟨⟨_, rfl, by rw [hw]; exact renW _ ⟨(wr w.n r).1, w.acts, w.err⟩ e rfl⟩, trivial⟩ (Pre_cut (by kernel_rfl)) (by kernel_rfl)) rfl (LeA.refl _))
  ·simp at hl
theorem writeP_ok (w : Wst) (e : Evt) (l : List Jrec) (hl : l.length ≤ 1) (h1 : w.n.dur.items.length ≤ 900000) (h2 : w.n.dur.inbox.length ≤ 900000) (h3 : w.n.jour.size ≤ 100000) :
  FnIn Tryz.prog 173 [.ptr 23 0, slR l] (wL 165 (.box [.ptr 23 0]) w e) 185 (.tup []) (putOs (takeO 185 (wL 165 (.box [.ptr 23 0]) w e)) [(23, .box (wCells (w.write l) e (.own 110)))]) := by
 refine fn_in CZ rfl (by kernel_rfl) Tryz.func173 rfl ?_
 refine Sat.go (Eq.refl _) ?_
 refine NS.loop (σ := { k : Nat // k ≤ l.length ∧ (0 < k → (wr w.n (l.getD 0 default)).2 = 0) }) (fun k => [(0, .ptr 23 0), (9, slR l), (10, .int .i64 l.length), (11, .int .i64 k.1)]) (fun k => [(23, .box (wCells (wrK w (l.getD 0 default) k.1) e (.own 110)))]) (fun k => l.length - k.1) ⟨0, Nat.zero_le _, fun h => absurd h (Nat.lt_irrefl _)⟩ ?_ ?_
 ·exact weak_hd [] rfl ⟨rfl, rfl, rfl, rfl, trivial⟩ ⟨⟨_, rfl, renW _ _ _ rfl⟩, trivial⟩ (Pre_cut (by kernel_rfl)) (by kernel_rfl)
 rintro ⟨k, hk, hr⟩
 refine Sat.go (Eq.refl _) (NS.ite (fun h => ?_) (fun h => ?_))
 ·have h : k < l.length := by simpa using h
  obtain rfl : k = 0 := by omega
  have hw := write_one w (l := l) h
  refine Sat.go (Eq.refl _) (NS.need (by simp; omega) ?_)
  refine Sat.go (Eq.refl _) (NS.chk (by kernel_rfl) ?_)
  refine Sat.go (Eq.refl _) (NS.call ((append_ok w.n.jour [l.getD 0 default] (by omega) (by simp)).le (LeL.cons (LeA.refl _) (LeL.cons (LeA.sl rfl (row_one rfl)) LeL.nil))) rfl ?_)
  refine Sat.go (Eq.refl _) (NS.ite (fun q1 => ?_) (fun q1 => ?_))
  ·rw [show wr w.n (l.getD 0 default) = (w.n, 4) from if_pos q1] at hw
   exact Sat.go (Eq.refl _) (NS.leaveOut rfl (Eq.refl _) (NS.fin (ts := []) rfl (weak_hd [] rfl trivial ⟨⟨_, rfl, by rw [hw]; exact renW _ ⟨w.n, w.acts, 4⟩ e rfl⟩, trivial⟩ (Pre_cut (by kernel_rfl)) (by kernel_rfl)) rfl (LeA.refl _)))
  refine Sat.go (Eq.refl _) (NS.chk (by kernel_rfl) ?_)
  refine Sat.go (Eq.refl _) (NS.call (apply_ok w.n.dur (l.getD 0 default) (by omega) (by omega)) rfl ?_)
  refine Sat.go (Eq.refl _) (NS.ite (fun q2 => ?_) (fun q2 => ?_))
  ·rw [show wr w.n (l.getD 0 default) = (w.n, (applyM w.n.dur (l.getD 0 default)).2) from by unfold wr; rw [if_neg (by rw [q1]; decide), if_pos q2]] at hw
   rw [if_pos q2] at hw
   exact Sat.go (Eq.refl _) (NS.leaveOut rfl (Eq.refl _) (NS.fin (ts := []) rfl (weak_hd [] rfl trivial ⟨⟨_, rfl, by rw [hw]; exact renW _ ⟨w.n, w.acts, (applyM w.n.dur (l.getD 0 default)).2⟩ e rfl⟩, trivial⟩ (Pre_cut (by kernel_rfl)) (by kernel_rfl)) rfl (LeA.refl _)))
  have hwr : wr w.n (l.getD 0 default) = (wrN w.n (l.getD 0 default), 0) := by unfold wr; rw [if_neg (by rw [q1]; decide), if_neg (by rw [q2]; decide)]
  refine Sat.go (Eq.refl _) (NS.chk (by kernel_rfl) ?_)
  refine Sat.go (Eq.refl _) (NS.ite (fun q3 => ?_) (fun q3 => ?_))
  ·have hn : wrN w.n (l.getD 0 default) = { w.n with jour := bs (appM (ls w.n.jour) [l.getD 0 default]).1, dur := (applyM w.n.dur (l.getD 0 default)).1, last := ((bs (appM (ls w.n.jour) [l.getD 0 default]).1).size : Int) } := by unfold wrN; rw [show ((l.getD 0 default).kind == 1) = true from q3]; rfl
   rw [hn] at hwr
   refine Sat.go (Eq.refl _) (NS.next ⟨1, by omega, fun _ => by rw [hwr]⟩ (by show l.length - 1 < l.length - 0; omega) ?_)
   exact weak_hd [] rfl ⟨rfl, rfl, rfl, ren_int rfl (i64_k (k := 0) (by omega) (by omega)), trivial⟩ ⟨⟨_, rfl, renW2 _ ⟨{ w.n with jour := bs (appM (ls w.n.jour) [l.getD 0 default]).1, dur := (applyM w.n.dur (l.getD 0 default)).1, last := ((bs (appM (ls w.n.jour) [l.getD 0 default]).1).size : Int) }, w.acts, w.err⟩ e (by show (⟨(wr w.n (l.getD 0 default)).1, w.acts, w.err⟩ : Wst) = _; rw [hwr]) rfl⟩, trivial⟩ (Pre_cut (by kernel_rfl)) (by kernel_rfl)
  ·refine Sat.go (Eq.refl _) (NS.ite (fun q4 => ?_) (fun q4 => ?_))
   ·have hn : wrN w.n (l.getD 0 default) = { w.n with jour := bs (appM (ls w.n.jour) [l.getD 0 default]).1, dur := (applyM w.n.dur (l.getD 0 default)).1, last := ((bs (appM (ls w.n.jour) [l.getD 0 default]).1).size : Int) } := by unfold wrN; rw [show ((l.getD 0 default).kind == 1) = false from q3, show ((l.getD 0 default).kind == 3) = true from q4]; rfl
    rw [hn] at hwr
    refine Sat.go (Eq.refl _) (NS.next ⟨1, by omega, fun _ => by rw [hwr]⟩ (by show l.length - 1 < l.length - 0; omega) ?_)
    exact weak_hd [] rfl ⟨rfl, rfl, rfl, ren_int rfl (i64_k (k := 0) (by omega) (by omega)), trivial⟩ ⟨⟨_, rfl, renW2 _ ⟨{ w.n with jour := bs (appM (ls w.n.jour) [l.getD 0 default]).1, dur := (applyM w.n.dur (l.getD 0 default)).1, last := ((bs (appM (ls w.n.jour) [l.getD 0 default]).1).size : Int) }, w.acts, w.err⟩ e (by show (⟨(wr w.n (l.getD 0 default)).1, w.acts, w.err⟩ : Wst) = _; rw [hwr]) rfl⟩, trivial⟩ (Pre_cut (by kernel_rfl)) (by kernel_rfl)
   ·have hn : wrN w.n (l.getD 0 default) = { w.n with jour := bs (appM (ls w.n.jour) [l.getD 0 default]).1, dur := (applyM w.n.dur (l.getD 0 default)).1, last := w.n.last } := by unfold wrN; rw [show ((l.getD 0 default).kind == 1) = false from q3, show ((l.getD 0 default).kind == 3) = false from q4]; rfl
    rw [hn] at hwr
    refine Sat.go (Eq.refl _) (NS.next ⟨1, by omega, fun _ => by rw [hwr]⟩ (by show l.length - 1 < l.length - 0; omega) ?_)
    exact weak_hd [] rfl ⟨rfl, rfl, rfl, ren_int rfl (i64_k (k := 0) (by omega) (by omega)), trivial⟩ ⟨⟨_, rfl, renW2 _ ⟨{ w.n with jour := bs (appM (ls w.n.jour) [l.getD 0 default]).1, dur := (applyM w.n.dur (l.getD 0 default)).1, last := w.n.last }, w.acts, w.err⟩ e (by show (⟨(wr w.n (l.getD 0 default)).1, w.acts, w.err⟩ : Wst) = _; rw [hwr]) rfl⟩, trivial⟩ (Pre_cut (by kernel_rfl)) (by kernel_rfl)
 ·have h : ¬ k < l.length := by simpa using h
  obtain rfl : k = l.length := by omega
  refine Sat.go (Eq.refl _) (NS.leave rfl (Eq.refl _) ?_)
  rcases l with _ | ⟨r, _ | ⟨r2, l⟩⟩
  ·exact Sat.go (Eq.refl _) (NS.fin (ts := []) rfl (weak_hd [] rfl trivial ⟨⟨_, rfl, renW _ w e rfl⟩, trivial⟩ (Pre_cut (by kernel_rfl)) (by kernel_rfl)) rfl (LeA.refl _))
  ·have hr : (wr w.n r).2 = 0 := hr (by simp)
   have hw := write_one w (l := [r]) (by simp)
   rw [show (wr w.n ([r].getD 0 default)).2 = 0 from hr] at hw
   exact Sat.go (Eq.refl _) (NS.fin (ts := []) rfl (weak_hd [] rfl trivial ⟨⟨_, rfl, by rw [hw]; exact renW _ ⟨(wr w.n r).1, w.acts, w.err⟩ e rfl⟩, trivial⟩ (Pre_cut (by kernel_rfl)) (by kernel_rfl)) rfl (LeA.refl _))
  ·simp at hl
end Go.Proofs.YtggjngbighkdgaaGreat

namespace Go.Mb
open Go.Sy
section
variable {α : Type} [Inhabited α]
theorem filter_snocG {p : α → Bool} {l : List α} {k : Nat} (h : k < l.length) : (l.take (k + 1)).filter p = (l.take k).filter p ++ (if p (l.getD k default) then [l.getD k default] else []) := by
 rw [take_snoc h, List.filter_append, List.filter_cons]
 split <;> simp
def keepG (p : α → Bool) (l : List α) : List α := l.filter fun x => !p x
def DelG (p : α → Bool) (l L : List α) (j : Nat) : Prop :=
 L.length = l.length ∧ j ≤ l.length ∧ L.take (keepG p (l.take j)).length = keepG p (l.take j) ∧ ∀ q, j ≤ q → q < l.length → L.getD q default = l.getD q default
theorem keepG_le (p : α → Bool) (l : List α) (j : Nat) : (keepG p (l.take j)).length ≤ j := Nat.le_trans (List.length_filter_le _ _) (by simp; omega)
theorem keepG_snoc {p : α → Bool} {l : List α} {j : Nat} (h : j < l.length) : keepG p (l.take (j + 1)) = keepG p (l.take j) ++ (if p (l.getD j default) then [] else [l.getD j default]) := by
 unfold keepG
 rw [filter_snocG h]
 cases p (l.getD j default) <;> rfl
theorem delG_start {p : α → Bool} {l : List α} {k : Nat} (hk : k < l.length) (hp : p (l.getD k default) = true) (hn : ∀ i, i < k → p (l.getD i default) = false) : DelG p l l (k + 1) ∧ (keepG p (l.take (k + 1))).length = k := by
 have h1 : keepG p (l.take k) = l.take k := by
  unfold keepG
  rw [List.filter_eq_self]
  intro x hx
  obtain ⟨i, hi, rfl⟩ := List.getElem_of_mem hx
  have hik : i < k := by simp at hi; omega
  have := hn i hik
  rw [getD_lt (by omega)] at this
  rw [List.getElem_take, this]; rfl
 have h2 : keepG p (l.take (k + 1)) = l.take k := by rw [keepG_snoc hk, if_pos hp, h1]; simp
 have h3 : (keepG p (l.take (k + 1))).length = k := by rw [h2]; simp; omega
 exact ⟨⟨rfl, hk, by rw [h3, h2], fun _ _ _ => rfl⟩, h3⟩
theorem delG_keep {p : α → Bool} {l L : List α} {j : Nat} (h : DelG p l L j) (hj : j < l.length) (hp : p (l.getD j default) = false) : DelG p l (L.set (keepG p (l.take j)).length (l.getD j default)) (j + 1) := by
 obtain ⟨h1, h2, h3, h4⟩ := h
 have hle := keepG_le p l j
 have hs : keepG p (l.take (j + 1)) = keepG p (l.take j) ++ [l.getD j default] := by rw [keepG_snoc hj, hp]; rfl
 refine ⟨by simp [h1], hj, ?_, fun q hq hql => ?_⟩
 ·rw [hs, List.length_append, List.length_singleton, take_snoc (by simp; omega), getD_setG _ _ _ _ (by omega), if_pos rfl, List.take_set_of_le (Nat.le_refl _), h3]
 ·rw [getD_setG _ _ _ _ (by omega), if_neg (by omega)]
  exact h4 q (by omega) hql
theorem delG_drop {p : α → Bool} {l L : List α} {j : Nat} (h : DelG p l L j) (hj : j < l.length) (hp : p (l.getD j default) = true) : DelG p l L (j + 1) ∧ keepG p (l.take (j + 1)) = keepG p (l.take j) := by
 obtain ⟨h1, h2, h3, h4⟩ := h
 have hs : keepG p (l.take (j + 1)) = keepG p (l.take j) := by rw [keepG_snoc hj, hp]; simp
 exact ⟨⟨h1, hj, by rw [hs]; exact h3, fun q hq hql => h4 q (by omega) hql⟩, hs⟩
theorem delG_end {p : α → Bool} {l L : List α} (h : DelG p l L l.length) : ∀ q, q < (keepG p l).length → L.getD q default = (keepG p l).getD q default := by
 obtain ⟨h1, h2, h3, h4⟩ := h
 rw [List.take_length] at h3
 have hle : (keepG p l).length ≤ l.length := List.length_filter_le _ _
 intro q hq
 rw [getD_lt (by omega), getD_lt hq]
 have : (L.take (keepG p l).length)[q]'(by simp; omega) = (keepG p l)[q] := by congr 1
 rw [← this, List.getElem_take]
theorem keepG_lt {p : α → Bool} {l : List α} {k : Nat} (hk : k < l.length) (hp : p (l.getD k default) = true) : (keepG p l).length < l.length := by
 unfold keepG
 rw [List.length_filter_lt_length_iff_exists]
 exact ⟨l.getD k default, by rw [getD_lt hk]; exact List.getElem_mem hk, by rw [hp]; simp⟩
theorem keepG_none {p : α → Bool} {l : List α} (h : ∀ x ∈ l, p x = false) : keepG p l = l := by
 unfold keepG
 rw [List.filter_eq_self]
 intro x hx
 rw [h x hx]; rfl
end
end Go.Mb

namespace Go.Proofs.YtggjngbighkdgaaGreat
open Go.Sy Go.Mb
set_option maxRecDepth 100000
set_option maxHeartbeats 4000000
def rowOf (l : List Ofr) : Ob := .row 67 8 l.length (rowL Ofr.cells l)
def wD (L : List Ofr) (w : Wst) (e : Evt) : List Ob := mkO [(4, zB), (23, .box (wCells w e (.own 110))), (110, rowAct w.acts), (171, rowOf L)] 181 0
theorem delO_ok (w : Wst) (e : Evt) (L : List Ofr) (hL : L.length ≤ 1000) (f c : Nat) (el : Nat → A) (p : Ofr → Bool) (hc : ∀ x, FnOK Tryz.prog f [.agg (Ofr.cells x), .ip c el] (.bool (p x), none)) :
  FnIn Tryz.prog 225 [.own 171, .fn f [.ip c el]] (wD L w e) 181 (slOfr (keepG p L)) (putOs (takeO 181 (wD L w e)) [(171, .dead)]) := by
 refine fn_in CZ rfl (by kernel_rfl) Tryz.func225 rfl ?_
 refine Sat.go (Eq.refl _) (NS.call (idxO_ok L (by omega) f c el p hc) rfl ?_)
 rcases idx_cases p L with ⟨h1, h2⟩ | ⟨k, hk, e, hpk, hnk⟩
 ·refine Sat.go (Eq.refl _) (NS.yes (by rw [h1]; rfl) ?_)
  refine Sat.go (Eq.refl _) (NS.fin (ts := [(4, .sl 8 L.length (rowL Ofr.cells L))]) rfl ((frzX 4 171 300 (by kernel_rfl) rfl).weak.trans (weak_hd [] rfl ⟨rfl, trivial⟩ ⟨rfl, trivial⟩ (Pre_cut (by kernel_rfl)) (by kernel_rfl))) rfl ?_)
  rw [keepG_none h2]
  exact LeA.refl _
 ·refine Sat.go (Eq.refl _) (NS.no (by rw [e]; simp) ?_)
  obtain ⟨hi0, hl0⟩ := delG_start hk hpk hnk
  refine Sat.go (Eq.refl _) ?_
  refine NS.loop (σ := { q : Nat × List Ofr // DelG p L q.2 q.1 }) (fun q => [(0, .own 171), (1, .fn f [.ip c el]), (5, .int .i64 (keepG p (L.take q.1.1)).length), (6, .int .i64 q.1.1)]) (fun q => [(171, .row 67 8 q.1.2.length (rowL Ofr.cells q.1.2))]) (fun q => L.length - q.1.1) ⟨(k + 1, L), hi0⟩ ?_ ?_
  ·exact weak_hd [] rfl ⟨rfl, rfl, ren_int rfl (by rw [e]; show (k : Int) = ((keepG p (L.take (k + 1))).length : Int); rw [hl0]), ren_int rfl (by rw [e, wrap_i64 (by omega) (by omega)]; rfl), trivial⟩ ⟨ren_row rfl rfl fun _ _ _ _ => rfl, trivial⟩ (Pre_cut (by kernel_rfl)) (by kernel_rfl)
  rintro ⟨⟨j, M⟩, hi⟩
  have hi : DelG p L M j := hi
  have hle := keepG_le p L j
  have hM := hi.1
  have hj := hi.2.1
  refine Sat.go (Eq.refl _) (NS.ite (fun a => ?_) (fun a => ?_))
  ·have a : j < L.length := by have a : decide ((j : Int) < (M.length : Int)) = true := a; have := of_decide_eq_true a; omega
   have hMj := hi.2.2.2 j (Nat.le_refl _) a
   repeat' (first | (refine Sat.go (Eq.refl _) (NS.chk (by kernel_rfl) ?_)) | (refine Sat.go (Eq.refl _) (NS.need (by show decide (0 ≤ (j : Int) ∧ (j : Int) < (M.length : Int)) = true; exact decide_eq_true (by omega)) ?_)) | (refine Sat.go (Eq.refl _) (NS.need (by show decide (((j : Nat) : Int).toNat < M.length) = true; exact decide_eq_true (by omega)) ?_)))
   refine Sat.go (Eq.refl _) (NS.call (hc (M.getD j default)) rfl ?_)
   refine Sat.go (Eq.refl _) (NS.ite (fun h3 => ?_) (fun h3 => ?_))
   ·have hpj : p (L.getD j default) = false := by rw [← hMj]; exact not_t h3
    have hnx := delG_keep hi a hpj
    repeat' (first | (refine Sat.go (Eq.refl _) (NS.chk (by kernel_rfl) ?_)) | (refine Sat.go (Eq.refl _) (NS.need (by show decide (0 ≤ ((keepG p (L.take j)).length : Int) ∧ ((keepG p (L.take j)).length : Int) < (M.length : Int)) = true; exact decide_eq_true (by omega)) ?_)) | (refine Sat.go (Eq.refl _) (NS.need (by show decide ((((keepG p (L.take j)).length : Nat) : Int).toNat < M.length) = true; exact decide_eq_true (by omega)) ?_)))
    refine Sat.go (Eq.refl _) (NS.next ⟨(j + 1, M.set (keepG p (L.take j)).length (L.getD j default)), hnx⟩ (by show L.length - (j + 1) < L.length - j; omega) ?_)
    refine weak_hd [] rfl ⟨rfl, rfl, ren_int rfl ?_, ren_int rfl (i64_k (k := j) (n := L.length) a (by omega)), trivial⟩ ⟨ren_row rfl (by simp) (fun q hq jj hjj => ?_), trivial⟩ (Pre_cut (by kernel_rfl)) (by kernel_rfl)
    ·show IntKind.i64.wrap (((keepG p (L.take j)).length : Int) + 1) = ((keepG p (L.take (j + 1))).length : Int)
     rw [wrap_i64 (by omega) (by omega), keepG_snoc a, hpj]; simp
    ·have hrs := row_setG (cells := Ofr.cells) (c := 8) M (keepG p (L.take j)).length (M.getD j default) (by omega) q jj hjj
     have hset : M.set (keepG p (L.take j)).length (M.getD j default) = M.set (keepG p (L.take j)).length (L.getD j default) := by rw [hMj]
     show _ = rowL Ofr.cells (M.set (keepG p (L.take j)).length (L.getD j default)) q jj
     rw [← hset]
     exact hrs
   ·have hpj : p (L.getD j default) = true := by rw [← hMj]; exact not_f h3
    obtain ⟨hnx, hsame⟩ := delG_drop hi a hpj
    refine Sat.go (Eq.refl _) (NS.next ⟨(j + 1, M), hnx⟩ (by show L.length - (j + 1) < L.length - j; omega) ?_)
    exact weak_hd [] rfl ⟨rfl, rfl, ren_int rfl (by show ((keepG p (L.take j)).length : Int) = ((keepG p (L.take (j + 1))).length : Int); rw [hsame]), ren_int rfl (i64_k (k := j) (n := L.length) a (by omega)), trivial⟩ ⟨ren_row rfl rfl (fun _ _ _ _ => rfl), trivial⟩ (Pre_cut (by kernel_rfl)) (by kernel_rfl)
  have a : j = L.length := by have a : decide ((j : Int) < (M.length : Int)) = false := a; have := of_decide_eq_false a; omega
  subst a
  have hend := delG_end hi
  have hlt := keepG_lt hk hpk
  have hkk : (keepG p (L.take L.length)).length = (keepG p L).length := by rw [List.take_length]
  refine Sat.go (Eq.refl _) (NS.leave rfl (Eq.refl _) ?_)
  refine Sat.go (Eq.refl _) (NS.need (decide_eq_true ⟨by omega, by show ((keepG p (L.take L.length)).length : Int) ≤ (M.length : Int); omega, by show (M.length : Int) ≤ (M.length : Int); omega⟩) ?_)
  refine Sat.go (Eq.refl _) (NS.need (decide_eq_true (by show 0 < ((M.length : Int) - ((keepG p (L.take L.length)).length : Int)).toNat; omega)) ?_)
  refine Sat.go (Eq.refl _) (NS.need (decide_eq_true (by show (0 : Int) ≤ 0 ∧ (0 : Int) ≤ ((keepG p (L.take L.length)).length : Int) ∧ ((keepG p (L.take L.length)).length : Int) ≤ (M.length : Int); omega)) ?_)
  have hv1 : (((keepG p (L.take L.length)).length : Int) - 0).toNat = (keepG p L).length := by rw [hkk]; omega
  have hv2 : ∀ i, i < (((keepG p (L.take L.length)).length : Int) - 0).toNat → ∀ jj, jj < 8 → ∀ a : A, (if ((keepG p (L.take L.length)).length : Int).toNat ≤ (0 : Int).toNat + i ∧ (0 : Int).toNat + i < ((keepG p (L.take L.length)).length : Int).toNat + ((M.length : Int) - ((keepG p (L.take L.length)).length : Int)).toNat then a else rowL Ofr.cells M ((0 : Int).toNat + i) jj) = rowL Ofr.cells (keepG p L) i jj := by
   intro i hi jj hjj a
   rw [if_neg (by omega), show (0 : Int).toNat + i = i by omega]
   unfold rowL
   rw [hend i (by omega)]
  refine Sat.go (Eq.refl _) (NS.fin (ts := [(4, slOfr (keepG p L))]) rfl ((frzX 4 171 300 (by kernel_rfl) rfl).weak.trans ((weak_slot 4 (x := slOfr (keepG p L)) ?_).trans (weak_hd [] rfl ⟨rfl, trivial⟩ ⟨rfl, trivial⟩ (Pre_cut (by kernel_rfl)) (by kernel_rfl)))) rfl (LeA.refl _))
  exact LeA.sl hv1 fun i hi j hj => hv2 i hi j hj _
end Go.Proofs.YtggjngbighkdgaaGreat

namespace Go.Proofs.YtggjngbighkdgaaGreat
open Go.Sy Go.Mb
set_option maxRecDepth 100000
set_option maxHeartbeats 4000000
noncomputable def ER : Env := { P := Tryz.prog, eqT := lookE eqTab, mu := [173, 225], frz := [13] }
theorem ER_ok : EqOK ER := eqOK_of eqTab_ok
noncomputable def CR : Cx := { E := ER, inl := [174], ok := ER_ok }
theorem wr_ofs (n : Nod) (r : Jrec) : (wr n r).1.ofs = n.ofs := by
 unfold wr
 split
 ·rfl
 ·split
  ·rfl
  ·rfl
theorem rem1O_ok (x : Itm) (o : Ofr) : FnOK Tryz.prog 226 [.agg o.cells, .ip 11 (getA x.cells)] (.bool (ofId x.id o), none) := by
 refine fn_ok CF rfl (by kernel_rfl) Tryz.func226 rfl ?_
 exact Sat.go (Eq.refl _) (NS.ret rfl rfl (LeA.refl _))
theorem remove_ok (w : Wst) (e : Evt) (x : Itm) (h1 : w.n.dur.items.length ≤ 900000) (h2 : w.n.dur.inbox.length ≤ 900000) (h3 : w.n.jour.size ≤ 100000) (h4 : w.n.ofs.length ≤ 1000) (h5 : w.acts.length ≤ 1000000) :
  FnIn Tryz.prog 179 [.ptr 23 0, .agg x.cells] (wL 150 .dead w e) 150 (.tup []) (putOs (takeO 150 (wL 150 .dead w e)) [(23, .box (wCells (w.remove e.time x) e (.own 160))), (110, .dead), (160, rowAct (w.remove e.time x).acts)]) := by
 refine fn_in CR rfl (by kernel_rfl) Tryz.func179 rfl ?_
 refine Sat.go (Eq.refl _) (NS.chk (by kernel_rfl) ?_)
 refine Sat.go (Eq.refl _) (NS.inn (P := Tryz.prog) (vals := [.ptr 23 0, slR [⟨2, .zero, x.id, 0, e.time⟩]]) (objs1 := wL 165 .dead w e) ((frzP 3 153 11 rfl rfl rfl rfl).trans (WeakL.keep 165 [4, 23, 110] (by kernel_rfl))) (by kernel_rfl) (LeL.cons (LeA.refl _) (LeL.cons (LeA.sl rfl (row_one rfl)) LeL.nil)) (by kernel_rfl) (writeD_ok w e [⟨2, .zero, x.id, 0, e.time⟩] (by simp) h1 h2 h3) rfl ?_)
 have hofs : (w.write [⟨2, .zero, x.id, 0, e.time⟩]).n.ofs = w.n.ofs := wr_ofs _ _
 refine Sat.go (Eq.refl _) (NS.call (cloneO_ok (w.write [⟨2, .zero, x.id, 0, e.time⟩]).n.ofs (by rw [hofs]; omega)) rfl ?_)
 refine Sat.go (Eq.refl _) (NS.inn (P := Tryz.prog) (vals := [.own 171, .fn 226 [.ip 11 (getA x.cells)]]) (objs1 := wD (w.write [⟨2, .zero, x.id, 0, e.time⟩]).n.ofs (w.write [⟨2, .zero, x.id, 0, e.time⟩]) e) (WeakL.keep 181 [4, 23, 110, 171] (by kernel_rfl)) (by kernel_rfl) (LeL.refl _) (by kernel_rfl) (delO_ok (w.write [⟨2, .zero, x.id, 0, e.time⟩]) e _ (by rw [hofs]; omega) 226 11 (getA x.cells) (ofId x.id) (rem1O_ok x)) rfl ?_)
 refine Sat.go (Eq.refl _) (NS.chk (by kernel_rfl) ?_)
 refine Sat.go (Eq.refl _) (NS.need (decide_eq_true (by simp only [maxRow]; show (w.acts.length + 1) * _ ≤ _; omega)) ?_)
 refine Sat.go (Eq.refl _) (NS.fin (ts := []) rfl (weak_hd [(160, 192)] rfl trivial ⟨⟨_, rfl, renW _ (w.remove e.time x) e rfl⟩, rfl, ren_row rfl (by show w.acts.length + 1 = (w.acts ++ [_]).length; simp) (fun i hi j hj => ?_), trivial⟩ (Pre_cut (by kernel_rfl)) (by kernel_rfl)) rfl (LeA.refl _))
 have hi : i < w.acts.length + 1 := by have hi : i < (w.acts ++ [_]).length := hi; simpa using hi
 exact row_snoc (cells := Mb.Act.cells) (x := ⟨5, x, 0, 0⟩) rfl i hi j hj
end Go.Proofs.YtggjngbighkdgaaGreat

namespace Go.Proofs.YtggjngbighkdgaaGreat
open Go.Sy Go.Mb
set_option maxRecDepth 100000
set_option maxHeartbeats 4000000
theorem appM_le {s : List Nat} {l : List Jrec} (h : (appM s l).2 = 0) : (appM s l).1.length ≤ 65536 := by
 unfold appM at h ⊢
 split
 ·rename_i q; rw [if_pos q] at h; exact Nat.zero_le _
 ·rename_i q
  rw [if_neg q] at h
  split
  ·rename_i q2; rw [if_pos q2] at h; cases h
  ·rename_i q2
   have : ¬ (appJ s l).1.length > 65536 := fun q3 => q2 (decide_eq_true q3)
   show (appJ s l).1.length ≤ 65536
   omega
theorem wr_sz (n : Nod) (r : Jrec) : (wr n r).1.dur.items.length ≤ n.dur.items.length + (if r.kind = 1 then 1 else 0) ∧ (wr n r).1.dur.inbox.length ≤ n.dur.inbox.length + (if r.kind = 3 then 1 else 0) ∧ ((wr n r).1.jour.size ≤ 65536 ∨ (wr n r).1.jour = n.jour) ∧ (wr n r).1.ofs = n.ofs := by
 unfold wr
 split
 ·exact ⟨by simp only; omega, by simp only; omega, .inr rfl, rfl⟩
 ·rename_i h1
  split
  ·exact ⟨by simp only; omega, by simp only; omega, .inr rfl, rfl⟩
  ·rename_i h2
   have h1 : (appM (ls n.jour) [r]).2 = 0 := by simpa using h1
   have hw : ∀ (l : List Itm) (x : Itm), (withM l x).length ≤ l.length + 1 := by
    intro l x; unfold withM; split <;> simp
   have hd : (applyM n.dur r).1 = effM n.dur r := by
    unfold applyM at h2 ⊢
    split
    ·rename_i q; rw [if_pos q] at h2; exact absurd rfl h2
    ·rfl
   refine ⟨?_, ?_, .inl ?_, rfl⟩
   ·show (applyM n.dur r).1.items.length ≤ _
    rw [hd]
    unfold effM
    split
    ·exact hw _ _
    ·split
     ·exact List.length_filter_le _ _
     ·split
      ·exact Nat.le_refl _
      ·split
       ·show (setTick n.dur.items r.id r.ticket).length ≤ _
        have := congrArg List.length (show (setTick n.dur.items r.id r.ticket).map Itm.id = n.dur.items.map Itm.id by
         unfold setTick
         split
         ·exact map_modify_id _ _ _
         ·rfl)
        simp only [List.length_map] at this
        omega
       ·exact Nat.le_refl _
   ·show (applyM n.dur r).1.inbox.length ≤ _
    rw [hd]
    unfold effM
    repeat' split
    all_goals first | exact hw _ _ | exact Nat.le_refl _ | exact Nat.le_add_right _ _ | omega
   ·show (bs _).size ≤ _
    rw [bs_len]
    exact appM_le h1
def Sz (w : Wst) (a : Nat) : Prop := w.n.dur.items.length ≤ 200000 ∧ w.n.dur.inbox.length ≤ 200000 ∧ w.n.jour.size ≤ 100000 ∧ w.n.ofs.length ≤ 1000 ∧ w.acts.length ≤ a
theorem Sz.remove {w : Wst} {a : Nat} (h : Sz w a) (t : Int) (x : Itm) : Sz (w.remove t x) (a + 1) := by
 obtain ⟨h1, h2, h3, h4, h5⟩ := h
 obtain ⟨k1, k2, k3, k4⟩ := wr_sz w.n ⟨2, .zero, x.id, 0, t⟩
 refine ⟨?_, ?_, ?_, ?_, ?_⟩
 ·show (wr w.n ⟨2, .zero, x.id, 0, t⟩).1.dur.items.length ≤ _
  have : (wr w.n ⟨2, .zero, x.id, 0, t⟩).1.dur.items.length ≤ w.n.dur.items.length + 0 := k1
  omega
 ·show (wr w.n ⟨2, .zero, x.id, 0, t⟩).1.dur.inbox.length ≤ _
  have : (wr w.n ⟨2, .zero, x.id, 0, t⟩).1.dur.inbox.length ≤ w.n.dur.inbox.length + 0 := k2
  omega
 ·show (wr w.n ⟨2, .zero, x.id, 0, t⟩).1.jour.size ≤ _
  rcases k3 with k3 | k3
  ·omega
  ·rw [k3]; exact h3
 ·show (((wr w.n ⟨2, .zero, x.id, 0, t⟩).1.ofs.filter _)).length ≤ _
  rw [k4]
  exact Nat.le_trans (List.length_filter_le _ _) h4
 ·show (w.acts ++ [_]).length ≤ _
  simp; exact h5
theorem Sz.le {w : Wst} {a b : Nat} (h : Sz w a) (hab : a ≤ b) : Sz w b := ⟨h.1, h.2.1, h.2.2.1, h.2.2.2.1, Nat.le_trans h.2.2.2.2 hab⟩
theorem Sz.settle {w : Wst} {a : Nat} (h : Sz w a) (t : Int) (id : Nid) (s b : Bool) : Sz (w.settle t id s b) (a + 1) := by
 unfold Wst.settle
 split
 ·exact h.le (by omega)
 ·split
  ·obtain ⟨h1, h2, h3, h4, h5⟩ := h
   exact ⟨h1, h2, h3, h4, by show (w.acts ++ [_]).length ≤ _; simp; exact h5⟩
  ·exact h.remove _ _
noncomputable def EST : Env := { P := Tryz.prog, eqT := lookE eqTab, mu := [179] }
theorem EST_ok : EqOK EST := eqOK_of eqTab_ok
noncomputable def CST : Cx := { E := EST, inl := [174], ok := EST_ok }
theorem settle_ok (w : Wst) (e : Evt) (id : Nid) (s a : Bool) (hz : Sz w 1000000) :
  FnIn Tryz.prog 177 [.ptr 23 0, .agg id.cells, .bool s, .bool a] (wL 111 .dead w e) 111 (.tup []) (putOs (takeO 111 (wL 111 .dead w e)) [(23, .box (wCells (w.settle e.time id s a) e (.own 120))), (110, .dead), (120, rowAct (w.settle e.time id s a).acts)]) := by
 obtain ⟨h1, h2, h3, h4, h5⟩ := hz
 refine fn_in CST rfl (by kernel_rfl) Tryz.func177 rfl ?_
 refine Sat.go (Eq.refl _) (NS.chk (by kernel_rfl) ?_)
 refine Sat.go (Eq.refl _) (NS.call (find_ok w.n.dur id (by omega)) rfl ?_)
 refine Sat.go (Eq.refl _) (NS.ite (fun q1 => ?_) (fun q1 => ?_))
 ·have hs : w.settle e.time id s a = w := if_pos q1
  rw [hs]
  refine Sat.go (Eq.refl _) (NS.fin (ts := []) rfl ((moveB 23 30 110 120 rfl rfl rfl rfl).weak.trans (weak_hd [] rfl trivial ⟨⟨_, rfl, renW _ w e rfl⟩, rfl, ren_row rfl rfl fun _ _ _ _ => rfl, trivial⟩ (Pre_cut (by kernel_rfl)) (by kernel_rfl))) rfl (LeA.refl _))
 ·refine Sat.go (Eq.refl _) (NS.call (decide_ok (findM w.n.dur id).1.custody s a) rfl ?_)
  refine Sat.go (Eq.refl _) (NS.ite (fun q2 => ?_) (fun q2 => ?_))
  ·have hs : w.settle e.time id s a = w.act ⟨4, (findM w.n.dur id).1, 0, 0⟩ := by unfold Wst.settle; rw [if_neg (by rw [q1]; decide), if_pos q2]
   rw [hs]
   refine Sat.go (Eq.refl _) (NS.chk (by kernel_rfl) ?_)
   refine Sat.go (Eq.refl _) (NS.need (decide_eq_true (by simp only [maxRow]; show (w.acts.length + 1) * _ ≤ _; omega)) ?_)
   refine Sat.go (Eq.refl _) (NS.fin (ts := []) rfl (weak_hd [(120, 157)] rfl trivial ⟨⟨_, rfl, renW _ (w.act ⟨4, (findM w.n.dur id).1, 0, 0⟩) e rfl⟩, rfl, ren_row rfl (by show w.acts.length + 1 = (w.acts ++ [_]).length; simp) (fun i hi j hj => ?_), trivial⟩ (Pre_cut (by kernel_rfl)) (by kernel_rfl)) rfl (LeA.refl _))
   have hi : i < w.acts.length + 1 := by have hi : i < (w.acts ++ [_]).length := hi; simpa using hi
   exact row_snoc (cells := Mb.Act.cells) (x := ⟨4, (findM w.n.dur id).1, 0, 0⟩) rfl i hi j hj
  ·have hs : w.settle e.time id s a = w.remove e.time (findM w.n.dur id).1 := by unfold Wst.settle; rw [if_neg (by rw [q1]; decide), if_neg (by rw [q2]; decide)]
   rw [hs]
   refine Sat.go (Eq.refl _) (NS.inn (P := Tryz.prog) (vals := [.ptr 23 0, .agg (findM w.n.dur id).1.cells]) (objs1 := wL 150 .dead w e) (WeakL.keep 150 [4, 23, 110] (by kernel_rfl)) (by kernel_rfl) (LeL.refl _) (by kernel_rfl) (remove_ok w e _ (by omega) (by omega) (by omega) (by omega) (by omega)) rfl ?_)
   exact Sat.go (Eq.refl _) (NS.fin (ts := []) rfl (weak_hd [(120, 160)] rfl trivial ⟨⟨_, rfl, renW _ (w.remove e.time (findM w.n.dur id).1) e rfl⟩, rfl, ren_row rfl rfl (fun _ _ _ _ => rfl), trivial⟩ (Pre_cut (by kernel_rfl)) (by kernel_rfl)) rfl (LeA.refl _))
end Go.Proofs.YtggjngbighkdgaaGreat

namespace Go.Proofs.YtggjngbighkdgaaGreat
open Go.Sy Go.Mb
set_option maxRecDepth 100000
set_option maxHeartbeats 4000000
noncomputable def EH : Env := { P := Tryz.prog, eqT := lookE eqTab, mu := [173, 179, 177], frz := [36] }
theorem EH_ok : EqOK EH := eqOK_of eqTab_ok
noncomputable def CH : Cx := { E := EH, inl := [174], ok := EH_ok }
def wH (w : Wst) (e : Evt) : List Ob := mkO [(4, zB), (23, .box (wCells w e .nils))] 32 0
def wE (w w' : Wst) (e : Evt) : List Ob := putOs (takeO 32 (wH w e)) [(23, .box (wCells w' e (slAct w'.acts)))]
theorem hfin (n : Nat) (w w' : Wst) (e : Evt) : Weak 32 (hd 32 (wH w e) n [] [(23, .box (wCells w' e (.own 120))), (120, rowAct w'.acts)]) (hd 32 (wH w e) n [] [(23, .box (wCells w' e (slAct w'.acts)))]) := by
 refine (frzXB 23 30 120 121 (by kernel_rfl) rfl (by decide) rfl).weak.trans ?_
 refine weak_hd [] (by simp [hd, length_spread]) trivial ⟨⟨_, rfl, ?_⟩, trivial⟩ (Pre_cut (by kernel_rfl)) (by kernel_rfl)
 exact ⟨_, _, rfl, rfl, _, _, rfl, rfl, _, _, rfl, .inl rfl, _, _, rfl, rfl, _, _, rfl, rfl, _, _, rfl, rfl, _, _, rfl, rfl, _, _, rfl, rfl,
  _, _, rfl, rfl, _, _, rfl, rfl, _, _, rfl, rfl, _, _, rfl, rfl, _, _, rfl, rfl, _, _, rfl, rfl, _, _, rfl, rfl, _, _, rfl, rfl, _, _, rfl, rfl, _, _, rfl, rfl, _, _, rfl, rfl, _, _, rfl, .inl rfl, _, _, rfl, rfl, _, _, rfl, rfl, _, _, rfl, rfl, _, _, rfl, rfl, _, _, rfl, rfl, _, _, rfl, rfl, _, _, rfl, rfl, _, _, rfl, rfl, _, _, rfl, .inl rfl, _, _, rfl, rfl,
  _, _, rfl, rfl, _, _, rfl, rfl, rfl⟩
theorem signalM_len (l : List Ofr) (x : Nid) (c : Int) : (signalM l x c).1.length ≤ l.length := by
 unfold signalM
 repeat' split
 ·exact Nat.zero_le _
 ·exact Nat.le_refl _
 ·exact List.length_filter_le _ _
theorem signalW_ok (w : Wst) (e : Evt) (ha : w.acts = []) (hz : Sz w 0) : FnIn Tryz.prog 112 [.ptr 23 0] (wH w e) 32 (.tup []) (wE w (signalW w e) e) := by
 obtain ⟨n, acts, err⟩ := w
 obtain rfl : acts = [] := ha
 obtain ⟨h1, h2, h3, h4, h5⟩ := hz
 refine fn_in CH rfl (by kernel_rfl) Tryz.func112 rfl ?_
 rw [forceSt_eq]
 refine Sat.wk (weak_promoteB 23 30 110 63 14 (rowL Mb.Act.cells []) rfl rfl rfl) ?_
 refine Sat.go (Eq.refl _) (NS.chk (by kernel_rfl) ?_)
 refine Sat.go (Eq.refl _) (NS.call (signal_ok n.ofs e.id e.contact) rfl ?_)
 refine Sat.go (Eq.refl _) (NS.ite (fun q1 => ?_) (fun q1 => ?_))
 ·rw [show signalW ⟨n, [], err⟩ e = ⟨n, [], err⟩ from if_pos q1]
  refine Sat.go (Eq.refl _) (NS.fin (ts := []) rfl ((weak_hd (ts := []) (os := [(23, .box (wCells (⟨n, [], err⟩) e (.own 120))), (120, rowAct (⟨n, [], err⟩ : Wst).acts)]) (objs0 := wH ⟨n, [], err⟩ e) [(120, 110)] rfl trivial ⟨⟨_, rfl, renW _ (⟨n, [], err⟩) e rfl⟩, ren_row rfl rfl fun _ _ _ _ => rfl, trivial⟩ (Pre_cut (by kernel_rfl)) (by kernel_rfl)).trans (hfin _ ⟨n, [], err⟩ (⟨n, [], err⟩) e)) rfl (LeA.refl _))
 ·rw [show signalW ⟨n, [], err⟩ e = Wst.settle _ _ _ _ _ from if_neg (by rw [q1]; decide)]
  refine Sat.go (Eq.refl _) (NS.chk (by kernel_rfl) ?_)
  refine Sat.go (Eq.refl _) (NS.inn (P := Tryz.prog) (vals := [.ptr 23 0, .agg e.id.cells, .bool true, .bool e.acc]) (objs1 := wL 111 .dead (Wst.setO ⟨n, [], err⟩ (signalM n.ofs e.id e.contact).1) e) (WeakL.keep 111 [4, 23, 110] (by kernel_rfl)) (by kernel_rfl) (LeL.cons (LeA.refl _) (LeL.cons (LeA.refl _) (LeL.cons (LeA.kb true) (LeL.refl _)))) (by kernel_rfl) (settle_ok _ e e.id true e.acc ⟨h1, h2, h3, ?_, Nat.zero_le _⟩) rfl ?_)
  ·show (signalM n.ofs e.id e.contact).1.length ≤ 1000
   exact Nat.le_trans (signalM_len _ _ _) h4
  refine Sat.go (Eq.refl _) (NS.fin (ts := []) rfl ((weak_hd (ts := []) (os := [(23, .box (wCells (Wst.settle (Wst.setO ⟨n, [], err⟩ (signalM n.ofs e.id e.contact).1) e.time e.id true e.acc) e (.own 120))), (120, rowAct (Wst.settle (Wst.setO ⟨n, [], err⟩ (signalM n.ofs e.id e.contact).1) e.time e.id true e.acc : Wst).acts)]) (objs0 := wH ⟨n, [], err⟩ e) [(120, 120)] rfl trivial ⟨⟨_, rfl, renW _ (Wst.settle (Wst.setO ⟨n, [], err⟩ (signalM n.ofs e.id e.contact).1) e.time e.id true e.acc) e rfl⟩, ren_row rfl rfl fun _ _ _ _ => rfl, trivial⟩ (Pre_cut (by kernel_rfl)) (by kernel_rfl)).trans (hfin _ ⟨n, [], err⟩ (Wst.settle (Wst.setO ⟨n, [], err⟩ (signalM n.ofs e.id e.contact).1) e.time e.id true e.acc) e)) rfl (LeA.refl _))
theorem dropW_ok (w : Wst) (e : Evt) (ha : w.acts = []) (hz : Sz w 0) : FnIn Tryz.prog 115 [.ptr 23 0] (wH w e) 32 (.tup []) (wE w (dropW w e) e) := by
 obtain ⟨n, acts, err⟩ := w
 obtain rfl : acts = [] := ha
 obtain ⟨h1, h2, h3, h4, h5⟩ := hz
 simp only at h1 h2 h3 h4
 refine fn_in CH rfl (by kernel_rfl) Tryz.func115 rfl ?_
 rw [forceSt_eq]
 refine Sat.wk (weak_promoteB 23 30 110 63 14 (rowL Mb.Act.cells []) rfl rfl rfl) ?_
 refine Sat.go (Eq.refl _) (NS.chk (by kernel_rfl) ?_)
 refine Sat.go (Eq.refl _) (NS.call (find_ok n.dur e.id (by omega)) rfl ?_)
 refine Sat.go (Eq.refl _) (NS.ite (fun q1 => ?_) (fun q1 => ?_))
 ·rw [show dropW ⟨n, [], err⟩ e = Wst.remove ⟨n, [], err⟩ e.time (findM n.dur e.id).1 from if_pos q1]
  refine Sat.go (Eq.refl _) (NS.inn (P := Tryz.prog) (vals := [.ptr 23 0, .agg ((findM n.dur e.id).1).cells]) (objs1 := wL 150 .dead (⟨n, [], err⟩) e) (WeakL.keep 150 [4, 23, 110] (by kernel_rfl)) (by kernel_rfl) (LeL.refl _) (by kernel_rfl) (remove_ok (⟨n, [], err⟩) e ((findM n.dur e.id).1) (Nat.le_trans h1 (by decide)) (Nat.le_trans h2 (by decide)) h3 h4 (Nat.zero_le _)) rfl ?_)
  refine Sat.go (Eq.refl _) (NS.fin (ts := []) rfl ((weak_hd (ts := []) (os := [(23, .box (wCells (Wst.remove ⟨n, [], err⟩ e.time (findM n.dur e.id).1) e (.own 120))), (120, rowAct (Wst.remove ⟨n, [], err⟩ e.time (findM n.dur e.id).1 : Wst).acts)]) (objs0 := wH ⟨n, [], err⟩ e) [(120, 160)] rfl trivial ⟨⟨_, rfl, renW _ (Wst.remove ⟨n, [], err⟩ e.time (findM n.dur e.id).1) e rfl⟩, ren_row rfl rfl fun _ _ _ _ => rfl, trivial⟩ (Pre_cut (by kernel_rfl)) (by kernel_rfl)).trans (hfin _ ⟨n, [], err⟩ (Wst.remove ⟨n, [], err⟩ e.time (findM n.dur e.id).1) e)) rfl (LeA.refl _))
 ·rw [show dropW ⟨n, [], err⟩ e = ⟨n, [], err⟩ from if_neg (by show ¬ (findM n.dur e.id).2 = true; rw [q1]; decide)]
  refine Sat.go (Eq.refl _) (NS.fin (ts := []) rfl ((weak_hd (ts := []) (os := [(23, .box (wCells (⟨n, [], err⟩) e (.own 120))), (120, rowAct (⟨n, [], err⟩ : Wst).acts)]) (objs0 := wH ⟨n, [], err⟩ e) [(120, 110)] rfl trivial ⟨⟨_, rfl, renW _ (⟨n, [], err⟩) e rfl⟩, ren_row rfl rfl fun _ _ _ _ => rfl, trivial⟩ (Pre_cut (by kernel_rfl)) (by kernel_rfl)).trans (hfin _ ⟨n, [], err⟩ (⟨n, [], err⟩) e)) rfl (LeA.refl _))
theorem ticketW_ok (w : Wst) (e : Evt) (ha : w.acts = []) (hz : Sz w 0) : FnIn Tryz.prog 116 [.ptr 23 0] (wH w e) 32 (.tup []) (wE w (ticketW w e) e) := by
 obtain ⟨n, acts, err⟩ := w
 obtain rfl : acts = [] := ha
 obtain ⟨h1, h2, h3, h4, h5⟩ := hz
 simp only at h1 h2 h3 h4
 refine fn_in CH rfl (by kernel_rfl) Tryz.func116 rfl ?_
 rw [forceSt_eq]
 refine Sat.wk (weak_promoteB 23 30 110 63 14 (rowL Mb.Act.cells []) rfl rfl rfl) ?_
 refine Sat.go (Eq.refl _) (NS.chk (by kernel_rfl) ?_)
 refine Sat.go (Eq.refl _) (NS.call (find_ok n.dur e.id (by omega)) rfl ?_)
 refine Sat.go (Eq.refl _) (NS.ite (fun q1 => ?_) (fun q1 => ?_))
 ·rw [show ticketW ⟨n, [], err⟩ e = Wst.write ⟨n, [], err⟩ [⟨4, .zero, e.id, e.ticket, e.time⟩] from if_pos q1]
  refine Sat.go (Eq.refl _) (NS.chk (by kernel_rfl) ?_)
  refine Sat.go (Eq.refl _) (NS.inn (P := Tryz.prog) (vals := [.ptr 23 0, slR [⟨4, .zero, e.id, e.ticket, e.time⟩]]) (objs1 := wL 165 .dead ⟨n, [], err⟩ e) (WeakL.keep 165 [4, 23, 110] (by kernel_rfl)) (by kernel_rfl) (LeL.cons (LeA.refl _) (LeL.cons (LeA.sl rfl (row_one rfl)) LeL.nil)) (by kernel_rfl) (writeD_ok ⟨n, [], err⟩ e [⟨4, .zero, e.id, e.ticket, e.time⟩] (Nat.le_refl 1) (Nat.le_trans h1 (by decide)) (Nat.le_trans h2 (by decide)) h3) rfl ?_)
  refine Sat.go (Eq.refl _) (NS.fin (ts := []) rfl ((weak_hd (ts := []) (os := [(23, .box (wCells (Wst.write ⟨n, [], err⟩ [⟨4, .zero, e.id, e.ticket, e.time⟩]) e (.own 120))), (120, rowAct (Wst.write ⟨n, [], err⟩ [⟨4, .zero, e.id, e.ticket, e.time⟩] : Wst).acts)]) (objs0 := wH ⟨n, [], err⟩ e) [(120, 110)] rfl trivial ⟨⟨_, rfl, renW _ (Wst.write ⟨n, [], err⟩ [⟨4, .zero, e.id, e.ticket, e.time⟩]) e rfl⟩, ren_row rfl rfl fun _ _ _ _ => rfl, trivial⟩ (Pre_cut (by kernel_rfl)) (by kernel_rfl)).trans (hfin _ ⟨n, [], err⟩ (Wst.write ⟨n, [], err⟩ [⟨4, .zero, e.id, e.ticket, e.time⟩]) e)) rfl (LeA.refl _))
 ·rw [show ticketW ⟨n, [], err⟩ e = ⟨n, [], err⟩ from if_neg (by show ¬ (findM n.dur e.id).2 = true; rw [q1]; decide)]
  refine Sat.go (Eq.refl _) (NS.fin (ts := []) rfl ((weak_hd (ts := []) (os := [(23, .box (wCells (⟨n, [], err⟩) e (.own 120))), (120, rowAct (⟨n, [], err⟩ : Wst).acts)]) (objs0 := wH ⟨n, [], err⟩ e) [(120, 110)] rfl trivial ⟨⟨_, rfl, renW _ (⟨n, [], err⟩) e rfl⟩, ren_row rfl rfl fun _ _ _ _ => rfl, trivial⟩ (Pre_cut (by kernel_rfl)) (by kernel_rfl)).trans (hfin _ ⟨n, [], err⟩ (⟨n, [], err⟩) e)) rfl (LeA.refl _))
theorem sendW_ok (w : Wst) (e : Evt) (ha : w.acts = []) (hz : Sz w 0) : FnIn Tryz.prog 111 [.ptr 23 0] (wH w e) 32 (.tup []) (wE w (sendW w e) e) := by
 obtain ⟨n, acts, err⟩ := w
 obtain rfl : acts = [] := ha
 obtain ⟨h1, h2, h3, h4, h5⟩ := hz
 simp only at h1 h2 h3 h4
 refine fn_in CH rfl (by kernel_rfl) Tryz.func111 rfl ?_
 rw [forceSt_eq]
 refine Sat.wk (weak_promoteB 23 30 110 63 14 (rowL Mb.Act.cells []) rfl rfl rfl) ?_
 refine Sat.go (Eq.refl _) (NS.chk (by kernel_rfl) ?_)
 refine Sat.go (Eq.refl _) (NS.call (find_ok n.dur e.id (by omega)) rfl ?_)
 refine Sat.go (Eq.refl _) (NS.ite (fun q1 => ?_) (fun q1 => ?_))
 ·rw [show sendW ⟨n, [], err⟩ e = ⟨n, [], err⟩ from if_pos q1]
  refine Sat.go (Eq.refl _) (NS.fin (ts := []) rfl ((weak_hd (ts := []) (os := [(23, .box (wCells (⟨n, [], err⟩) e (.own 120))), (120, rowAct (⟨n, [], err⟩ : Wst).acts)]) (objs0 := wH ⟨n, [], err⟩ e) [(120, 110)] rfl trivial ⟨⟨_, rfl, renW _ (⟨n, [], err⟩) e rfl⟩, ren_row rfl rfl fun _ _ _ _ => rfl, trivial⟩ (Pre_cut (by kernel_rfl)) (by kernel_rfl)).trans (hfin _ ⟨n, [], err⟩ (⟨n, [], err⟩) e)) rfl (LeA.refl _))
 rw [show sendW ⟨n, [], err⟩ e = if (beginM n.ofs e.id e.contact e.due).2 == 0 then _ else _ from if_neg (by rw [q1]; decide)]
 refine Sat.go (Eq.refl _) (NS.chk (by kernel_rfl) ?_)
 refine Sat.go (Eq.refl _) (NS.call (begin_ok n.ofs e.id e.contact e.due) rfl ?_)
 refine Sat.go (Eq.refl _) (NS.ite (fun q2 => ?_) (fun q2 => ?_))
 ·rw [if_pos q2]
  refine Sat.go (Eq.refl _) (NS.chk (by kernel_rfl) ?_)
  refine Sat.go (Eq.refl _) (NS.chk (by kernel_rfl) ?_)
  refine Sat.go (Eq.refl _) (NS.need (rfl) ?_)
  refine Sat.go (Eq.refl _) (NS.fin (ts := []) rfl ((weak_hd (ts := []) (os := [(23, .box (wCells (Wst.act (Wst.setO ⟨n, [], err⟩ (beginM n.ofs e.id e.contact e.due).1) ⟨1, (findM n.dur e.id).1, e.contact, 0⟩) e (.own 120))), (120, rowAct (Wst.act (Wst.setO ⟨n, [], err⟩ (beginM n.ofs e.id e.contact e.due).1) ⟨1, (findM n.dur e.id).1, e.contact, 0⟩ : Wst).acts)]) (objs0 := wH ⟨n, [], err⟩ e) [(120, 122)] rfl trivial ⟨⟨_, rfl, renW _ (Wst.act (Wst.setO ⟨n, [], err⟩ (beginM n.ofs e.id e.contact e.due).1) ⟨1, (findM n.dur e.id).1, e.contact, 0⟩) e rfl⟩, ren_row rfl rfl (fun i hi j hj => row_snoc (cells := Mb.Act.cells) (l := []) (x := ⟨1, (findM n.dur e.id).1, e.contact, 0⟩) rfl i hi j hj), trivial⟩ (Pre_cut (by kernel_rfl)) (by kernel_rfl)).trans (hfin _ ⟨n, [], err⟩ (Wst.act (Wst.setO ⟨n, [], err⟩ (beginM n.ofs e.id e.contact e.due).1) ⟨1, (findM n.dur e.id).1, e.contact, 0⟩) e)) rfl (LeA.refl _))
 rw [if_neg (by rw [q2]; decide)]
 refine Sat.go (Eq.refl _) (NS.ite (fun q3 => ?_) (fun q3 => ?_))
 ·rw [if_pos q3]
  refine Sat.go (Eq.refl _) (NS.fin (ts := []) rfl ((weak_hd (ts := []) (os := [(23, .box (wCells (⟨n, [], err⟩) e (.own 120))), (120, rowAct (⟨n, [], err⟩ : Wst).acts)]) (objs0 := wH ⟨n, [], err⟩ e) [(120, 110)] rfl trivial ⟨⟨_, rfl, renW _ (⟨n, [], err⟩) e rfl⟩, ren_row rfl rfl fun _ _ _ _ => rfl, trivial⟩ (Pre_cut (by kernel_rfl)) (by kernel_rfl)).trans (hfin _ ⟨n, [], err⟩ (⟨n, [], err⟩) e)) rfl (LeA.refl _))
 ·rw [if_neg (by rw [q3]; decide)]
  refine Sat.go (Eq.refl _) (NS.fin (ts := []) rfl ((weak_hd (ts := []) (os := [(23, .box (wCells (⟨n, [], (beginM n.ofs e.id e.contact e.due).2⟩) e (.own 120))), (120, rowAct (⟨n, [], (beginM n.ofs e.id e.contact e.due).2⟩ : Wst).acts)]) (objs0 := wH ⟨n, [], err⟩ e) [(120, 110)] rfl trivial ⟨⟨_, rfl, renW _ (⟨n, [], (beginM n.ofs e.id e.contact e.due).2⟩) e rfl⟩, ren_row rfl rfl fun _ _ _ _ => rfl, trivial⟩ (Pre_cut (by kernel_rfl)) (by kernel_rfl)).trans (hfin _ ⟨n, [], err⟩ (⟨n, [], (beginM n.ofs e.id e.contact e.due).2⟩) e)) rfl (LeA.refl _))
theorem dueM_len (l : List Ofr) (t : Int) : (dueM l t).1.length ≤ l.length ∧ (dueM l t).2.1.length ≤ l.length := by
 unfold dueM
 split
 ·exact ⟨Nat.zero_le _, Nat.zero_le _⟩
 ·exact ⟨List.length_filter_le _ _, List.length_filter_le _ _⟩
theorem Sz.tmN {w : Wst} (h : Sz w 0) (l : List Ofr) (t : Int) : ∀ k, Sz (tmN l t w k) k
 | 0 => h
 | k + 1 => by
  unfold Go.Proofs.YtggjngbighkdgaaGreat.tmN
  split
  ·exact (Sz.tmN h l t k).settle _ _ _ _
  ·exact (Sz.tmN h l t k).le (by omega)
theorem timerW_ok (w : Wst) (e : Evt) (ha : w.acts = []) (hz : Sz w 0) : FnIn Tryz.prog 113 [.ptr 23 0] (wH w e) 32 (.tup []) (wE w (timerW w e) e) := by
 obtain ⟨n, acts, err⟩ := w
 obtain rfl : acts = [] := ha
 refine fn_in CH rfl (by kernel_rfl) Tryz.func113 rfl ?_
 rw [forceSt_eq]
 refine Sat.wk (weak_promoteB 23 30 110 63 14 (rowL Mb.Act.cells []) rfl rfl rfl) ?_
 refine Sat.go (Eq.refl _) (NS.chk (by kernel_rfl) ?_)
 refine Sat.go (Eq.refl _) (NS.call (due_ok n.ofs e.time) rfl ?_)
 obtain ⟨d1, d2⟩ := dueM_len n.ofs e.time
 obtain ⟨h1, h2, h3, h4, h5⟩ := hz
 simp only at h4
 have hs0 : Sz (Wst.setO ⟨n, [], err⟩ (dueM n.ofs e.time).2.1) 0 := ⟨h1, h2, h3, Nat.le_trans d2 h4, h5⟩
 have hsz := Sz.tmN hs0 (dueM n.ofs e.time).1 e.time
 show Sat _ (RetIn _ _ _ _ (wE ⟨n, [], err⟩ (tmN (dueM n.ofs e.time).1 e.time (Wst.setO ⟨n, [], err⟩ (dueM n.ofs e.time).2.1) (dueM n.ofs e.time).1.length) e)) _ _ _
 obtain ⟨l, hl⟩ : ∃ l, l = (dueM n.ofs e.time).1 := ⟨_, rfl⟩
 rw [← hl] at d1 hsz
 rw [← hl]
 refine Sat.go (Eq.refl _) ?_
 refine NS.loop (σ := { k : Nat // k ≤ l.length }) (fun k => [(0, .ptr 23 0), (2, slOfr l), (27, slOfr l), (28, .int .i64 l.length), (29, .int .i64 k.1)]) (fun k => [(23, .box (wCells (tmN l e.time (Wst.setO ⟨n, [], err⟩ (dueM n.ofs e.time).2.1) k.1) e (.own 110))), (110, rowAct (tmN l e.time (Wst.setO ⟨n, [], err⟩ (dueM n.ofs e.time).2.1) k.1).acts)]) (fun k => l.length - k.1) ⟨0, Nat.zero_le _⟩ ?_ ?_
 ·exact weak_hd [] rfl ⟨rfl, rfl, rfl, rfl, rfl, trivial⟩ ⟨⟨_, rfl, renW _ (Wst.setO ⟨n, [], err⟩ (dueM n.ofs e.time).2.1) e rfl⟩, ren_row rfl rfl (fun _ _ _ _ => rfl), trivial⟩ (Pre_cut (by kernel_rfl)) (by kernel_rfl)
 rintro ⟨k, hk⟩
 have hk : k ≤ l.length := hk
 refine Sat.go (Eq.refl _) (NS.ite (fun h => ?_) (fun h => ?_))
 ·have h : k < l.length := by simpa using h
  have hz := hsz k
  have hset : tmN l e.time (Wst.setO ⟨n, [], err⟩ (dueM n.ofs e.time).2.1) (k + 1) = if k == 0 || !((l.getD (k - 1) default).id.eqv (l.getD k default).id) then (tmN l e.time (Wst.setO ⟨n, [], err⟩ (dueM n.ofs e.time).2.1) k).settle e.time (l.getD k default).id false false else tmN l e.time (Wst.setO ⟨n, [], err⟩ (dueM n.ofs e.time).2.1) k := rfl
  obtain ⟨v, hv⟩ : ∃ v, v = tmN l e.time (Wst.setO ⟨n, [], err⟩ (dueM n.ofs e.time).2.1) k := ⟨_, rfl⟩
  rw [← hv] at hz hset
  refine Sat.go (Eq.refl _) (NS.need (by simp; omega) ?_)
  show Sat _ _ _ _ _
  simp only [← hv]
  refine Sat.go (Eq.refl _) (NS.chk (by kernel_rfl) ?_)
  rcases Nat.eq_zero_or_pos k with hk0 | hk0
  ·have hnx : tmN l e.time (Wst.setO ⟨n, [], err⟩ (dueM n.ofs e.time).2.1) (k + 1) = v.settle e.time (l.getD k default).id false false := by rw [hset, show (k == 0) = true from by rw [hk0]; rfl]; rfl
   refine Sat.go (Eq.refl _) (NS.yes (decide_eq_true (by show ((k : Nat) : Int) = 0; omega)) ?_)
   refine Sat.go (Eq.refl _) (NS.inn (P := Tryz.prog) (vals := [.ptr 23 0, .agg (l.getD k default).id.cells, .bool false, .bool false]) (objs1 := wL 111 .dead v e) (WeakL.keep 111 [4, 23, 110] (by kernel_rfl)) (by kernel_rfl) (LeL.cons (LeA.refl _) (LeL.cons (LeA.refl _) (LeL.cons (LeA.kb false) (LeL.cons (LeA.kb false) LeL.nil)))) (by kernel_rfl) (settle_ok v e (l.getD k default).id false false (hz.le (by omega))) rfl ?_)
   refine Sat.go (Eq.refl _) (NS.next ⟨k + 1, by omega⟩ (by simp; omega) ?_)
   exact weak_hd [(110, 120)] rfl ⟨rfl, rfl, rfl, rfl, ren_int rfl (i64_k (k := k) (by omega) (by omega)), trivial⟩ ⟨⟨_, rfl, renW2 _ (v.settle e.time (l.getD k default).id false false) e hnx rfl⟩, ren_row rfl (congrArg (fun z : Wst => z.acts.length) hnx.symm) (fun i hi j hj => congrArg (fun z : Wst => rowL Mb.Act.cells z.acts i j) hnx.symm), trivial⟩ (Pre_cut (by kernel_rfl)) (by kernel_rfl)
  ·obtain ⟨j, rfl⟩ : ∃ j, k = j + 1 := ⟨k - 1, by omega⟩
   have e1 : IntKind.i64.wrap (((j + 1 : Nat) : Int) - 1) = (j : Int) := by rw [wrap_i64 (by omega) (by omega)]; omega
   refine Sat.go (Eq.refl _) (NS.no (decide_eq_false (by show ¬ ((j + 1 : Nat) : Int) = 0; omega)) ?_)
   refine Sat.go (Eq.refl _) (NS.need (by rw [e1]; simp; omega) ?_)
   refine Sat.go (Eq.refl _) (NS.ite (fun hq => ?_) (fun hq => ?_))
   ·have hq : (!((l.getD (IntKind.i64.wrap (((j + 1 : Nat) : Int) - 1)).toNat default).id.eqv (l.getD (j + 1) default).id)) = true := hq
    rw [e1] at hq
    have hnx : tmN l e.time (Wst.setO ⟨n, [], err⟩ (dueM n.ofs e.time).2.1) (j + 1 + 1) = v.settle e.time (l.getD (j + 1) default).id false false := by rw [hset, if_pos (by rw [Bool.or_eq_true]; exact .inr hq)]
    refine Sat.go (Eq.refl _) (NS.inn (P := Tryz.prog) (vals := [.ptr 23 0, .agg (l.getD (j + 1) default).id.cells, .bool false, .bool false]) (objs1 := wL 111 .dead v e) (WeakL.keep 111 [4, 23, 110] (by kernel_rfl)) (by kernel_rfl) (LeL.cons (LeA.refl _) (LeL.cons (LeA.refl _) (LeL.cons (LeA.kb false) (LeL.cons (LeA.kb false) LeL.nil)))) (by kernel_rfl) (settle_ok v e (l.getD (j + 1) default).id false false (hz.le (by omega))) rfl ?_)
    refine Sat.go (Eq.refl _) (NS.next ⟨(j + 1) + 1, by omega⟩ (by simp; omega) ?_)
    exact weak_hd [(110, 120)] rfl ⟨rfl, rfl, rfl, rfl, ren_int rfl (i64_k (k := (j + 1)) (by omega) (by omega)), trivial⟩ ⟨⟨_, rfl, renW2 _ (v.settle e.time (l.getD (j + 1) default).id false false) e hnx rfl⟩, ren_row rfl (congrArg (fun z : Wst => z.acts.length) hnx.symm) (fun i hi j hj => congrArg (fun z : Wst => rowL Mb.Act.cells z.acts i j) hnx.symm), trivial⟩ (Pre_cut (by kernel_rfl)) (by kernel_rfl)
   ·have hq : (!((l.getD (IntKind.i64.wrap (((j + 1 : Nat) : Int) - 1)).toNat default).id.eqv (l.getD (j + 1) default).id)) = false := hq
    rw [e1] at hq
    have hnx : tmN l e.time (Wst.setO ⟨n, [], err⟩ (dueM n.ofs e.time).2.1) (j + 1 + 1) = v := by rw [hset, if_neg (by rw [Bool.or_eq_true]; rintro (q | q); exact absurd q (by simp); rw [show j + 1 - 1 = j from rfl] at q; rw [show ((l.getD (j : Int).toNat default).id) = (l.getD j default).id from rfl] at hq; rw [hq] at q; cases q)]
    refine Sat.go (Eq.refl _) (NS.next ⟨j + 1 + 1, by omega⟩ (by simp; omega) ?_)
    exact weak_hd [] rfl ⟨rfl, rfl, rfl, rfl, ren_int rfl (i64_k (k := j + 1) (by omega) (by omega)), trivial⟩ ⟨⟨_, rfl, renW2 _ v e hnx rfl⟩, ren_row rfl (congrArg (fun z : Wst => z.acts.length) hnx.symm) (fun i hi j hj => congrArg (fun z : Wst => rowL Mb.Act.cells z.acts i j) hnx.symm), trivial⟩ (Pre_cut (by kernel_rfl)) (by kernel_rfl)
 ·have h : ¬ k < l.length := by simpa using h
  obtain rfl : k = l.length := by omega
  refine Sat.go (Eq.refl _) (NS.leave rfl (Eq.refl _) ?_)
  refine Sat.go (Eq.refl _) (NS.fin (ts := []) rfl ((weak_hd (ts := []) (os := [(23, .box (wCells (tmN l e.time (Wst.setO ⟨n, [], err⟩ (dueM n.ofs e.time).2.1) l.length) e (.own 120))), (120, rowAct (tmN l e.time (Wst.setO ⟨n, [], err⟩ (dueM n.ofs e.time).2.1) l.length : Wst).acts)]) (objs0 := wH ⟨n, [], err⟩ e) [(120, 110)] rfl trivial ⟨⟨_, rfl, renW _ (tmN l e.time (Wst.setO ⟨n, [], err⟩ (dueM n.ofs e.time).2.1) l.length) e rfl⟩, ren_row rfl rfl fun _ _ _ _ => rfl, trivial⟩ (Pre_cut (by kernel_rfl)) (by kernel_rfl)).trans (hfin _ ⟨n, [], err⟩ (tmN l e.time (Wst.setO ⟨n, [], err⟩ (dueM n.ofs e.time).2.1) l.length) e)) rfl (LeA.refl _))
theorem Sz.exN {w : Wst} (h : Sz w 0) (l : List Jrec) (t : Int) : ∀ k, Sz (exN l t w k) k
 | 0 => h
 | k + 1 => by
  unfold Go.Proofs.YtggjngbighkdgaaGreat.exN
  split
  ·exact (Sz.exN h l t k).remove _ _
  ·exact (Sz.exN h l t k).le (by omega)
theorem expireW_ok (w : Wst) (e : Evt) (ha : w.acts = []) (hz : Sz w 0) : FnIn Tryz.prog 114 [.ptr 23 0] (wH w e) 32 (.tup []) (wE w (expireW w e) e) := by
 obtain ⟨n, acts, err⟩ := w
 obtain rfl : acts = [] := ha
 have hsz := hz.exN (expireM n.dur e.time).1 e.time
 obtain ⟨h1, h2, h3, h4, h5⟩ := hz
 simp only at h1 h2 h3 h4
 have d1 := expireM_len n.dur e.time
 refine fn_in CH rfl (by kernel_rfl) Tryz.func114 rfl ?_
 rw [forceSt_eq]
 refine Sat.wk (weak_promoteB 23 30 110 63 14 (rowL Mb.Act.cells []) rfl rfl rfl) ?_
 refine Sat.go (Eq.refl _) (NS.chk (by kernel_rfl) ?_)
 refine Sat.go (Eq.refl _) (NS.call (expire_ok n.dur e.time (by omega) (by omega)) rfl ?_)
 refine Sat.go (Eq.refl _) (NS.ite (fun q1 => ?_) (fun q1 => ?_))
 ·rw [show expireW ⟨n, [], err⟩ e = ⟨n, [], (expireM n.dur e.time).2⟩ from if_pos q1]
  refine Sat.go (Eq.refl _) (NS.fin (ts := []) rfl ((weak_hd (ts := []) (os := [(23, .box (wCells (⟨n, [], (expireM n.dur e.time).2⟩) e (.own 120))), (120, rowAct (⟨n, [], (expireM n.dur e.time).2⟩ : Wst).acts)]) (objs0 := wH ⟨n, [], err⟩ e) [(120, 110)] rfl trivial ⟨⟨_, rfl, renW _ (⟨n, [], (expireM n.dur e.time).2⟩) e rfl⟩, ren_row rfl rfl fun _ _ _ _ => rfl, trivial⟩ (Pre_cut (by kernel_rfl)) (by kernel_rfl)).trans (hfin _ ⟨n, [], err⟩ (⟨n, [], (expireM n.dur e.time).2⟩) e)) rfl (LeA.refl _))
 rw [show expireW ⟨n, [], err⟩ e = exN (expireM n.dur e.time).1 e.time ⟨n, [], err⟩ (expireM n.dur e.time).1.length from if_neg (by rw [q1]; decide)]
 obtain ⟨l, hl⟩ : ∃ l, l = (expireM n.dur e.time).1 := ⟨_, rfl⟩
 rw [← hl] at d1 hsz
 rw [← hl]
 refine Sat.go (Eq.refl _) ?_
 refine NS.loop (σ := { k : Nat // k ≤ l.length }) (fun k => [(0, .ptr 23 0), (28, slR l), (29, .int .i64 l.length), (30, .int .i64 k.1)]) (fun k => [(23, .box (wCells (exN l e.time ⟨n, [], err⟩ k.1) e (.own 110))), (110, rowAct (exN l e.time ⟨n, [], err⟩ k.1).acts)]) (fun k => l.length - k.1) ⟨0, Nat.zero_le _⟩ ?_ ?_
 ·exact weak_hd [] rfl ⟨rfl, rfl, rfl, rfl, trivial⟩ ⟨⟨_, rfl, renW _ ⟨n, [], err⟩ e rfl⟩, ren_row rfl rfl (fun _ _ _ _ => rfl), trivial⟩ (Pre_cut (by kernel_rfl)) (by kernel_rfl)
 rintro ⟨k, hk⟩
 have hk : k ≤ l.length := hk
 refine Sat.go (Eq.refl _) (NS.ite (fun h => ?_) (fun h => ?_))
 ·have h : k < l.length := by simpa using h
  have hz := hsz k
  have hset : exN l e.time ⟨n, [], err⟩ (k + 1) = if (findM (exN l e.time ⟨n, [], err⟩ k).n.dur (l.getD k default).id).2 then (exN l e.time ⟨n, [], err⟩ k).remove e.time (findM (exN l e.time ⟨n, [], err⟩ k).n.dur (l.getD k default).id).1 else exN l e.time ⟨n, [], err⟩ k := rfl
  obtain ⟨v, hv⟩ : ∃ v, v = exN l e.time ⟨n, [], err⟩ k := ⟨_, rfl⟩
  rw [← hv] at hz hset
  refine Sat.go (Eq.refl _) (NS.need (by simp; omega) ?_)
  show Sat _ _ _ _ _
  simp only [← hv]
  refine Sat.go (Eq.refl _) (NS.chk (by kernel_rfl) ?_)
  obtain ⟨z1, z2, z3, z4, z5⟩ := hz
  refine Sat.go (Eq.refl _) (NS.call (find_ok v.n.dur (l.getD k default).id (by omega)) rfl ?_)
  refine Sat.go (Eq.refl _) (NS.ite (fun q2 => ?_) (fun q2 => ?_))
  ·have hnx : exN l e.time ⟨n, [], err⟩ (k + 1) = v.remove e.time (findM v.n.dur (l.getD k default).id).1 := by rw [hset, if_pos q2]
   refine Sat.go (Eq.refl _) (NS.inn (P := Tryz.prog) (vals := [.ptr 23 0, .agg ((findM v.n.dur (l.getD k default).id).1).cells]) (objs1 := wL 150 .dead (v) e) (WeakL.keep 150 [4, 23, 110] (by kernel_rfl)) (by kernel_rfl) (LeL.refl _) (by kernel_rfl) (remove_ok (v) e ((findM v.n.dur (l.getD k default).id).1) (by omega) (by omega) (by omega) (by omega) (by omega)) rfl ?_)
   refine Sat.go (Eq.refl _) (NS.next ⟨k + 1, by omega⟩ (by simp; omega) ?_)
   exact weak_hd [(110, 160)] rfl ⟨rfl, rfl, rfl, ren_int rfl (i64_k (k := k) (by omega) (by omega)), trivial⟩ ⟨⟨_, rfl, renW2 _ (v.remove e.time (findM v.n.dur (l.getD k default).id).1) e hnx rfl⟩, ren_row rfl (congrArg (fun z : Wst => z.acts.length) hnx.symm) (fun i hi j hj => congrArg (fun z : Wst => rowL Mb.Act.cells z.acts i j) hnx.symm), trivial⟩ (Pre_cut (by kernel_rfl)) (by kernel_rfl)
  ·have hnx : exN l e.time ⟨n, [], err⟩ (k + 1) = v := by rw [hset, if_neg (by rw [show (findM v.n.dur (l.getD k default).id).2 = false from q2]; decide)]
   refine Sat.go (Eq.refl _) (NS.next ⟨k + 1, by omega⟩ (by simp; omega) ?_)
   exact weak_hd [] rfl ⟨rfl, rfl, rfl, ren_int rfl (i64_k (k := k) (by omega) (by omega)), trivial⟩ ⟨⟨_, rfl, renW2 _ v e hnx rfl⟩, ren_row rfl (congrArg (fun z : Wst => z.acts.length) hnx.symm) (fun i hi j hj => congrArg (fun z : Wst => rowL Mb.Act.cells z.acts i j) hnx.symm), trivial⟩ (Pre_cut (by kernel_rfl)) (by kernel_rfl)
 ·have h : ¬ k < l.length := by simpa using h
  obtain rfl : k = l.length := by omega
  refine Sat.go (Eq.refl _) (NS.leave rfl (Eq.refl _) ?_)
  refine Sat.go (Eq.refl _) (NS.fin (ts := []) rfl ((weak_hd (ts := []) (os := [(23, .box (wCells (exN l e.time ⟨n, [], err⟩ l.length) e (.own 120))), (120, rowAct (exN l e.time ⟨n, [], err⟩ l.length : Wst).acts)]) (objs0 := wH ⟨n, [], err⟩ e) [(120, 110)] rfl trivial ⟨⟨_, rfl, renW _ (exN l e.time ⟨n, [], err⟩ l.length) e rfl⟩, ren_row rfl rfl fun _ _ _ _ => rfl, trivial⟩ (Pre_cut (by kernel_rfl)) (by kernel_rfl)).trans (hfin _ ⟨n, [], err⟩ (exN l e.time ⟨n, [], err⟩ l.length) e)) rfl (LeA.refl _))
end Go.Proofs.YtggjngbighkdgaaGreat

namespace Go.Proofs.YtggjngbighkdgaaGreat
open Go.Sy Go.Mb
set_option maxRecDepth 100000
set_option maxHeartbeats 4000000
theorem put1_ok (w : Wst) (e : Evt) (a : A) (o : Ofr) : FnOK Tryz.prog 172 [.agg o.cells, .ip 1 (getA [.ip 32 (getA (wCells w e a))])] (.bool (ofId e.item.id o), none) := by
 refine fn_ok CF rfl (by kernel_rfl) Tryz.func172 rfl ?_
 refine Sat.go (Eq.refl _) (NS.chk (by kernel_rfl) ?_)
 exact Sat.go (Eq.refl _) (NS.ret rfl rfl (LeA.refl _))
theorem putW_ok (w : Wst) (e : Evt) (ha : w.acts = []) (hz : Sz w 0) : FnIn Tryz.prog 110 [.ptr 23 0] (wH w e) 32 (.tup []) (wE w (putW w e) e) := by
 obtain ⟨n, acts, err⟩ := w
 obtain rfl : acts = [] := ha
 obtain ⟨h1, h2, h3, h4, h5⟩ := hz
 simp only at h1 h2 h3 h4
 have c := put_ok n.dur n.self n.quota e.item e.time (by omega) (by omega)
 have hl := putM_len n.dur n.self n.quota e.item e.time
 have hw : putW ⟨n, [], err⟩ e = if (putM n.dur n.self n.quota e.item e.time).2.2 != 0 then ⟨n, [], (putM n.dur n.self n.quota e.item e.time).2.2⟩
  else (Wst.write ⟨n, [], err⟩ (putM n.dur n.self n.quota e.item e.time).1).act ⟨kindP ⟨n, [], err⟩ e (putM n.dur n.self n.quota e.item e.time).2.1, e.item, 0, (putM n.dur n.self n.quota e.item e.time).2.1⟩ := rfl
 rw [hw]
 clear hw
 generalize putM n.dur n.self n.quota e.item e.time = p at *
 refine fn_in CH rfl (by kernel_rfl) Tryz.func110 rfl ?_
 rw [forceSt_eq]
 refine Sat.wk (weak_promoteB 23 30 110 63 14 (rowL Mb.Act.cells []) rfl rfl rfl) ?_
 refine Sat.go (Eq.refl _) (NS.chk (by kernel_rfl) ?_)
 refine Sat.go (Eq.refl _) (NS.call (c) rfl ?_)
 refine Sat.go (Eq.refl _) (NS.ite (fun q1 => ?_) (fun q1 => ?_))
 ·rw [if_pos q1]
  refine Sat.go (Eq.refl _) (NS.fin (ts := []) rfl ((weak_hd (ts := []) (os := [(23, .box (wCells (⟨n, [], p.2.2⟩) e (.own 120))), (120, rowAct (⟨n, [], p.2.2⟩ : Wst).acts)]) (objs0 := wH ⟨n, [], err⟩ e) [(120, 110)] rfl trivial ⟨⟨_, rfl, renW _ (⟨n, [], p.2.2⟩) e rfl⟩, ren_row rfl rfl fun _ _ _ _ => rfl, trivial⟩ (Pre_cut (by kernel_rfl)) (by kernel_rfl)).trans (hfin _ ⟨n, [], err⟩ (⟨n, [], p.2.2⟩) e)) rfl (LeA.refl _))
 rw [if_neg (by rw [q1]; decide)]
 refine Sat.go (Eq.refl _) (NS.call (contO_ok n.ofs (by omega) 172 1 (getA [.ip 32 (getA (wCells ⟨n, [], err⟩ e (.sl 14 0 (rowL Mb.Act.cells []))))]) (ofId e.item.id) (put1_ok _ e _)) rfl ?_)
 refine Sat.go (Eq.refl _) (NS.ite (fun a1 => ?_) (fun a1 => ?_))
 ·rw [show kindP ⟨n, [], err⟩ e p.2.1 = 3 by unfold kindP; simp [show (p.2.1 == 4) = true from a1]]
  refine Sat.go (Eq.refl _) (NS.inn (P := Tryz.prog) (vals := [.ptr 23 0, slR p.1]) (objs1 := wL 165 (.box [.ptr 23 0]) ⟨n, [], err⟩ e) (WeakL.keep 165 [4, 23, 33, 110] (by kernel_rfl)) (by kernel_rfl) (LeL.refl _) (by kernel_rfl) (writeP_ok ⟨n, [], err⟩ e p.1 hl (Nat.le_trans h1 (by decide)) (Nat.le_trans h2 (by decide)) h3) rfl ?_)
  refine Sat.go (Eq.refl _) (NS.chk (by kernel_rfl) ?_)
  refine Sat.go (Eq.refl _) (NS.chk (by kernel_rfl) ?_)
  refine Sat.go (Eq.refl _) (NS.need (decide_eq_true (by show (0 + 1) * (119 + 1 + 1) ≤ maxRow; decide)) ?_)
  have hwa : (Wst.write ⟨n, [], err⟩ p.1).acts = [] := by cases p.1 <;> rfl
  refine Sat.go (Eq.refl _) (NS.fin (ts := []) rfl ((weak_hd (ts := []) (os := [(23, .box (wCells (Wst.act (Wst.write ⟨n, [], err⟩ p.1) ⟨3, e.item, 0, p.2.1⟩) e (.own 120))), (120, rowAct (Wst.act (Wst.write ⟨n, [], err⟩ p.1) ⟨3, e.item, 0, p.2.1⟩ : Wst).acts)]) (objs0 := wH ⟨n, [], err⟩ e) [(120, 176)] rfl trivial ⟨⟨_, rfl, renW _ (Wst.act (Wst.write ⟨n, [], err⟩ p.1) ⟨3, e.item, 0, p.2.1⟩) e rfl⟩, ren_row rfl (by show 0 + 1 = ((Wst.write ⟨n, [], err⟩ p.1).acts ++ [_]).length; rw [hwa]; rfl) (fun i hi j hj => by show _ = rowL Mb.Act.cells ((Wst.write ⟨n, [], err⟩ p.1).acts ++ [_]) i j; rw [hwa]; exact row_snoc (cells := Mb.Act.cells) (l := []) (x := ⟨3, e.item, 0, p.2.1⟩) rfl i (by have hi : i < ((Wst.write ⟨n, [], err⟩ p.1).acts ++ [_]).length := hi; rw [hwa] at hi; exact hi) j hj), trivial⟩ (Pre_cut (by kernel_rfl)) (by kernel_rfl)).trans (hfin _ ⟨n, [], err⟩ (Wst.act (Wst.write ⟨n, [], err⟩ p.1) ⟨3, e.item, 0, p.2.1⟩) e)) rfl (LeA.refl _))
 refine Sat.go (Eq.refl _) (NS.ite (fun a2 => ?_) (fun a2 => ?_))
 ·rw [show kindP ⟨n, [], err⟩ e p.2.1 = 3 by unfold kindP; simp [show (p.2.1 == 5) = true from a2]]
  refine Sat.go (Eq.refl _) (NS.inn (P := Tryz.prog) (vals := [.ptr 23 0, slR p.1]) (objs1 := wL 165 (.box [.ptr 23 0]) ⟨n, [], err⟩ e) (WeakL.keep 165 [4, 23, 33, 110] (by kernel_rfl)) (by kernel_rfl) (LeL.refl _) (by kernel_rfl) (writeP_ok ⟨n, [], err⟩ e p.1 hl (Nat.le_trans h1 (by decide)) (Nat.le_trans h2 (by decide)) h3) rfl ?_)
  refine Sat.go (Eq.refl _) (NS.chk (by kernel_rfl) ?_)
  refine Sat.go (Eq.refl _) (NS.chk (by kernel_rfl) ?_)
  refine Sat.go (Eq.refl _) (NS.need (decide_eq_true (by show (0 + 1) * (119 + 1 + 1) ≤ maxRow; decide)) ?_)
  have hwa : (Wst.write ⟨n, [], err⟩ p.1).acts = [] := by cases p.1 <;> rfl
  refine Sat.go (Eq.refl _) (NS.fin (ts := []) rfl ((weak_hd (ts := []) (os := [(23, .box (wCells (Wst.act (Wst.write ⟨n, [], err⟩ p.1) ⟨3, e.item, 0, p.2.1⟩) e (.own 120))), (120, rowAct (Wst.act (Wst.write ⟨n, [], err⟩ p.1) ⟨3, e.item, 0, p.2.1⟩ : Wst).acts)]) (objs0 := wH ⟨n, [], err⟩ e) [(120, 176)] rfl trivial ⟨⟨_, rfl, renW _ (Wst.act (Wst.write ⟨n, [], err⟩ p.1) ⟨3, e.item, 0, p.2.1⟩) e rfl⟩, ren_row rfl (by show 0 + 1 = ((Wst.write ⟨n, [], err⟩ p.1).acts ++ [_]).length; rw [hwa]; rfl) (fun i hi j hj => by show _ = rowL Mb.Act.cells ((Wst.write ⟨n, [], err⟩ p.1).acts ++ [_]) i j; rw [hwa]; exact row_snoc (cells := Mb.Act.cells) (l := []) (x := ⟨3, e.item, 0, p.2.1⟩) rfl i (by have hi : i < ((Wst.write ⟨n, [], err⟩ p.1).acts ++ [_]).length := hi; rw [hwa] at hi; exact hi) j hj), trivial⟩ (Pre_cut (by kernel_rfl)) (by kernel_rfl)).trans (hfin _ ⟨n, [], err⟩ (Wst.act (Wst.write ⟨n, [], err⟩ p.1) ⟨3, e.item, 0, p.2.1⟩) e)) rfl (LeA.refl _))
 refine Sat.go (Eq.refl _) (NS.ite (fun a3 => ?_) (fun a3 => ?_))
 ·refine Sat.go (Eq.refl _) (NS.ite (fun a4 => ?_) (fun a4 => ?_))
  ·rw [show kindP ⟨n, [], err⟩ e p.2.1 = 3 by unfold kindP; simp [show (p.2.1 == 3) = true from a3, show n.ofs.any (ofId e.item.id) = true from a4]]
   refine Sat.go (Eq.refl _) (NS.inn (P := Tryz.prog) (vals := [.ptr 23 0, slR p.1]) (objs1 := wL 165 (.box [.ptr 23 0]) ⟨n, [], err⟩ e) (WeakL.keep 165 [4, 23, 33, 110] (by kernel_rfl)) (by kernel_rfl) (LeL.refl _) (by kernel_rfl) (writeP_ok ⟨n, [], err⟩ e p.1 hl (Nat.le_trans h1 (by decide)) (Nat.le_trans h2 (by decide)) h3) rfl ?_)
   refine Sat.go (Eq.refl _) (NS.chk (by kernel_rfl) ?_)
   refine Sat.go (Eq.refl _) (NS.chk (by kernel_rfl) ?_)
   refine Sat.go (Eq.refl _) (NS.need (decide_eq_true (by show (0 + 1) * (119 + 1 + 1) ≤ maxRow; decide)) ?_)
   have hwa : (Wst.write ⟨n, [], err⟩ p.1).acts = [] := by cases p.1 <;> rfl
   refine Sat.go (Eq.refl _) (NS.fin (ts := []) rfl ((weak_hd (ts := []) (os := [(23, .box (wCells (Wst.act (Wst.write ⟨n, [], err⟩ p.1) ⟨3, e.item, 0, p.2.1⟩) e (.own 120))), (120, rowAct (Wst.act (Wst.write ⟨n, [], err⟩ p.1) ⟨3, e.item, 0, p.2.1⟩ : Wst).acts)]) (objs0 := wH ⟨n, [], err⟩ e) [(120, 176)] rfl trivial ⟨⟨_, rfl, renW _ (Wst.act (Wst.write ⟨n, [], err⟩ p.1) ⟨3, e.item, 0, p.2.1⟩) e rfl⟩, ren_row rfl (by show 0 + 1 = ((Wst.write ⟨n, [], err⟩ p.1).acts ++ [_]).length; rw [hwa]; rfl) (fun i hi j hj => by show _ = rowL Mb.Act.cells ((Wst.write ⟨n, [], err⟩ p.1).acts ++ [_]) i j; rw [hwa]; exact row_snoc (cells := Mb.Act.cells) (l := []) (x := ⟨3, e.item, 0, p.2.1⟩) rfl i (by have hi : i < ((Wst.write ⟨n, [], err⟩ p.1).acts ++ [_]).length := hi; rw [hwa] at hi; exact hi) j hj), trivial⟩ (Pre_cut (by kernel_rfl)) (by kernel_rfl)).trans (hfin _ ⟨n, [], err⟩ (Wst.act (Wst.write ⟨n, [], err⟩ p.1) ⟨3, e.item, 0, p.2.1⟩) e)) rfl (LeA.refl _))
  ·rw [show kindP ⟨n, [], err⟩ e p.2.1 = 2 by unfold kindP; simp [show (p.2.1 == 4) = false from a1, show (p.2.1 == 5) = false from a2, show (p.2.1 == 3) = true from a3, show n.ofs.any (ofId e.item.id) = false from a4]]
   refine Sat.go (Eq.refl _) (NS.inn (P := Tryz.prog) (vals := [.ptr 23 0, slR p.1]) (objs1 := wL 165 (.box [.ptr 23 0]) ⟨n, [], err⟩ e) (WeakL.keep 165 [4, 23, 33, 110] (by kernel_rfl)) (by kernel_rfl) (LeL.refl _) (by kernel_rfl) (writeP_ok ⟨n, [], err⟩ e p.1 hl (Nat.le_trans h1 (by decide)) (Nat.le_trans h2 (by decide)) h3) rfl ?_)
   refine Sat.go (Eq.refl _) (NS.chk (by kernel_rfl) ?_)
   refine Sat.go (Eq.refl _) (NS.chk (by kernel_rfl) ?_)
   refine Sat.go (Eq.refl _) (NS.need (decide_eq_true (by show (0 + 1) * (119 + 1 + 1) ≤ maxRow; decide)) ?_)
   have hwa : (Wst.write ⟨n, [], err⟩ p.1).acts = [] := by cases p.1 <;> rfl
   refine Sat.go (Eq.refl _) (NS.fin (ts := []) rfl ((weak_hd (ts := []) (os := [(23, .box (wCells (Wst.act (Wst.write ⟨n, [], err⟩ p.1) ⟨2, e.item, 0, p.2.1⟩) e (.own 120))), (120, rowAct (Wst.act (Wst.write ⟨n, [], err⟩ p.1) ⟨2, e.item, 0, p.2.1⟩ : Wst).acts)]) (objs0 := wH ⟨n, [], err⟩ e) [(120, 176)] rfl trivial ⟨⟨_, rfl, renW _ (Wst.act (Wst.write ⟨n, [], err⟩ p.1) ⟨2, e.item, 0, p.2.1⟩) e rfl⟩, ren_row rfl (by show 0 + 1 = ((Wst.write ⟨n, [], err⟩ p.1).acts ++ [_]).length; rw [hwa]; rfl) (fun i hi j hj => by show _ = rowL Mb.Act.cells ((Wst.write ⟨n, [], err⟩ p.1).acts ++ [_]) i j; rw [hwa]; exact row_snoc (cells := Mb.Act.cells) (l := []) (x := ⟨2, e.item, 0, p.2.1⟩) rfl i (by have hi : i < ((Wst.write ⟨n, [], err⟩ p.1).acts ++ [_]).length := hi; rw [hwa] at hi; exact hi) j hj), trivial⟩ (Pre_cut (by kernel_rfl)) (by kernel_rfl)).trans (hfin _ ⟨n, [], err⟩ (Wst.act (Wst.write ⟨n, [], err⟩ p.1) ⟨2, e.item, 0, p.2.1⟩) e)) rfl (LeA.refl _))
 ·rw [show kindP ⟨n, [], err⟩ e p.2.1 = 2 by unfold kindP; simp [show (p.2.1 == 4) = false from a1, show (p.2.1 == 5) = false from a2, show (p.2.1 == 3) = false from a3]]
  refine Sat.go (Eq.refl _) (NS.inn (P := Tryz.prog) (vals := [.ptr 23 0, slR p.1]) (objs1 := wL 165 (.box [.ptr 23 0]) ⟨n, [], err⟩ e) (WeakL.keep 165 [4, 23, 33, 110] (by kernel_rfl)) (by kernel_rfl) (LeL.refl _) (by kernel_rfl) (writeP_ok ⟨n, [], err⟩ e p.1 hl (Nat.le_trans h1 (by decide)) (Nat.le_trans h2 (by decide)) h3) rfl ?_)
  refine Sat.go (Eq.refl _) (NS.chk (by kernel_rfl) ?_)
  refine Sat.go (Eq.refl _) (NS.chk (by kernel_rfl) ?_)
  refine Sat.go (Eq.refl _) (NS.need (decide_eq_true (by show (0 + 1) * (119 + 1 + 1) ≤ maxRow; decide)) ?_)
  have hwa : (Wst.write ⟨n, [], err⟩ p.1).acts = [] := by cases p.1 <;> rfl
  refine Sat.go (Eq.refl _) (NS.fin (ts := []) rfl ((weak_hd (ts := []) (os := [(23, .box (wCells (Wst.act (Wst.write ⟨n, [], err⟩ p.1) ⟨2, e.item, 0, p.2.1⟩) e (.own 120))), (120, rowAct (Wst.act (Wst.write ⟨n, [], err⟩ p.1) ⟨2, e.item, 0, p.2.1⟩ : Wst).acts)]) (objs0 := wH ⟨n, [], err⟩ e) [(120, 176)] rfl trivial ⟨⟨_, rfl, renW _ (Wst.act (Wst.write ⟨n, [], err⟩ p.1) ⟨2, e.item, 0, p.2.1⟩) e rfl⟩, ren_row rfl (by show 0 + 1 = ((Wst.write ⟨n, [], err⟩ p.1).acts ++ [_]).length; rw [hwa]; rfl) (fun i hi j hj => by show _ = rowL Mb.Act.cells ((Wst.write ⟨n, [], err⟩ p.1).acts ++ [_]) i j; rw [hwa]; exact row_snoc (cells := Mb.Act.cells) (l := []) (x := ⟨2, e.item, 0, p.2.1⟩) rfl i (by have hi : i < ((Wst.write ⟨n, [], err⟩ p.1).acts ++ [_]).length := hi; rw [hwa] at hi; exact hi) j hj), trivial⟩ (Pre_cut (by kernel_rfl)) (by kernel_rfl)).trans (hfin _ ⟨n, [], err⟩ (Wst.act (Wst.write ⟨n, [], err⟩ p.1) ⟨2, e.item, 0, p.2.1⟩) e)) rfl (LeA.refl _))
end Go.Proofs.YtggjngbighkdgaaGreat

namespace Go.Proofs.YtggjngbighkdgaaGreat
open Go.Sy Go.Mb
set_option maxRecDepth 100000
set_option maxHeartbeats 4000000
theorem rdJN_len : ∀ (k : Nat) (l : List Nat), (rdJN k l).1.length ≤ k
 | 0, _ => Nat.le_refl _
 | k + 1, l => by
  unfold rdJN
  split
  ·exact Nat.zero_le _
  ·rename_i r n _
   have := rdJN_len k (l.drop n)
   simp only [List.length_cons]; omega
theorem rdJA_len (l : List Nat) : (rdJA l).1.length ≤ 65536 := by
 unfold rdJA
 split
 ·exact Nat.zero_le _
 ·rename_i h
  have h : ¬ (l.length : Int) > 65536 := fun q => h (decide_eq_true q)
  have := rdJN_len l.length l
  show (rdJN l.length l).1.length ≤ _
  omega
def jrnD (n : Nod) : Dur × Int := foldM (rdJA (ls n.jour)).1
theorem jrnD_len (n : Nod) : (jrnD n).1.items.length ≤ 65536 ∧ (jrnD n).1.inbox.length ≤ 65536 := by
 have h := foldM_len (rdJA (ls n.jour)).1
 have h2 := rdJA_len (ls n.jour)
 exact ⟨Nat.le_trans h.1 h2, Nat.le_trans h.2 h2⟩
def storedM (n : Nod) : Bool :=
 (rdJA (ls n.jour)).2.2 == 0 && (((rdJA (ls n.jour)).2.1 : Nat) : Int) == (n.jour.size : Int) && (jrnD n).2 == 0 && sameBy Itm.eqv (jrnD n).1.items n.dur.items && sameBy Itm.eqv (jrnD n).1.inbox n.dur.inbox && checkQ (jrnD n).1 n.quota == 0 && chkO n.ofs == 0 && !n.ofs.any fun o => !(findM (jrnD n).1 o.id).2
def emptyN (n : Nod) : Bool := IntKind.i64.wrap (IntKind.i64.wrap ((n.dur.items.length : Int) + (n.dur.inbox.length : Int)) + (n.ofs.length : Int)) == 0
def chkN (n : Nod) : Int :=
 if !inR n.self 0 15 || !inR n.quota 0 1073741824 || !inR n.last 0 (n.jour.size : Int) then 2
 else if decide ((n.jour.size : Int) > 65536) || (n.up && !storedM n) || (!n.up && !emptyN n) then 1 else 0
theorem nWithin_ok (n lo hi : Int) : FnOK Tryz.prog 65 [.int .i64 n, .int .i64 lo, .int .i64 hi] (.bool (inR n lo hi), none) := by
 unfold inR
 refine fn_ok CF rfl (by kernel_rfl) Tryz.func65 rfl ?_
 repeat' (first | (refine Sat.go (Eq.refl _) (NS.ite (fun h => ?_) (fun h => ?_))) | (refine Sat.go (Eq.refl _) (NS.chk (by kernel_rfl) ?_)) | (exact Sat.go (Eq.refl _) (NS.ret rfl rfl (LeA.of (congrArg A.bool (by first | (symm; rw [decide_eq_false_iff_not]; simp only [decide_eq_false_iff_not] at *; omega) | (simp only [decide_eq_true_eq] at *; rw [decide_eq_decide]; omega)))))))
theorem equalI_ok (l m : List Itm) (hl : l.length ≤ 1000000) : FnOK Tryz.prog 99 [slItm l, slItm m] (.bool (sameBy Itm.eqv l m), none) := by
 refine fn_ok CF rfl (by kernel_rfl) Tryz.func99 rfl ?_
 refine Sat.go (Eq.refl _) (NS.ite (fun h0 => ?_) (fun h0 => ?_))
 ·exact Sat.go (Eq.refl _) (NS.ret rfl rfl (LeA.of (congrArg A.bool ((sameBy_len (fun _ _ => Itm.eqv_iff) (by intro e; rw [e] at h0; simp at h0)).symm))))
 have hlm : l.length = m.length := by simp only [bne_eq_false_iff_eq] at h0; omega
 refine Sat.go (Eq.refl _) ?_
 refine NS.loop (σ := { k : Nat // k ≤ l.length ∧ ∀ i, i < k → Itm.eqv (l.getD i default) (m.getD i default) = true }) (fun k => [(0, slItm l), (1, slItm m), (12, .int .i64 l.length), (13, .int .i64 k.1)]) (fun _ => []) (fun k => l.length - k.1) ⟨0, Nat.zero_le _, fun i hi => by omega⟩ ?_ ?_
 ·exact weak_hd [] rfl ⟨rfl, rfl, rfl, rfl, trivial⟩ trivial trivial (by kernel_rfl)
 rintro ⟨k, hk, hn⟩
 refine Sat.go (Eq.refl _) (NS.ite (fun h => ?_) (fun h => ?_))
 ·have h : k < l.length := by simpa using h
  repeat' (first | (refine Sat.go (Eq.refl _) (NS.chk (by kernel_rfl) ?_)) | (refine Sat.go (Eq.refl _) (NS.need (by simp; omega) ?_)))
  refine Sat.go (Eq.refl _) (NS.ite (fun h2 => ?_) (fun h2 => ?_))
  ·exact Sat.go (Eq.refl _) (NS.leaveOut rfl (Eq.refl _) (NS.ret rfl rfl (LeA.of (congrArg A.bool ((sameBy_f (k := k) (fun _ _ => Itm.eqv_iff) (not_t h2)).symm)))))
  ·refine Sat.go (Eq.refl _) (NS.next ⟨k + 1, by omega, fun i hi => ?_⟩ (by simp; omega) ?_)
   ·by_cases hik : i = k
    ·subst hik; exact not_f h2
    ·exact hn i (by omega)
   ·exact weak_hd [] rfl ⟨rfl, rfl, rfl, ren_int rfl (i64_k (by omega) (by omega)), trivial⟩ trivial trivial (by kernel_rfl)
 ·have h : ¬ k < l.length := by simpa using h
  refine Sat.go (Eq.refl _) (NS.leave rfl (Eq.refl _) ?_)
  exact Sat.go (Eq.refl _) (NS.ret rfl rfl (LeA.of (congrArg A.bool ((sameBy_t (fun _ _ => Itm.eqv_iff) hlm fun i hi => hn i (by omega)).symm))))
theorem stored1_ok (d : Dur) (h : d.items.length ≤ 1000000) (o : Ofr) : FnOK Tryz.prog 102 [.agg o.cells, .ip 2 (getA d.cells)] (.bool (!(findM d o.id).2), none) := by
 refine fn_ok CF rfl (by kernel_rfl) Tryz.func102 rfl ?_
 refine Sat.go (Eq.refl _) (NS.call (find_ok d o.id h) rfl ?_)
 exact Sat.go (Eq.refl _) (NS.ret rfl rfl (LeA.refl _))
theorem stored_ok (n : Nod) (h1 : n.dur.items.length ≤ 1000000) (h2 : n.dur.inbox.length ≤ 1000000) : FnOK Tryz.prog 67 [.agg n.cells] (.bool (storedM n), none) := by
 obtain ⟨hj1, hj2⟩ := jrnD_len n
 have hl := rdJA_len (ls n.jour)
 have cf := fold_ok (rdJA (ls n.jour)).1 (by omega)
 have c1 := equalI_ok (jrnD n).1.items n.dur.items (by omega)
 have c2 := equalI_ok (jrnD n).1.inbox n.dur.inbox (by omega)
 have c3 := check_ok (jrnD n).1 n.quota (by omega) (by omega)
 change FnOK _ _ _ (durA (jrnD n), none) at cf
 refine fn_ok CF rfl (by kernel_rfl) Tryz.func67 rfl ?_
 refine Sat.go (Eq.refl _) (NS.call (read_ok n.jour) rfl ?_)
 refine Sat.go (Eq.refl _) (NS.ite (fun a1 => ?_) (fun a1 => ?_))
 ·exact Sat.go (Eq.refl _) (NS.ret rfl rfl (LeA.of (congrArg A.bool (by simp_all [storedM]))))
 refine Sat.go (Eq.refl _) (NS.ite (fun a2 => ?_) (fun a2 => ?_))
 ·exact Sat.go (Eq.refl _) (NS.ret rfl rfl (LeA.of (congrArg A.bool (by simp_all [storedM]))))
 refine Sat.go (Eq.refl _) (NS.call (cf) rfl ?_)
 refine Sat.go (Eq.refl _) (NS.ite (fun a3 => ?_) (fun a3 => ?_))
 ·exact Sat.go (Eq.refl _) (NS.ret rfl rfl (LeA.of (congrArg A.bool (by simp_all [storedM]))))
 refine Sat.go (Eq.refl _) (NS.call (c1) rfl ?_)
 refine Sat.go (Eq.refl _) (NS.ite (fun a4 => ?_) (fun a4 => ?_))
 ·exact Sat.go (Eq.refl _) (NS.ret rfl rfl (LeA.of (congrArg A.bool (by simp_all [storedM]))))
 refine Sat.go (Eq.refl _) (NS.call (c2) rfl ?_)
 refine Sat.go (Eq.refl _) (NS.ite (fun a5 => ?_) (fun a5 => ?_))
 ·exact Sat.go (Eq.refl _) (NS.ret rfl rfl (LeA.of (congrArg A.bool (by simp_all [storedM]))))
 refine Sat.go (Eq.refl _) (NS.call (c3) rfl ?_)
 refine Sat.go (Eq.refl _) (NS.ite (fun a6 => ?_) (fun a6 => ?_))
 ·exact Sat.go (Eq.refl _) (NS.ret rfl rfl (LeA.of (congrArg A.bool (by simp_all [storedM]))))
 refine Sat.go (Eq.refl _) (NS.call (cCheck_ok n.ofs) rfl ?_)
 refine Sat.go (Eq.refl _) (NS.ite (fun a7 => ?_) (fun a7 => ?_))
 ·exact Sat.go (Eq.refl _) (NS.ret rfl rfl (LeA.of (congrArg A.bool (by simp_all [storedM]))))
 refine Sat.wk (weak_freezeP 6 6 2 rfl rfl rfl rfl) ?_
 have hlo : n.ofs.length ≤ 64 := chkO_len (by simpa using a7)
 refine Sat.go (Eq.refl _) (NS.call (contO_ok n.ofs (by omega) 102 2 (getA (jrnD n).1.cells) (fun o => !(findM (jrnD n).1 o.id).2) (stored1_ok _ (by omega))) rfl ?_)
 exact Sat.go (Eq.refl _) (NS.ret rfl rfl (LeA.of (congrArg A.bool (by simp_all [storedM]))))
theorem nCheck_ok (n : Nod) (h1 : n.dur.items.length ≤ 1000000) (h2 : n.dur.inbox.length ≤ 1000000) (h3 : n.ofs.length ≤ 1000000) : FnOK Tryz.prog 20 [.agg n.cells] (.int .i64 (chkN n), none) := by
 refine fn_ok CF rfl (by kernel_rfl) Tryz.func20 rfl ?_
 refine Sat.go (Eq.refl _) (NS.call (nWithin_ok n.self 0 15) rfl ?_)
 refine Sat.go (Eq.refl _) (NS.ite (fun a1 => ?_) (fun a1 => ?_))
 ·exact Sat.go (Eq.refl _) (NS.ret rfl rfl (LeA.of (congrArg (A.int .i64) (by simp_all [chkN]))))
 refine Sat.go (Eq.refl _) (NS.call (nWithin_ok n.quota 0 1073741824) rfl ?_)
 refine Sat.go (Eq.refl _) (NS.ite (fun a2 => ?_) (fun a2 => ?_))
 ·exact Sat.go (Eq.refl _) (NS.ret rfl rfl (LeA.of (congrArg (A.int .i64) (by simp_all [chkN]))))
 refine Sat.go (Eq.refl _) (NS.call (nWithin_ok n.last 0 (n.jour.size : Int)) rfl ?_)
 refine Sat.go (Eq.refl _) (NS.ite (fun a3 => ?_) (fun a3 => ?_))
 ·exact Sat.go (Eq.refl _) (NS.ret rfl rfl (LeA.of (congrArg (A.int .i64) (by simp_all [chkN]))))
 refine Sat.go (Eq.refl _) (NS.ite (fun a4 => ?_) (fun a4 => ?_))
 ·exact Sat.go (Eq.refl _) (NS.ret rfl rfl (LeA.of (congrArg (A.int .i64) (by simp_all [chkN]))))
 refine Sat.go (Eq.refl _) (NS.ite (fun a5 => ?_) (fun a5 => ?_))
 ·refine Sat.go (Eq.refl _) (NS.call (stored_ok n h1 h2) rfl ?_)
  refine Sat.go (Eq.refl _) (NS.ite (fun a6 => ?_) (fun a6 => ?_))
  ·exact Sat.go (Eq.refl _) (NS.ret rfl rfl (LeA.of (congrArg (A.int .i64) (by simp_all [chkN]))))
  ·refine Sat.go (Eq.refl _) (NS.no (by rw [show n.up = true from a5]; rfl) ?_)
   exact Sat.go (Eq.refl _) (NS.ret rfl rfl (LeA.of (congrArg (A.int .i64) (by simp_all [chkN]))))
 ·refine Sat.go (Eq.refl _) (NS.yes (by rw [show n.up = false from a5]; rfl) ?_)
  refine Sat.go (Eq.refl _) (NS.ite (fun a7 => ?_) (fun a7 => ?_))
  ·exact Sat.go (Eq.refl _) (NS.ret rfl rfl (LeA.of (congrArg (A.int .i64) (by simp_all [chkN, emptyN]))))
  ·exact Sat.go (Eq.refl _) (NS.ret rfl rfl (LeA.of (congrArg (A.int .i64) (by simp_all [chkN, emptyN]))))
def newN (self quota : Int) : Nod × Int := if !inR self 0 15 || !inR quota 0 1073741824 then (zeroN, 2) else (⟨self, quota, true, .empty, 0, ⟨[], []⟩, []⟩, 0)
theorem zeroN_le {a : List A} (h : a = [.int .i64 0, .int .i64 0, .bool false, .str .empty, .int .i64 0, .nils, .nils, .nils]) : LeA (.agg a) (.agg zeroN.cells) := by
 subst h
 exact LeA.agg (LeL.cons (LeA.refl _) (LeL.cons (LeA.refl _) (LeL.cons (LeA.refl _) (LeL.cons (LeA.refl _) (LeL.cons (LeA.refl _) (LeL.cons (LeA.nil' rfl) (LeL.cons (LeA.nil' rfl) (LeL.cons (LeA.nil' rfl) LeL.nil))))))))
theorem nNew_ok (self quota : Int) : FnOK Tryz.prog 17 [.int .i64 self, .int .i64 quota] (.tup [.agg (newN self quota).1.cells, .int .i64 (newN self quota).2], none) := by
 refine fn_ok CF rfl (by kernel_rfl) Tryz.func17 rfl ?_
 refine Sat.go (Eq.refl _) (NS.call (nWithin_ok self 0 15) rfl ?_)
 refine Sat.go (Eq.refl _) (NS.ite (fun a1 => ?_) (fun a1 => ?_))
 ·rw [show newN self quota = (zeroN, 2) by unfold newN; rw [if_pos (by rw [a1]; rfl)]]
  exact Sat.go (Eq.refl _) (NS.ret rfl rfl (LeA.tup2 (zeroN_le rfl) (LeA.refl _)))
 refine Sat.go (Eq.refl _) (NS.call (nWithin_ok quota 0 1073741824) rfl ?_)
 refine Sat.go (Eq.refl _) (NS.ite (fun a2 => ?_) (fun a2 => ?_))
 ·rw [show newN self quota = (zeroN, 2) by unfold newN; rw [if_pos (by rw [a2, Bool.or_true])]]
  exact Sat.go (Eq.refl _) (NS.ret rfl rfl (LeA.tup2 (zeroN_le rfl) (LeA.refl _)))
 rw [show newN self quota = (⟨self, quota, true, .empty, 0, ⟨[], []⟩, []⟩, 0) by unfold newN; rw [if_neg (by rw [a1, a2]; decide)]]
 exact Sat.go (Eq.refl _) (NS.ret rfl rfl (LeA.tup2 (LeA.agg (LeL.cons (LeA.refl _) (LeL.cons (LeA.refl _) (LeL.cons (LeA.refl _) (LeL.cons (LeA.refl _) (LeL.cons (LeA.refl _) (LeL.cons (LeA.nil' rfl) (LeL.cons (LeA.nil' rfl) (LeL.cons (LeA.nil' rfl) LeL.nil))))))))) (LeA.refl _)))
theorem recErr_id (x : Nid) : (recErr ⟨2, .zero, x, 0, 0⟩ == 0) = vId x := by
 rw [vId_valid]
 unfold recErr
 have h1 : inR 2 1 4 = true := rfl
 have h2 : inR 0 0 1099511627776 = true := rfl
 simp [h1, h2, Itm.eqv]
 cases validId x <;> rfl
theorem recErr_id' (x : Nid) : recErr ⟨2, .zero, x, 0, 0⟩ = 0 ↔ vId x = true := by rw [← recErr_id]; simp
theorem recErr_st' (x : Itm) : recErr ⟨1, x, .zero, 0, 0⟩ = 0 ↔ okItem x = true := by rw [← recErr_store]; simp
theorem checkEvent_ok (e : Evt) : FnOK Tryz.prog 109 [.agg e.cells] (.int .i64 (evE e), none) := by
 refine fn_ok CF rfl (by kernel_rfl) Tryz.func109 rfl ?_
 refine Sat.go (Eq.refl _) (NS.call (nWithin_ok e.kind 1 7) rfl ?_)
 refine Sat.go (Eq.refl _) (NS.ite (fun a1 => ?_) (fun a1 => ?_))
 ·exact Sat.go (Eq.refl _) (NS.ret rfl rfl (LeA.of (congrArg (A.int .i64) (by simp_all [evE]))))
 refine Sat.go (Eq.refl _) (NS.call (jCheck_ok ⟨2, .zero, e.id, 0, 0⟩) rfl ?_)
 refine Sat.go (Eq.refl _) (NS.call (nWithin_ok e.contact 0 63) rfl ?_)
 refine Sat.go (Eq.refl _) (NS.call (nWithin_ok e.time 0 1099511627776) rfl ?_)
 repeat' (first | (refine Sat.go (Eq.refl _) (NS.ite (fun h => ?_) (fun h => ?_))) | (refine Sat.go (Eq.refl _) (NS.chk (by kernel_rfl) ?_)) | (refine Sat.go (Eq.refl _) (NS.call (jCheck_ok ⟨1, e.item, .zero, 0, 0⟩) rfl ?_)) | (refine Sat.go (Eq.refl _) (NS.call (nWithin_ok e.due 0 1099511627777) rfl ?_)) | (refine Sat.go (Eq.refl _) (NS.call (nWithin_ok e.ticket 0 1152921504606846976) rfl ?_)) | (exact Sat.go (Eq.refl _) (NS.ret rfl rfl (LeA.of (congrArg (A.int .i64) (by simp_all [evE, recErr_id', recErr_st']))))))
end Go.Proofs.YtggjngbighkdgaaGreat

namespace Go.Proofs.YtggjngbighkdgaaGreat
open Go.Sy Go.Mb
set_option maxRecDepth 100000
set_option maxHeartbeats 4000000
theorem mapOKG : MapTab Tryz.prog [(139, false, 1)] := by
 intro p hp
 simp only [List.mem_cons, List.not_mem_nil, or_false] at hp
 subst hp
 exact ⟨3, 1, by kernel_rfl, mapLaw_int (by kernel_rfl)⟩
noncomputable def EG : Env := { P := Tryz.prog, eqT := lookE eqTab, mps := lookMp [(139, false, 1)], mu := [110, 111, 112, 113, 114, 115, 116] }
theorem EG_ok : EqOK EG := eqOK_mp eqTab_ok mapOKG
noncomputable def CG : Cx := { E := EG, inl := [], ok := EG_ok }
def nodA (r : Nod × List Mb.Act × Int) : A := .tup [.agg r.1.cells, slAct r.2.1, .int .i64 r.2.2]
theorem evE_kind {e : Evt} (h : evE e = 0) : 1 ≤ e.kind ∧ e.kind ≤ 7 := by
 unfold evE at h
 split at h
 ·cases h
 ·rename_i q
  have q : inR e.kind 1 7 = true := by simpa using q
  exact inR_iff.1 q
theorem handle_ok (n : Nod) (e : Evt) (h1 : n.dur.items.length ≤ 200000) (h2 : n.dur.inbox.length ≤ 200000) (h3 : n.jour.size ≤ 100000) (h4 : n.ofs.length ≤ 1000) : FnOK Tryz.prog 74 [.agg n.cells, .agg e.cells] (nodA (goM n e), none) := by
 have hz : Sz (startW n) 0 := ⟨h1, h2, h3, h4, Nat.le_refl _⟩
 refine fn_ok CG rfl (by kernel_rfl) Tryz.func74 rfl ?_
 refine Sat.go (Eq.refl _) (NS.call (checkEvent_ok e) rfl ?_)
 refine Sat.go (Eq.refl _) (NS.ite (fun a1 => ?_) (fun a1 => ?_))
 ·rw [show goM n e = (zeroN, [], evE e) from if_pos a1]
  exact Sat.go (Eq.refl _) (NS.ret rfl rfl (LeA.tup3 (zeroN_le rfl) (LeA.nil' rfl) (LeA.refl _)))
 have hk := evE_kind (by simpa using a1)
 refine Sat.go (Eq.refl _) (NS.ite (fun a2 => ?_) (fun a2 => ?_))
 ·rw [show goM n e = (zeroN, [], 29) by unfold goM; rw [if_neg (by rw [a1]; decide), if_pos a2]]
  exact Sat.go (Eq.refl _) (NS.ret rfl rfl (LeA.tup3 (zeroN_le rfl) (LeA.nil' rfl) (LeA.refl _)))
 rw [show goM n e = if (kindW (startW n) e).err != 0 then _ else _ by unfold goM; rw [if_neg (by rw [a1]; decide), if_neg (by rw [a2]; decide)]]
 clear a1
 obtain ⟨kind, time, item, id, contact, due, acc, ticket⟩ := e
 simp only at hk
 have hk7 : kind = 1 ∨ kind = 2 ∨ kind = 3 ∨ kind = 4 ∨ kind = 5 ∨ kind = 6 ∨ kind = 7 := by omega
 rcases hk7 with rfl | rfl | rfl | rfl | rfl | rfl | rfl
 ·refine Sat.go (Eq.refl _) (NS.no (rfl) ?_)
  refine Sat.go (Eq.refl _) (NS.no (rfl) ?_)
  refine Sat.go (Eq.refl _) (NS.no (rfl) ?_)
  refine Sat.go (Eq.refl _) (NS.no (rfl) ?_)
  refine Sat.go (Eq.refl _) (NS.no (rfl) ?_)
  refine Sat.go (Eq.refl _) (NS.no (rfl) ?_)
  refine Sat.go (Eq.refl _) (NS.yes (rfl) ?_)
  rw [show kindW (startW n) ⟨1, time, item, id, contact, due, acc, ticket⟩ = putW (startW n) ⟨1, time, item, id, contact, due, acc, ticket⟩ from rfl]
  refine Sat.go (Eq.refl _) (NS.inn (P := Tryz.prog) (vals := [.ptr 23 0]) (objs1 := wH (startW n) ⟨1, time, item, id, contact, due, acc, ticket⟩) (WeakL.keep 32 [4, 23] (by kernel_rfl)) (by kernel_rfl) (LeL.refl _) (by kernel_rfl) (putW_ok (startW n) ⟨1, time, item, id, contact, due, acc, ticket⟩ rfl hz) rfl ?_)
  refine Sat.go (Eq.refl _) (NS.ite (fun b1 => ?_) (fun b1 => ?_))
  ·rw [if_pos b1]
   refine Sat.go (Eq.refl _) (NS.chk (by kernel_rfl) ?_)
   exact Sat.go (Eq.refl _) (NS.ret rfl rfl (LeA.tup3 (zeroN_le rfl) (LeA.nil' rfl) (LeA.refl _)))
  ·rw [if_neg (by rw [b1]; decide)]
   refine Sat.go (Eq.refl _) (NS.chk (by kernel_rfl) ?_)
   exact Sat.go (Eq.refl _) (NS.ret rfl rfl (LeA.refl _))
 ·refine Sat.go (Eq.refl _) (NS.no (rfl) ?_)
  refine Sat.go (Eq.refl _) (NS.no (rfl) ?_)
  refine Sat.go (Eq.refl _) (NS.no (rfl) ?_)
  refine Sat.go (Eq.refl _) (NS.no (rfl) ?_)
  refine Sat.go (Eq.refl _) (NS.no (rfl) ?_)
  refine Sat.go (Eq.refl _) (NS.yes (rfl) ?_)
  rw [show kindW (startW n) ⟨2, time, item, id, contact, due, acc, ticket⟩ = sendW (startW n) ⟨2, time, item, id, contact, due, acc, ticket⟩ from rfl]
  refine Sat.go (Eq.refl _) (NS.inn (P := Tryz.prog) (vals := [.ptr 23 0]) (objs1 := wH (startW n) ⟨2, time, item, id, contact, due, acc, ticket⟩) (WeakL.keep 32 [4, 23] (by kernel_rfl)) (by kernel_rfl) (LeL.refl _) (by kernel_rfl) (sendW_ok (startW n) ⟨2, time, item, id, contact, due, acc, ticket⟩ rfl hz) rfl ?_)
  refine Sat.go (Eq.refl _) (NS.ite (fun b1 => ?_) (fun b1 => ?_))
  ·rw [if_pos b1]
   refine Sat.go (Eq.refl _) (NS.chk (by kernel_rfl) ?_)
   exact Sat.go (Eq.refl _) (NS.ret rfl rfl (LeA.tup3 (zeroN_le rfl) (LeA.nil' rfl) (LeA.refl _)))
  ·rw [if_neg (by rw [b1]; decide)]
   refine Sat.go (Eq.refl _) (NS.chk (by kernel_rfl) ?_)
   exact Sat.go (Eq.refl _) (NS.ret rfl rfl (LeA.refl _))
 ·refine Sat.go (Eq.refl _) (NS.no (rfl) ?_)
  refine Sat.go (Eq.refl _) (NS.no (rfl) ?_)
  refine Sat.go (Eq.refl _) (NS.no (rfl) ?_)
  refine Sat.go (Eq.refl _) (NS.no (rfl) ?_)
  refine Sat.go (Eq.refl _) (NS.yes (rfl) ?_)
  rw [show kindW (startW n) ⟨3, time, item, id, contact, due, acc, ticket⟩ = signalW (startW n) ⟨3, time, item, id, contact, due, acc, ticket⟩ from rfl]
  refine Sat.go (Eq.refl _) (NS.inn (P := Tryz.prog) (vals := [.ptr 23 0]) (objs1 := wH (startW n) ⟨3, time, item, id, contact, due, acc, ticket⟩) (WeakL.keep 32 [4, 23] (by kernel_rfl)) (by kernel_rfl) (LeL.refl _) (by kernel_rfl) (signalW_ok (startW n) ⟨3, time, item, id, contact, due, acc, ticket⟩ rfl hz) rfl ?_)
  refine Sat.go (Eq.refl _) (NS.ite (fun b1 => ?_) (fun b1 => ?_))
  ·rw [if_pos b1]
   refine Sat.go (Eq.refl _) (NS.chk (by kernel_rfl) ?_)
   exact Sat.go (Eq.refl _) (NS.ret rfl rfl (LeA.tup3 (zeroN_le rfl) (LeA.nil' rfl) (LeA.refl _)))
  ·rw [if_neg (by rw [b1]; decide)]
   refine Sat.go (Eq.refl _) (NS.chk (by kernel_rfl) ?_)
   exact Sat.go (Eq.refl _) (NS.ret rfl rfl (LeA.refl _))
 ·refine Sat.go (Eq.refl _) (NS.no (rfl) ?_)
  refine Sat.go (Eq.refl _) (NS.no (rfl) ?_)
  refine Sat.go (Eq.refl _) (NS.no (rfl) ?_)
  refine Sat.go (Eq.refl _) (NS.yes (rfl) ?_)
  rw [show kindW (startW n) ⟨4, time, item, id, contact, due, acc, ticket⟩ = timerW (startW n) ⟨4, time, item, id, contact, due, acc, ticket⟩ from rfl]
  refine Sat.go (Eq.refl _) (NS.inn (P := Tryz.prog) (vals := [.ptr 23 0]) (objs1 := wH (startW n) ⟨4, time, item, id, contact, due, acc, ticket⟩) (WeakL.keep 32 [4, 23] (by kernel_rfl)) (by kernel_rfl) (LeL.refl _) (by kernel_rfl) (timerW_ok (startW n) ⟨4, time, item, id, contact, due, acc, ticket⟩ rfl hz) rfl ?_)
  refine Sat.go (Eq.refl _) (NS.ite (fun b1 => ?_) (fun b1 => ?_))
  ·rw [if_pos b1]
   refine Sat.go (Eq.refl _) (NS.chk (by kernel_rfl) ?_)
   exact Sat.go (Eq.refl _) (NS.ret rfl rfl (LeA.tup3 (zeroN_le rfl) (LeA.nil' rfl) (LeA.refl _)))
  ·rw [if_neg (by rw [b1]; decide)]
   refine Sat.go (Eq.refl _) (NS.chk (by kernel_rfl) ?_)
   exact Sat.go (Eq.refl _) (NS.ret rfl rfl (LeA.refl _))
 ·refine Sat.go (Eq.refl _) (NS.no (rfl) ?_)
  refine Sat.go (Eq.refl _) (NS.no (rfl) ?_)
  refine Sat.go (Eq.refl _) (NS.yes (rfl) ?_)
  rw [show kindW (startW n) ⟨5, time, item, id, contact, due, acc, ticket⟩ = expireW (startW n) ⟨5, time, item, id, contact, due, acc, ticket⟩ from rfl]
  refine Sat.go (Eq.refl _) (NS.inn (P := Tryz.prog) (vals := [.ptr 23 0]) (objs1 := wH (startW n) ⟨5, time, item, id, contact, due, acc, ticket⟩) (WeakL.keep 32 [4, 23] (by kernel_rfl)) (by kernel_rfl) (LeL.refl _) (by kernel_rfl) (expireW_ok (startW n) ⟨5, time, item, id, contact, due, acc, ticket⟩ rfl hz) rfl ?_)
  refine Sat.go (Eq.refl _) (NS.ite (fun b1 => ?_) (fun b1 => ?_))
  ·rw [if_pos b1]
   refine Sat.go (Eq.refl _) (NS.chk (by kernel_rfl) ?_)
   exact Sat.go (Eq.refl _) (NS.ret rfl rfl (LeA.tup3 (zeroN_le rfl) (LeA.nil' rfl) (LeA.refl _)))
  ·rw [if_neg (by rw [b1]; decide)]
   refine Sat.go (Eq.refl _) (NS.chk (by kernel_rfl) ?_)
   exact Sat.go (Eq.refl _) (NS.ret rfl rfl (LeA.refl _))
 ·refine Sat.go (Eq.refl _) (NS.no (rfl) ?_)
  refine Sat.go (Eq.refl _) (NS.yes (rfl) ?_)
  rw [show kindW (startW n) ⟨6, time, item, id, contact, due, acc, ticket⟩ = dropW (startW n) ⟨6, time, item, id, contact, due, acc, ticket⟩ from rfl]
  refine Sat.go (Eq.refl _) (NS.inn (P := Tryz.prog) (vals := [.ptr 23 0]) (objs1 := wH (startW n) ⟨6, time, item, id, contact, due, acc, ticket⟩) (WeakL.keep 32 [4, 23] (by kernel_rfl)) (by kernel_rfl) (LeL.refl _) (by kernel_rfl) (dropW_ok (startW n) ⟨6, time, item, id, contact, due, acc, ticket⟩ rfl hz) rfl ?_)
  refine Sat.go (Eq.refl _) (NS.ite (fun b1 => ?_) (fun b1 => ?_))
  ·rw [if_pos b1]
   refine Sat.go (Eq.refl _) (NS.chk (by kernel_rfl) ?_)
   exact Sat.go (Eq.refl _) (NS.ret rfl rfl (LeA.tup3 (zeroN_le rfl) (LeA.nil' rfl) (LeA.refl _)))
  ·rw [if_neg (by rw [b1]; decide)]
   refine Sat.go (Eq.refl _) (NS.chk (by kernel_rfl) ?_)
   exact Sat.go (Eq.refl _) (NS.ret rfl rfl (LeA.refl _))
 ·refine Sat.go (Eq.refl _) (NS.yes (rfl) ?_)
  rw [show kindW (startW n) ⟨7, time, item, id, contact, due, acc, ticket⟩ = ticketW (startW n) ⟨7, time, item, id, contact, due, acc, ticket⟩ from rfl]
  refine Sat.go (Eq.refl _) (NS.inn (P := Tryz.prog) (vals := [.ptr 23 0]) (objs1 := wH (startW n) ⟨7, time, item, id, contact, due, acc, ticket⟩) (WeakL.keep 32 [4, 23] (by kernel_rfl)) (by kernel_rfl) (LeL.refl _) (by kernel_rfl) (ticketW_ok (startW n) ⟨7, time, item, id, contact, due, acc, ticket⟩ rfl hz) rfl ?_)
  refine Sat.go (Eq.refl _) (NS.ite (fun b1 => ?_) (fun b1 => ?_))
  ·rw [if_pos b1]
   refine Sat.go (Eq.refl _) (NS.chk (by kernel_rfl) ?_)
   exact Sat.go (Eq.refl _) (NS.ret rfl rfl (LeA.tup3 (zeroN_le rfl) (LeA.nil' rfl) (LeA.refl _)))
  ·rw [if_neg (by rw [b1]; decide)]
   refine Sat.go (Eq.refl _) (NS.chk (by kernel_rfl) ?_)
   exact Sat.go (Eq.refl _) (NS.ret rfl rfl (LeA.refl _))
end Go.Proofs.YtggjngbighkdgaaGreat

namespace Go.Proofs.YtggjngbighkdgaaGreat
open Go.Sy Go.Mb
set_option maxRecDepth 100000
set_option maxHeartbeats 4000000
def Grw (n m : Nod) (i b o : Nat) : Prop := m.dur.items.length ≤ n.dur.items.length + i ∧ m.dur.inbox.length ≤ n.dur.inbox.length + b ∧ (m.jour.size ≤ 65536 ∨ m.jour = n.jour) ∧ m.ofs.length ≤ n.ofs.length + o
theorem Grw.refl (n : Nod) : Grw n n 0 0 0 := ⟨Nat.le_refl _, Nat.le_refl _, .inr rfl, Nat.le_refl _⟩
theorem Grw.trans {a b c : Nod} {i j k i' j' k' : Nat} (h : Grw a b i j k) (h' : Grw b c i' j' k') : Grw a c (i + i') (j + j') (k + k') := by
 obtain ⟨h1, h2, h3, h4⟩ := h
 obtain ⟨g1, g2, g3, g4⟩ := h'
 refine ⟨by omega, by omega, ?_, by omega⟩
 rcases g3 with g3 | g3
 ·exact .inl g3
 ·rcases h3 with h3 | h3
  ·exact .inl (by rw [g3]; exact h3)
  ·exact .inr (g3.trans h3)
theorem Grw.le {a b : Nod} {i j k i' j' k' : Nat} (h : Grw a b i j k) (h1 : i ≤ i') (h2 : j ≤ j') (h3 : k ≤ k') : Grw a b i' j' k' := by
 obtain ⟨g1, g2, g3, g4⟩ := h
 exact ⟨by omega, by omega, g3, by omega⟩
theorem grw_wr (n : Nod) (r : Jrec) : Grw n (wr n r).1 (if r.kind = 1 then 1 else 0) (if r.kind = 3 then 1 else 0) 0 := by
 obtain ⟨h1, h2, h3, h4⟩ := wr_sz n r
 exact ⟨h1, h2, h3, by rw [h4]; exact Nat.le_refl _⟩
theorem grw_remove (w : Wst) (t : Int) (x : Itm) : Grw w.n (w.remove t x).n 0 0 0 := by
 have h : Grw w.n (wr w.n ⟨2, .zero, x.id, 0, t⟩).1 0 0 0 := grw_wr w.n ⟨2, .zero, x.id, 0, t⟩
 exact ⟨h.1, h.2.1, h.2.2.1, Nat.le_trans (List.length_filter_le _ _) h.2.2.2⟩
theorem grw_settle (w : Wst) (t : Int) (id : Nid) (s a : Bool) : Grw w.n (w.settle t id s a).n 0 0 0 := by
 unfold Wst.settle
 split
 ·exact .refl _
 ·split
  ·exact .refl _
  ·exact grw_remove _ _ _
theorem grw_tm (l : List Ofr) (t : Int) (w : Wst) : ∀ k, Grw w.n (tmN l t w k).n 0 0 0
 | 0 => .refl _
 | k + 1 => by
  unfold tmN
  split
  ·exact (grw_tm l t w k).trans (grw_settle _ _ _ _ _)
  ·exact grw_tm l t w k
theorem grw_ex (l : List Jrec) (t : Int) (w : Wst) : ∀ k, Grw w.n (exN l t w k).n 0 0 0
 | 0 => .refl _
 | k + 1 => by
  unfold exN
  split
  ·exact (grw_ex l t w k).trans (grw_remove _ _ _)
  ·exact grw_ex l t w k
theorem grw_write (w : Wst) (l : List Jrec) : Grw w.n (w.write l).n 1 1 0 := by
 cases l with
 | nil => exact (Grw.refl _).le (by omega) (by omega) (by omega)
 | cons r l => exact (grw_wr w.n r).le (by split <;> omega) (by split <;> omega) (by omega)
theorem filt_two {α : Type} (p : α → Bool) (l : List α) : (l.filter p).length + (l.filter (nt p)).length = l.length := by
 induction l with
 | nil => rfl
 | cons x l ih =>
  rw [List.filter_cons, List.filter_cons]
  cases h : p x
  ·rw [if_neg (by decide), if_pos (by unfold nt; rw [h]; rfl)]
   simp only [List.length_cons]; omega
  ·rw [if_pos rfl, if_neg (by unfold nt; rw [h]; decide)]
   simp only [List.length_cons]; omega
theorem beginM_len (l : List Ofr) (x : Nid) (c d : Int) : (beginM l x c d).1.length ≤ l.length + 1 := by
 unfold beginM
 simp only
 repeat' split
 all_goals try (simp; done)
 have h := filt_two (fun p => ltO p ⟨x, c, d, ((l.filter (ofId x)).length : Int)⟩) l
 simp only [List.length_append, List.length_singleton]
 omega
theorem grw_kind (w : Wst) (e : Evt) : Grw w.n (kindW w e).n 1 1 1 := by
 unfold kindW
 split
 ·unfold putW
  split
  ·exact (Grw.refl _).le (by omega) (by omega) (by omega)
  ·exact (grw_write w _).le (by omega) (by omega) (by omega)
 split
 ·unfold sendW
  split
  ·exact (Grw.refl _).le (by omega) (by omega) (by omega)
  ·split
   ·exact ⟨Nat.le_add_right _ _, Nat.le_add_right _ _, .inr rfl, beginM_len _ _ _ _⟩
   ·split
    ·exact (Grw.refl _).le (by omega) (by omega) (by omega)
    ·exact (Grw.refl _).le (by omega) (by omega) (by omega)
 split
 ·unfold signalW
  split
  ·exact (Grw.refl _).le (by omega) (by omega) (by omega)
  ·have h : Grw w.n (w.setO (signalM w.n.ofs e.id e.contact).1).n 0 0 0 := ⟨Nat.le_refl _, Nat.le_refl _, .inr rfl, signalM_len _ _ _⟩
   exact (h.trans (grw_settle _ _ _ _ _)).le (by omega) (by omega) (by omega)
 split
 ·have h : Grw w.n (w.setO (dueM w.n.ofs e.time).2.1).n 0 0 0 := ⟨Nat.le_refl _, Nat.le_refl _, .inr rfl, (dueM_len _ _).2⟩
  exact (h.trans (grw_tm _ _ _ _)).le (by omega) (by omega) (by omega)
 split
 ·unfold expireW
  split
  ·exact (Grw.refl _).le (by omega) (by omega) (by omega)
  ·exact (grw_ex _ _ _ _).le (by omega) (by omega) (by omega)
 split
 ·unfold dropW
  split
  ·exact (grw_remove _ _ _).le (by omega) (by omega) (by omega)
  ·exact (Grw.refl _).le (by omega) (by omega) (by omega)
 ·unfold ticketW
  split
  ·exact (grw_write _ _).le (by omega) (by omega) (by omega)
  ·exact (Grw.refl _).le (by omega) (by omega) (by omega)
theorem acts_kind (w : Wst) (e : Evt) (hz : Sz w 0) : (kindW w e).acts.length ≤ 200000 := by
 have h0 : w.acts.length = 0 := by have := hz.2.2.2.2; omega
 have hw : ∀ l, (w.write l).acts = w.acts := fun l => by cases l <;> rfl
 unfold kindW
 split
 ·unfold putW
  split
  ·show w.acts.length ≤ _; omega
  ·show ((w.write _).acts ++ [_]).length ≤ _; rw [hw]; simp; omega
 split
 ·unfold sendW
  split
  ·omega
  ·split
   ·show (w.acts ++ [_]).length ≤ _; simp; omega
   ·split
    ·omega
    ·show w.acts.length ≤ _; omega
 split
 ·unfold signalW
  split
  ·omega
  ·have h : Sz (w.setO (signalM w.n.ofs e.id e.contact).1) 0 := ⟨hz.1, hz.2.1, hz.2.2.1, Nat.le_trans (signalM_len _ _ _) hz.2.2.2.1, hz.2.2.2.2⟩
   have := (h.settle e.time e.id true e.acc).2.2.2.2
   omega
 split
 ·have h : Sz (w.setO (dueM w.n.ofs e.time).2.1) 0 := ⟨hz.1, hz.2.1, hz.2.2.1, Nat.le_trans (dueM_len _ _).2 hz.2.2.2.1, hz.2.2.2.2⟩
  have := (h.tmN (dueM w.n.ofs e.time).1 e.time (dueM w.n.ofs e.time).1.length).2.2.2.2
  have h2 := (dueM_len w.n.ofs e.time).1
  have h3 := hz.2.2.2.1
  show (tmN _ _ _ _).acts.length ≤ _
  omega
 split
 ·unfold expireW
  split
  ·show w.acts.length ≤ _; omega
  ·have := (hz.exN (expireM w.n.dur e.time).1 e.time (expireM w.n.dur e.time).1.length).2.2.2.2
   have h2 := expireM_len w.n.dur e.time
   have h3 := hz.1
   omega
 split
 ·unfold dropW
  split
  ·have := (hz.remove e.time (findM w.n.dur e.id).1).2.2.2.2
   omega
  ·omega
 ·unfold ticketW
  split
  ·rw [hw]; omega
  ·omega
def Szn (n : Nod) (k : Nat) : Prop := n.dur.items.length ≤ 100000 + k ∧ n.dur.inbox.length ≤ 100000 + k ∧ n.jour.size ≤ 100000 ∧ n.ofs.length ≤ 500 + k
theorem Szn.le {n : Nod} {a b : Nat} (h : Szn n a) (hab : a ≤ b) : Szn n b := ⟨by have := h.1; omega, by have := h.2.1; omega, h.2.2.1, by have := h.2.2.2; omega⟩
theorem szn_zero (k : Nat) : Szn zeroN k := ⟨Nat.zero_le _, Nat.zero_le _, by decide, Nat.zero_le _⟩
theorem Szn.go {n : Nod} {k : Nat} (h : Szn n k) (hk : k ≤ 400) (e : Evt) : Szn (goM n e).1 (k + 1) ∧ (goM n e).2.1.length ≤ 200000 := by
 obtain ⟨h1, h2, h3, h4⟩ := h
 have hz : Sz (startW n) 0 := ⟨show n.dur.items.length ≤ _ by omega, show n.dur.inbox.length ≤ _ by omega, h3, show n.ofs.length ≤ _ by omega, Nat.le_refl _⟩
 unfold goM
 split
 ·exact ⟨szn_zero _, Nat.zero_le _⟩
 split
 ·exact ⟨szn_zero _, Nat.zero_le _⟩
 split
 ·exact ⟨szn_zero _, Nat.zero_le _⟩
 ·obtain ⟨g1, g2, g3, g4⟩ := grw_kind (startW n) e
  have g1 : (kindW (startW n) e).n.dur.items.length ≤ n.dur.items.length + 1 := g1
  have g2 : (kindW (startW n) e).n.dur.inbox.length ≤ n.dur.inbox.length + 1 := g2
  have g4 : (kindW (startW n) e).n.ofs.length ≤ n.ofs.length + 1 := g4
  have g3 : (kindW (startW n) e).n.jour.size ≤ 65536 ∨ (kindW (startW n) e).n.jour = n.jour := g3
  refine ⟨⟨?_, ?_, ?_, ?_⟩, acts_kind _ _ hz⟩
  ·show (kindW (startW n) e).n.dur.items.length ≤ _; omega
  ·show (kindW (startW n) e).n.dur.inbox.length ≤ _; omega
  ·show (kindW (startW n) e).n.jour.size ≤ _
   rcases g3 with g3 | g3
   ·omega
   ·rw [g3]; exact h3
  ·show (kindW (startW n) e).n.ofs.length ≤ _; omega
def playG : Nod → List Mb.Act → List Evt → Int → Nod × List Mb.Act × Int × Int
 | n, out, [], i => (n, out, i, 0)
 | n, out, e :: l, i => if (goM n e).2.2 != 0 then (zeroN, [], i, (goM n e).2.2) else playG (goM n e).1 (out ++ (goM n e).2.1) l (i + 1)
def playM (n : Nod) (l : List Evt) : Nod × List Mb.Act × Int × Int := if chkN n != 0 then (zeroN, [], 0, 1) else playG n [] l 0
def handM (n : Nod) (e : Evt) : Nod × List Mb.Act × Int := if chkN n != 0 then (zeroN, [], 1) else goM n e
def playA (r : Nod × List Mb.Act × Int × Int) : A := .tup [.agg r.1.cells, slAct r.2.1, .int .i64 r.2.2.1, .int .i64 r.2.2.2]
theorem nHandle_ok (n : Nod) (e : Evt) (h : Szn n 100) : FnOK Tryz.prog 27 [.agg n.cells, .agg e.cells] (nodA (handM n e), none) := by
 obtain ⟨h1, h2, h3, h4⟩ := h
 unfold handM
 refine fn_ok CF rfl (by kernel_rfl) Tryz.func27 rfl ?_
 refine Sat.go (Eq.refl _) (NS.call (nCheck_ok n (by omega) (by omega) (by omega)) rfl ?_)
 refine Sat.go (Eq.refl _) (NS.ite (fun a1 => ?_) (fun a1 => ?_))
 ·rw [if_pos a1]
  exact Sat.go (Eq.refl _) (NS.ret rfl rfl (LeA.tup3 (zeroN_le rfl) (LeA.nil' rfl) (LeA.refl _)))
 rw [if_neg (by rw [a1]; decide)]
 refine Sat.go (Eq.refl _) (NS.call (handle_ok n e (by omega) (by omega) (by omega) (by omega)) rfl ?_)
 exact Sat.go (Eq.refl _) (NS.ret rfl rfl (LeA.refl _))
end Go.Proofs.YtggjngbighkdgaaGreat

namespace Go.Proofs.YtggjngbighkdgaaGreat
open Go.Sy Go.Mb
set_option maxRecDepth 100000
set_option maxHeartbeats 2000000
theorem rNums_ok (l : List Int) (hl : l.length ≤ 1000) (hi : ∀ x ∈ l, inI x = true) : FnOK Tryz.prog 202 [slN l] (.str (bs (encL l)), none) := by
 refine fn_ok VN rfl (by kernel_rfl) Tryz.func202 rfl ?_
 refine Sat.go (Eq.refl _) ?_
 refine NS.loop (σ := { k : Nat // k ≤ l.length }) (fun k => [(0, slN l), (3, .str (bs (encL (l.take k.1)))), (4, .int .i64 k.1)]) (fun k => []) (fun k => l.length - k.1) ⟨0, Nat.zero_le _⟩ ?_ ?_
 ·exact weak_hd [] rfl ⟨rfl, ren_str rfl (by simp [encL]; rfl), rfl, trivial⟩ trivial trivial (by kernel_rfl)
 rintro ⟨k, hk⟩
 have hel := encL_len (l := l.take k) fun x hx => hi x (List.mem_of_mem_take hx)
 simp only [List.length_take] at hel
 refine Sat.go (Eq.refl _) (NS.ite (fun h => ?_) (fun h => ?_))
 ·have h : k < l.length := by simpa using h
  refine Sat.go (Eq.refl _) (NS.need (by simp; omega) ?_)
  have c2 := rInt_ok (l.getD k default)
  have hx : inI (l.getD k default) = true := hi _ (by rw [getD_lt h]; exact List.getElem_mem h)
  rw [intM_ok hx] at c2
  have hxl := encI_len hx
  refine Sat.go (Eq.refl _) (NS.call (c2) rfl ?_)
  refine Sat.go (Eq.refl _) (NS.need (decide_eq_true (by rw [bs_len, bs_len]; show (encL (l.take k)).length + _ ≤ _; omega)) ?_)
  refine Sat.go (Eq.refl _) (NS.next ⟨k + 1, by omega⟩ (by simp; omega) ?_)
  refine weak_hd [] rfl ⟨rfl, ren_str rfl ?_, ren_int rfl (i64_k (k := k) (n := l.length) (by omega) (by omega)), trivial⟩ trivial trivial (by kernel_rfl)
  show bs (encL (l.take k)) ++ bs (encI (l.getD k default)) = bs (encL (l.take (k + 1)))
  rw [← bs_append, encL_snoc l k h]
 ·have hk' : ¬ k < l.length := by simpa using h
  obtain rfl : k = l.length := by omega
  refine Sat.go (Eq.refl _) (NS.leave rfl (Eq.refl _) ?_)
  rw [show l.take l.length = l from List.take_length]
  exact Sat.go (Eq.refl _) (NS.ret rfl rfl (LeA.refl _))
theorem rBit_ok (b : Bool) : FnOK Tryz.prog 164 [.bool b] (.int .i64 (cuI b), none) := by
 cases b
 ·refine fn_ok CN rfl (by kernel_rfl) Tryz.func164 rfl ?_
  refine Sat.go (Eq.refl _) (NS.no (rfl) ?_)
  exact Sat.go (Eq.refl _) (NS.ret rfl rfl (LeA.refl _))
 ·refine fn_ok CN rfl (by kernel_rfl) Tryz.func164 rfl ?_
  refine Sat.go (Eq.refl _) (NS.yes (rfl) ?_)
  exact Sat.go (Eq.refl _) (NS.ret rfl rfl (LeA.refl _))
theorem rIdNums_ok (x : Nid) (hi : ∀ y ∈ idI x, inI y = true) : FnOK Tryz.prog 203 [.agg x.cells] (.str (bs (encL (idI x))), none) := by
 refine fn_ok CN rfl (by kernel_rfl) Tryz.func203 rfl ?_
 refine Sat.go (Eq.refl _) (NS.call ((rNums_ok (idI x) (by show 5 ≤ 1000; decide) hi).le (LeL.cons (LeA.sl rfl fun i hi j hj => ?_) LeL.nil)) rfl ?_)
 ·have hj : j < 1 := hj
  obtain rfl : j = 0 := by omega
  have hi : i < 5 := hi
  rcases (by omega : i = 0 ∨ i = 1 ∨ i = 2 ∨ i = 3 ∨ i = 4) with rfl | rfl | rfl | rfl | rfl <;> rfl
 exact Sat.go (Eq.refl _) (NS.ret rfl rfl (LeA.refl _))
theorem rEnc_ok (r : Jrec) : FnOK Tryz.prog 148 [.agg r.cells] (encA (encRM r), none) := by
 have c := rCheck_ok r
 unfold encRM encA
 by_cases h : (recErr r != 0) = true
 ·rw [if_pos h]
  refine fn_ok CN rfl (by kernel_rfl) Tryz.func148 rfl ?_
  refine Sat.go (Eq.refl _) (NS.call (c) rfl ?_)
  refine Sat.go (Eq.refl _) (NS.yes (h) ?_)
  exact Sat.go (Eq.refl _) (NS.ret rfl rfl (LeA.refl _))
 rw [if_neg h]
 have h : recErr r = 0 := by simpa using h
 have hin := conI_in h
 rw [h] at c
 rcases recErr_zero.1 h with g | g
 ·have hs : stoK r.kind = true := by unfold stoK; rcases g.kind with e | e <;> rw [e] <;> rfl
  have hsz : r.item.data.size ≤ 65536 := by have := itemErr_zero g.item; have := this.2.2.2.2.2; rw [inR_iff] at this; omega
  have hi : conI r = [r.kind, r.time] ++ ([r.item.ticket] ++ idI r.item.id ++ [r.item.dest, r.item.expires, r.item.prio, cuI r.item.custody]) := if_pos hs
  rw [hi] at hin
  have hin1 : ∀ y ∈ [r.kind, r.time], inI y = true := fun y hy => hin y (List.mem_append_left _ hy)
  have hin2 : ∀ y ∈ [r.item.ticket], inI y = true := fun y hy => hin y (List.mem_append_right _ (List.mem_append_left _ (List.mem_append_left _ hy)))
  have hin3 : ∀ y ∈ idI r.item.id, inI y = true := fun y hy => hin y (List.mem_append_right _ (List.mem_append_left _ (List.mem_append_right _ hy)))
  have hin4 : ∀ y ∈ [r.item.dest, r.item.expires, r.item.prio, cuI r.item.custody], inI y = true := fun y hy => hin y (List.mem_append_right _ (List.mem_append_right _ hy))
  have c1 := rNums_ok [r.kind, r.time] (by show 2 ≤ 1000; decide) hin1
  have c2 := rNums_ok [r.item.ticket] (by show 1 ≤ 1000; decide) hin2
  have c3 := rIdNums_ok r.item.id hin3
  have c4 := rNums_ok [r.item.dest, r.item.expires, r.item.prio, cuI r.item.custody] (by show 4 ≤ 1000; decide) hin4
  have b1 := bsn_len hin1 (by show 2 ≤ 20; decide)
  have b2 := bsn_len hin2 (by show 1 ≤ 20; decide)
  have b3 := bsn_len hin3 (by show 5 ≤ 20; decide)
  have b4 := bsn_len hin4 (by show 4 ≤ 20; decide)
  have ct : FnOK Tryz.prog 204 [.str r.item.data] (.tup [.str (bs (txtL r.item.data)), .int .i64 0], none) := by
   have c0 := rText_ok r.item.data
   rw [textN_ok hsz] at c0
   exact c0
  have hl : ls (bs (encL [r.kind, r.time]) ++ bs (encL [r.item.ticket]) ++ bs (encL (idI r.item.id)) ++ bs (encL [r.item.dest, r.item.expires, r.item.prio, cuI r.item.custody]) ++ bs (txtL r.item.data)) = conL r := by
   rw [ls_append, ls_append, ls_append, ls_append, ls_bs (encL_lt2 _), ls_bs (encL_lt2 _), ls_bs (encL_lt2 _), ls_bs (encL_lt2 _), ls_bs (fun x hx => by
    rcases List.mem_append.1 hx with h | h
    ·exact encZ_mem h
    ·exact ls_lt _ x h)]
   unfold conL
   rw [if_pos hs, hi]
   simp only [encL, List.flatMap_append, List.append_assoc]
  have htl : (bs (txtL r.item.data)).size ≤ 65600 := by
   have := encI_len (inI_nat (n := r.item.data.size) (by omega))
   rw [bs_len, txtL, List.length_append, ls_len]; omega
  refine fn_ok CN rfl (by kernel_rfl) Tryz.func148 rfl ?_
  refine Sat.go (Eq.refl _) (NS.call (c) rfl ?_)
  refine Sat.go (Eq.refl _) (NS.no (rfl) ?_)
  refine Sat.go (Eq.refl _) (NS.call (c1.le (LeL.cons (LeA.sl rfl fun i hi j hj => ?_) LeL.nil)) rfl ?_)
  ·have hj : j < 1 := hj
   obtain rfl : j = 0 := by omega
   have hi : i < 2 := hi
   rcases (by omega : i = 0 ∨ i = 1) with rfl | rfl <;> rfl
  refine Sat.go (Eq.refl _) (NS.no (by rcases g.kind with hk | hk <;> rw [hk] <;> rfl) ?_)
  refine Sat.go (Eq.refl _) (NS.no (by rcases g.kind with hk | hk <;> rw [hk] <;> rfl) ?_)
  refine Sat.go (Eq.refl _) (NS.chk (by kernel_rfl) ?_)
  refine Sat.go (Eq.refl _) (NS.call (c2.le (LeL.cons (LeA.sl rfl fun i hi j hj => ?_) LeL.nil)) rfl ?_)
  ·have hj : j < 1 := hj
   obtain rfl : j = 0 := by omega
   have hi : i < 1 := hi
   obtain rfl : i = 0 := by omega
   rfl
  refine Sat.go (Eq.refl _) (NS.need (decide_eq_true (by omega)) ?_)
  refine Sat.go (Eq.refl _) (NS.call (c3) rfl ?_)
  refine Sat.go (Eq.refl _) (NS.need (decide_eq_true (by rw [ByteArray.size_append]; omega)) ?_)
  refine Sat.go (Eq.refl _) (NS.call (rBit_ok r.item.custody) rfl ?_)
  refine Sat.go (Eq.refl _) (NS.call (c4.le (LeL.cons (LeA.sl rfl fun i hi j hj => ?_) LeL.nil)) rfl ?_)
  ·have hj : j < 1 := hj
   obtain rfl : j = 0 := by omega
   have hi : i < 4 := hi
   rcases (by omega : i = 0 ∨ i = 1 ∨ i = 2 ∨ i = 3) with rfl | rfl | rfl | rfl <;> rfl
  refine Sat.go (Eq.refl _) (NS.need (decide_eq_true (by rw [ByteArray.size_append, ByteArray.size_append]; omega)) ?_)
  refine Sat.go (Eq.refl _) (NS.call (ct) rfl ?_)
  refine Sat.go (Eq.refl _) (NS.need (decide_eq_true (by rw [ByteArray.size_append, ByteArray.size_append, ByteArray.size_append]; omega)) ?_)
  have cse := rSeal_ok (bs (encL [r.kind, r.time]) ++ bs (encL [r.item.ticket]) ++ bs (encL (idI r.item.id)) ++ bs (encL [r.item.dest, r.item.expires, r.item.prio, cuI r.item.custody]) ++ bs (txtL r.item.data))
  rw [sealN (l := conL r) hl] at cse
  by_cases hb : (conL r).length > 65536
  ·rw [if_pos (decide_eq_true hb)] at cse
   rw [if_pos (decide_eq_true hb)]
   refine Sat.go (Eq.refl _) (NS.call (cse) rfl ?_)
   exact Sat.go (Eq.refl _) (NS.ret rfl rfl (LeA.refl _))
  ·rw [if_neg (by simpa using hb)] at cse
   rw [if_neg (by simpa using hb)]
   refine Sat.go (Eq.refl _) (NS.call (cse) rfl ?_)
   exact Sat.go (Eq.refl _) (NS.ret rfl rfl (LeA.refl _))
 ·have hs : ¬ stoK r.kind = true := by unfold stoK; rcases g.kind with e | e <;> rw [e] <;> decide
  have hi : conI r = [r.kind, r.time] ++ (idI r.id ++ if r.kind == 4 then [r.ticket] else []) := if_neg hs
  rw [hi] at hin
  have hin1 : ∀ y ∈ [r.kind, r.time], inI y = true := fun y hy => hin y (List.mem_append_left _ hy)
  have hin2 : ∀ y ∈ idI r.id, inI y = true := fun y hy => hin y (List.mem_append_right _ (List.mem_append_left _ hy))
  have c1 := rNums_ok [r.kind, r.time] (by show 2 ≤ 1000; decide) hin1
  have c2 := rIdNums_ok r.id hin2
  have b1 := bsn_len hin1 (by show 2 ≤ 20; decide)
  have b2 := bsn_len hin2 (by show 5 ≤ 20; decide)
  refine fn_ok CN rfl (by kernel_rfl) Tryz.func148 rfl ?_
  refine Sat.go (Eq.refl _) (NS.call (c) rfl ?_)
  refine Sat.go (Eq.refl _) (NS.no (rfl) ?_)
  refine Sat.go (Eq.refl _) (NS.call (c1.le (LeL.cons (LeA.sl rfl fun i hi j hj => ?_) LeL.nil)) rfl ?_)
  ·have hj : j < 1 := hj
   obtain rfl : j = 0 := by omega
   have hi : i < 2 := hi
   rcases (by omega : i = 0 ∨ i = 1) with rfl | rfl <;> rfl
  rcases g.kind with hk | hk
  ·have hl : ls (bs (encL [r.kind, r.time]) ++ bs (encL (idI r.id))) = conL r := by
    rw [ls_append, ls_bs (encL_lt2 _), ls_bs (encL_lt2 _)]
    unfold conL
    rw [if_neg hs, hi, if_neg (by rw [hk]; decide)]
    simp only [encL, List.flatMap_append, List.append_nil]
   refine Sat.go (Eq.refl _) (NS.yes (by rw [hk]; rfl) ?_)
   refine Sat.go (Eq.refl _) (NS.call (c2) rfl ?_)
   refine Sat.go (Eq.refl _) (NS.need (decide_eq_true (by omega)) ?_)
   have cse := rSeal_ok (bs (encL [r.kind, r.time]) ++ bs (encL (idI r.id)))
   rw [sealN (l := conL r) hl] at cse
   by_cases hb : (conL r).length > 65536
   ·rw [if_pos (decide_eq_true hb)] at cse
    rw [if_pos (decide_eq_true hb)]
    refine Sat.go (Eq.refl _) (NS.call (cse) rfl ?_)
    exact Sat.go (Eq.refl _) (NS.ret rfl rfl (LeA.refl _))
   ·rw [if_neg (by simpa using hb)] at cse
    rw [if_neg (by simpa using hb)]
    refine Sat.go (Eq.refl _) (NS.call (cse) rfl ?_)
    exact Sat.go (Eq.refl _) (NS.ret rfl rfl (LeA.refl _))
  ·have hin3 : ∀ y ∈ [r.ticket], inI y = true := fun y hy => hin y (List.mem_append_right _ (List.mem_append_right _ (by rw [if_pos (by rw [hk]; rfl)]; exact hy)))
   have c3 := rNums_ok [r.ticket] (by show 1 ≤ 1000; decide) hin3
   have b3 := bsn_len hin3 (by show 1 ≤ 20; decide)
   have hl : ls (bs (encL [r.kind, r.time]) ++ bs (encL (idI r.id)) ++ bs (encL [r.ticket])) = conL r := by
    rw [ls_append, ls_append, ls_bs (encL_lt2 _), ls_bs (encL_lt2 _), ls_bs (encL_lt2 _)]
    unfold conL
    rw [if_neg hs, hi, if_pos (by rw [hk]; rfl)]
    simp only [encL, List.flatMap_append, List.append_nil, List.append_assoc]
   refine Sat.go (Eq.refl _) (NS.no (by rw [hk]; rfl) ?_)
   refine Sat.go (Eq.refl _) (NS.yes (by rw [hk]; rfl) ?_)
   refine Sat.go (Eq.refl _) (NS.chk (by kernel_rfl) ?_)
   refine Sat.go (Eq.refl _) (NS.call (c2) rfl ?_)
   refine Sat.go (Eq.refl _) (NS.need (decide_eq_true (by omega)) ?_)
   refine Sat.go (Eq.refl _) (NS.call (c3.le (LeL.cons (LeA.sl rfl fun i hi j hj => ?_) LeL.nil)) rfl ?_)
   ·have hj : j < 1 := hj
    obtain rfl : j = 0 := by omega
    have hi : i < 1 := hi
    obtain rfl : i = 0 := by omega
    rfl
   refine Sat.go (Eq.refl _) (NS.need (decide_eq_true (by rw [ByteArray.size_append]; omega)) ?_)
   have cse := rSeal_ok (bs (encL [r.kind, r.time]) ++ bs (encL (idI r.id)) ++ bs (encL [r.ticket]))
   rw [sealN (l := conL r) hl] at cse
   by_cases hb : (conL r).length > 65536
   ·rw [if_pos (decide_eq_true hb)] at cse
    rw [if_pos (decide_eq_true hb)]
    refine Sat.go (Eq.refl _) (NS.call (cse) rfl ?_)
    exact Sat.go (Eq.refl _) (NS.ret rfl rfl (LeA.refl _))
   ·rw [if_neg (by simpa using hb)] at cse
    rw [if_neg (by simpa using hb)]
    refine Sat.go (Eq.refl _) (NS.call (cse) rfl ?_)
    exact Sat.go (Eq.refl _) (NS.ret rfl rfl (LeA.refl _))
end Go.Proofs.YtggjngbighkdgaaGreat

namespace Go.Mb
open Go.Sy
structure IntsAt (n : Nat) (L : List Nat) (k : Nat) (m : List Int) (T : List Nat) : Prop where
 le : k ≤ n
 ln : m.length = k
 lt : ∀ x ∈ T, x < 256
 res : rdNs n L = (rdNs (n - k) T).map fun p => (m ++ p.1, p.2)
theorem IntsAt.start {n : Nat} {L : List Nat} (h : ∀ x ∈ L, x < 256) : IntsAt n L 0 [] L := ⟨Nat.zero_le _, rfl, h, by rw [Nat.sub_zero]; cases rdNs n L <;> rfl⟩
theorem IntsAt.next {n k : Nat} {L T : List Nat} {m : List Int} (h : IntsAt n L k m T) (hk : k < n) {a : Int} {b : Nat} (hr : rdI T = (a, b, 0)) : IntsAt n L (k + 1) (m ++ [a]) (T.drop b) := by
 refine ⟨hk, by simp [h.ln], fun x hx => h.lt x (List.mem_of_mem_drop hx), ?_⟩
 rw [h.res, show n - k = (n - (k + 1)) + 1 by omega, rdNs, hr]
 rw [if_neg (by simp)]
 cases rdNs (n - (k + 1)) (T.drop b) with
 | none => rfl
 | some p => simp
theorem IntsAt.err {n k : Nat} {L T : List Nat} {m : List Int} (h : IntsAt n L k m T) (hk : k < n) (hr : (rdI T).2.2 ≠ 0) : rdNs n L = none := by
 rw [h.res, show n - k = (n - (k + 1)) + 1 by omega, rdNs, if_pos (by simpa using hr)]; rfl
theorem IntsAt.fin {n : Nat} {L T : List Nat} {m : List Int} (h : IntsAt n L n m T) : rdNs n L = some (m, T) := by
 rw [h.res, Nat.sub_self, rdNs]; simp
theorem exB {T : List Nat} (hT : ∀ x ∈ T, x < 256) (b : Nat) (hb : b ≤ T.length) : (bs T).extract (Int.toNat ((b : Nat) : Int)) (Int.toNat (((bs T).size : Nat) : Int)) = bs (T.drop b) := by
 rw [← bs_ls ((bs T).extract _ _), ls_extract, ls_bs hT]
 show bs ((T.take (bs T).size).drop b) = _
 rw [bs_len, List.take_length]
def intsA : Option (List Int × List Nat) → A
 | none => .tup [.junk, .str .empty, .bool false]
 | some (m, r) => .tup [slN m, .str (bs r), .bool true]
end Go.Mb
namespace Go.Proofs.YtggjngbighkdgaaGreat
open Go.Sy Go.Mb
set_option maxRecDepth 100000
set_option maxHeartbeats 2000000
theorem rAppend_ok (s : ByteArray) (l : List Jrec) (hs : s.size ≤ 100000) (hl : l.length ≤ 1000) : FnOK Tryz.prog 94 [.str s, slR l] (encA (appM (ls s) l), none) := by
 unfold appM
 refine fn_ok CN rfl (by kernel_rfl) Tryz.func94 rfl ?_
 refine Sat.go (Eq.refl _) ?_
 refine NS.loop (σ := { k : Nat // k ≤ l.length ∧ ∀ i, i < k → (encRM (l.getD i default)).2 = 0 }) (fun k => [(0, .str (bs (accJ (ls s) (l.take k.1)))), (1, slR l), (6, .int .i64 k.1)]) (fun k => []) (fun k => l.length - k.1) ⟨0, Nat.zero_le _, fun i hi => absurd hi (Nat.not_lt_zero _)⟩ ?_ ?_
 ·exact weak_hd [] rfl ⟨ren_str rfl (by simp [accJ, bs_ls]), rfl, rfl, trivial⟩ trivial trivial (by kernel_rfl)
 rintro ⟨k, hk, hI⟩
 have hal : (bs (accJ (ls s) (l.take k))).size ≤ 100000000 := by
  have := accJ_len (ls s) (l.take k)
  rw [ls_len, List.length_take] at this
  rw [bs_len]; omega
 refine Sat.go (Eq.refl _) (NS.ite (fun h => ?_) (fun h => ?_))
 ·have h : k < l.length := by simpa using h
  refine Sat.go (Eq.refl _) (NS.need (by simp; omega) ?_)
  refine Sat.go (Eq.refl _) (NS.call (rEnc_ok (l.getD k default)) rfl ?_)
  by_cases he : (encRM (l.getD k default)).2 = 0
  ·refine Sat.go (Eq.refl _) (NS.no (by show ((encRM (l.getD k default)).2 != 0) = false; rw [he]; rfl) ?_)
   have hrl := encRM_len (l.getD k default)
   refine Sat.go (Eq.refl _) (NS.need (decide_eq_true (by rw [bs_len (encRM _).1]; show (bs (accJ (ls s) (l.take k))).size + _ ≤ _; omega)) ?_)
   refine Sat.go (Eq.refl _) (NS.next ⟨k + 1, by omega, fun i hi => by rcases (by omega : i < k ∨ i = k) with a | rfl; exact hI i a; exact he⟩ (by simp; omega) ?_)
   refine weak_hd [] rfl ⟨ren_str rfl ?_, rfl, ren_int rfl (i64_k (k := k) (n := l.length) (by omega) (by omega)), trivial⟩ trivial trivial (by kernel_rfl)
   show bs (accJ (ls s) (l.take k)) ++ bs (encRM (l.getD k default)).1 = bs (accJ (ls s) (l.take (k + 1)))
   rw [take_snoc h, accJ_snoc, bs_append]
  ·refine Sat.go (Eq.refl _) (NS.yes (by show ((encRM (l.getD k default)).2 != 0) = true; simpa using he) ?_)
   have e := appJ_at h hI he (s := ls s)
   rw [e]
   rw [if_pos (by simpa using he)]
   exact Sat.go (Eq.refl _) (NS.leaveOut rfl (Eq.refl _) (NS.ret rfl rfl (LeA.refl _)))
 ·have hk' : ¬ k < l.length := by simpa using h
  obtain rfl : k = l.length := by omega
  rw [show l.take l.length = l from List.take_length] at hal
  have e := appJ_all hI (s := ls s)
  rw [e, if_neg (by simp)]
  have e2 : (((bs (accJ (ls s) l)).size : Nat) : Int) = ((accJ (ls s) l).length : Nat) := by rw [bs_len]
  refine Sat.go (Eq.refl _) (NS.leave rfl (Eq.refl _) ?_)
  rw [show l.take l.length = l from List.take_length]
  by_cases hb : (accJ (ls s) l).length > 65536
  ·rw [if_pos (by simpa using hb)]
   refine Sat.go (Eq.refl _) (NS.yes (decide_eq_true (by rw [e2]; omega)) ?_)
   exact Sat.go (Eq.refl _) (NS.ret rfl rfl (LeA.refl _))
  ·rw [if_neg (by simpa using hb)]
   refine Sat.go (Eq.refl _) (NS.no (decide_eq_false (by rw [e2]; omega)) ?_)
   exact Sat.go (Eq.refl _) (NS.ret rfl rfl (LeA.refl _))
theorem rInts_ok (L : List Nat) (hL : ∀ x ∈ L, x < 256) (n : Nat) (hn : n ≤ 20) : FnOK Tryz.prog 163 [.str (bs L), .int .i64 (n : Nat)] (intsA (rdNs n L), none) := by
 refine fn_ok CN rfl (by kernel_rfl) Tryz.func163 rfl ?_
 refine Sat.go (Eq.refl _) ?_
 refine NS.loop (σ := { p : Nat × List Int × List Nat // IntsAt n L p.1 p.2.1 p.2.2 }) (fun p => [(0, .str (bs p.1.2.2)), (1, .int .i64 (n : Nat)), (7, .own 7), (8, .int .i64 p.1.1)]) (fun p => [(7, .row 3 1 p.1.2.1.length (rowL nC p.1.2.1))]) (fun p => n - p.1.1) ⟨(0, [], L), IntsAt.start hL⟩ ?_ ?_
 ·exact weak_hd [(7, 12)] rfl ⟨rfl, rfl, rfl, rfl, trivial⟩ ⟨ren_row rfl rfl fun i hi => absurd hi (Nat.not_lt_zero i), trivial⟩ trivial (by kernel_rfl)
 rintro ⟨⟨k, m, T⟩, u⟩
 have u : IntsAt n L k m T := u
 have hk := u.le
 have hm := u.ln
 have c2 := rReadInt_ok (bs T)
 rw [ls_bs u.lt] at c2
 refine Sat.go (Eq.refl _) (NS.ite (fun h => ?_) (fun h => ?_))
 ·have h : (k : Int) < (n : Int) := of_decide_eq_true h
  have h : k < n := by omega
  rcases rdI_cases T with ⟨a, b, hr⟩ | ⟨e, he, hr⟩
  ·have hb := (rdI_ok u.lt hr).2.2.1
   rw [hr] at c2
   refine Sat.go (Eq.refl _) (NS.call (c2) rfl ?_)
   refine Sat.go (Eq.refl _) (NS.no (rfl) ?_)
   refine Sat.go (Eq.refl _) (NS.need (decide_eq_true (by show (m.length + 1) * _ ≤ _; simp only [maxRow]; omega)) ?_)
   refine Sat.go (Eq.refl _) (NS.need (decide_eq_true ⟨Int.natCast_nonneg b, by rw [bs_len]; show (b : Int) ≤ (T.length : Int); omega, Int.le_refl _⟩) ?_)
   refine Sat.go (Eq.refl _) (NS.next ⟨(k + 1, m ++ [a], T.drop b), u.next h hr⟩ (by simp only; omega) ?_)
   exact weak_hd [(7, 30)] rfl ⟨ren_str rfl (exB u.lt b hb), rfl, rfl, ren_int rfl (i64_k (k := k) (n := 100000) (by omega) (by omega)), trivial⟩ ⟨ren_row rfl (by simp) (fun i hi j hj => row_snoc (cells := nC) (x := a) rfl i (by simpa using hi) j hj), trivial⟩ trivial (by kernel_rfl)
  ·rw [hr] at c2
   rw [u.err h (by rw [hr]; simpa using he)]
   refine Sat.go (Eq.refl _) (NS.call (c2) rfl ?_)
   refine Sat.go (Eq.refl _) (NS.yes (by simpa using he) ?_)
   exact Sat.go (Eq.refl _) (NS.leaveOut rfl (Eq.refl _) (NS.ret rfl rfl (LeA.tup3 (LeA.junk _) (LeA.refl _) (LeA.refl _))))
 ·have h : ¬ (k : Int) < (n : Int) := of_decide_eq_false h
  obtain rfl : k = n := by omega
  rw [u.fin]
  refine Sat.go (Eq.refl _) (NS.leave rfl (Eq.refl _) ?_)
  exact Sat.go (Eq.refl _) (NS.ret rfl rfl (LeA.refl _))
end Go.Proofs.YtggjngbighkdgaaGreat

namespace Go.Mb
open Go.Sy
theorem rdNs_lt : ∀ {n : Nat} {l : List Nat} {m : List Int} {r : List Nat}, rdNs n l = some (m, r) → (∀ x ∈ l, x < 256) → (∀ x ∈ r, x < 256) ∧ r.length ≤ l.length
 | 0, l, m, r, h, hl => by simp only [rdNs, Option.some.injEq, Prod.mk.injEq] at h; rw [← h.2]; exact ⟨hl, Nat.le_refl _⟩
 | n + 1, l, m, r, h, hl => by
  rw [rdNs] at h
  split at h
  ·cases h
  ·split at h
   ·cases h
   ·rename_i m' r' e
    simp only [Option.some.injEq, Prod.mk.injEq] at h
    obtain ⟨_, rfl⟩ := h
    have := rdNs_lt e (fun x hx => hl x (List.mem_of_mem_drop hx))
    rw [List.length_drop] at this
    exact ⟨this.1, by omega⟩
end Go.Mb
namespace Go.Proofs.YtggjngbighkdgaaGreat
open Go.Sy Go.Mb
set_option maxRecDepth 100000
set_option maxHeartbeats 2000000
theorem rIdOf_ok (m : List Int) (h : 5 ≤ m.length) : FnOK Tryz.prog 165 [slN m] (.agg (nidOf m).cells, none) := by
 refine fn_ok CN rfl (by kernel_rfl) Tryz.func165 rfl ?_
 refine Sat.go (Eq.refl _) (NS.chk (by kernel_rfl) ?_)
 repeat' (first | (refine Sat.go (Eq.refl _) (NS.need (decide_eq_true (by show _ ∧ _ < (m.length : Int); omega)) ?_)))
 exact Sat.go (Eq.refl _) (NS.ret rfl rfl (LeA.refl _))
theorem rParse_ok (L : List Nat) (hL : ∀ x ∈ L, x < 256) (hs : L.length ≤ 100000) : ∃ r : Jrec, FnOK Tryz.prog 104 [.str (bs L)] (.tup [.agg r.cells, .bool (parR L).isSome], none) ∧ ∀ x, parR L = some x → r = x := by
 have c1 := rInts_ok L hL 2 (by omega)
 cases h1 : rdNs 2 L with
 | none =>
  rw [h1] at c1
  have e : parR L = none := by unfold parR; rw [h1]
  refine ⟨.zero, ?_, fun x hx => by rw [e] at hx; cases hx⟩
  rw [e]
  refine fn_ok CN rfl (by kernel_rfl) Tryz.func104 rfl ?_
  refine Sat.go (Eq.refl _) (NS.call (c1) rfl ?_)
  refine Sat.go (Eq.refl _) (NS.yes (rfl) ?_)
  exact Sat.go (Eq.refl _) (NS.ret rfl rfl (LeA.refl _))
 | some p =>
  obtain ⟨m, M⟩ := p
  rw [h1] at c1
  have hm := rdNs_len h1
  have hM := rdNs_lt h1 hL
  obtain ⟨k, t, rfl⟩ : ∃ k t, m = [k, t] := by
   match m, hm with
   | [k, t], _ => exact ⟨k, t, rfl⟩
  by_cases hk2 : k = 2
  ·subst hk2
   have hP : parR L = parI 2 t M := parR_I h1 rfl rfl
   have c2 := rInts_ok M hM.1 5 (by omega)
   cases h2 : rdNs 5 M with
   | none =>
    have e : parR L = none := by rw [hP]; unfold parI; rw [show (if ((2 : Int) == 4) = true then 6 else 5) = 5 from rfl, h2]
    rw [h2] at c2
    refine ⟨.zero, ?_, fun x hx => by rw [e] at hx; cases hx⟩
    rw [e]
    refine fn_ok CN rfl (by kernel_rfl) Tryz.func104 rfl ?_
    refine Sat.go (Eq.refl _) (NS.call (c1) rfl ?_)
    refine Sat.go (Eq.refl _) (NS.no (rfl) ?_)
    refine Sat.go (Eq.refl _) (NS.chk (by kernel_rfl) ?_)
    refine Sat.go (Eq.refl _) (NS.need (decide_eq_true (by show _ ∧ (0 : Int) < ((2 : Nat) : Int); omega)) ?_)
    refine Sat.go (Eq.refl _) (NS.need (decide_eq_true (by show _ ∧ (1 : Int) < ((2 : Nat) : Int); omega)) ?_)
    refine Sat.go (Eq.refl _) (NS.yes (rfl) ?_)
    refine Sat.go (Eq.refl _) (NS.call (rBit_ok (2 == (4 : Int))) rfl ?_)
    refine Sat.go (Eq.refl _) (NS.call (c2) rfl ?_)
    refine Sat.go (Eq.refl _) (NS.yes (rfl) ?_)
    exact Sat.go (Eq.refl _) (NS.ret rfl rfl (LeA.refl _))
   | some p =>
    obtain ⟨m2, R⟩ := p
    rw [h2] at c2
    have hm2 := rdNs_len h2
    have hR := rdNs_lt h2 hM.1
    by_cases hz : R = []
    ·have ecs := rIdOf_ok m2 (by omega)
     obtain ⟨rec, hrec⟩ : ∃ rec : Jrec, (⟨2, .zero, nidOf m2, 0, t⟩ : Jrec) = rec := ⟨_, rfl⟩
     have e : parR L = okR rec := by rw [hP, ← hrec]; unfold parI; rw [show (if ((2 : Int) == 4) = true then 6 else 5) = 5 from rfl, h2]; simp only; rw [if_pos (by rw [hz]; rfl)]; rfl
     have e2 : (parR L).isSome = (recErr rec == 0) := by
      rw [e]; unfold okR; cases h : recErr rec == 0 <;> rfl
     refine ⟨rec, ?_, fun x hx => by rw [e] at hx; unfold okR at hx; split at hx; exact (Option.some.inj hx); cases hx⟩
     rw [e2]
     have hcl : [A.int .i64 2, .int .i64 0, .int .i64 0, .int .i64 0, .int .i64 0, .int .i64 0, .int .i64 0, .int .i64 0, .int .i64 0, .int .i64 0, .bool false, .str .empty] ++ (nidOf m2).cells ++ [.int .i64 0, .int .i64 t] = rec.cells := by rw [← hrec]; rfl
     refine fn_ok CN rfl (by kernel_rfl) Tryz.func104 rfl ?_
     refine Sat.go (Eq.refl _) (NS.call (c1) rfl ?_)
     refine Sat.go (Eq.refl _) (NS.no (rfl) ?_)
     refine Sat.go (Eq.refl _) (NS.chk (by kernel_rfl) ?_)
     refine Sat.go (Eq.refl _) (NS.need (decide_eq_true (by show _ ∧ (0 : Int) < ((2 : Nat) : Int); omega)) ?_)
     refine Sat.go (Eq.refl _) (NS.need (decide_eq_true (by show _ ∧ (1 : Int) < ((2 : Nat) : Int); omega)) ?_)
     refine Sat.go (Eq.refl _) (NS.yes (rfl) ?_)
     refine Sat.go (Eq.refl _) (NS.call (rBit_ok (2 == (4 : Int))) rfl ?_)
     refine Sat.go (Eq.refl _) (NS.call (c2) rfl ?_)
     refine Sat.go (Eq.refl _) (NS.no (rfl) ?_)
     refine Sat.go (Eq.refl _) (NS.no (by show (!((bs R).toList == (⟨#[]⟩ : ByteArray).toList)) = false; exact emp_f hz) ?_)
     refine Sat.go (Eq.refl _) (NS.call (ecs) rfl ?_)
     refine Sat.go (Eq.refl _) (NS.no (rfl) ?_)
     refine Sat.go (Eq.refl _) (NS.chk (by kernel_rfl) ?_)
     refine Sat.go (Eq.refl _) (NS.call ((rCheck_ok rec).le (LeL.cons (LeA.of (congrArg A.agg hcl)) LeL.nil)) rfl ?_)
     exact Sat.go (Eq.refl _) (NS.ret rfl rfl (LeA.tup2 (LeA.of (congrArg A.agg hcl)) (LeA.refl _)))
    ·have e : parR L = none := by rw [hP]; unfold parI; rw [show (if ((2 : Int) == 4) = true then 6 else 5) = 5 from rfl, h2]; simp only; rw [if_neg (by intro h; exact hz (List.isEmpty_iff.1 h))]
     refine ⟨.zero, ?_, fun x hx => by rw [e] at hx; cases hx⟩
     rw [e]
     refine fn_ok CN rfl (by kernel_rfl) Tryz.func104 rfl ?_
     refine Sat.go (Eq.refl _) (NS.call (c1) rfl ?_)
     refine Sat.go (Eq.refl _) (NS.no (rfl) ?_)
     refine Sat.go (Eq.refl _) (NS.chk (by kernel_rfl) ?_)
     refine Sat.go (Eq.refl _) (NS.need (decide_eq_true (by show _ ∧ (0 : Int) < ((2 : Nat) : Int); omega)) ?_)
     refine Sat.go (Eq.refl _) (NS.need (decide_eq_true (by show _ ∧ (1 : Int) < ((2 : Nat) : Int); omega)) ?_)
     refine Sat.go (Eq.refl _) (NS.yes (rfl) ?_)
     refine Sat.go (Eq.refl _) (NS.call (rBit_ok (2 == (4 : Int))) rfl ?_)
     refine Sat.go (Eq.refl _) (NS.call (c2) rfl ?_)
     refine Sat.go (Eq.refl _) (NS.no (rfl) ?_)
     refine Sat.go (Eq.refl _) (NS.yes (by show (!((bs R).toList == (⟨#[]⟩ : ByteArray).toList)) = true; exact emp_t hz) ?_)
     exact Sat.go (Eq.refl _) (NS.ret rfl rfl (LeA.refl _))
  by_cases hk4 : k = 4
  ·subst hk4
   have hP : parR L = parI 4 t M := parR_I h1 rfl rfl
   have c2 := rInts_ok M hM.1 6 (by omega)
   cases h2 : rdNs 6 M with
   | none =>
    have e : parR L = none := by rw [hP]; unfold parI; rw [show (if ((4 : Int) == 4) = true then 6 else 5) = 6 from rfl, h2]
    rw [h2] at c2
    refine ⟨.zero, ?_, fun x hx => by rw [e] at hx; cases hx⟩
    rw [e]
    refine fn_ok CN rfl (by kernel_rfl) Tryz.func104 rfl ?_
    refine Sat.go (Eq.refl _) (NS.call (c1) rfl ?_)
    refine Sat.go (Eq.refl _) (NS.no (rfl) ?_)
    refine Sat.go (Eq.refl _) (NS.chk (by kernel_rfl) ?_)
    refine Sat.go (Eq.refl _) (NS.need (decide_eq_true (by show _ ∧ (0 : Int) < ((2 : Nat) : Int); omega)) ?_)
    refine Sat.go (Eq.refl _) (NS.need (decide_eq_true (by show _ ∧ (1 : Int) < ((2 : Nat) : Int); omega)) ?_)
    refine Sat.go (Eq.refl _) (NS.no (rfl) ?_)
    refine Sat.go (Eq.refl _) (NS.yes (rfl) ?_)
    refine Sat.go (Eq.refl _) (NS.call (rBit_ok (4 == (4 : Int))) rfl ?_)
    refine Sat.go (Eq.refl _) (NS.call (c2) rfl ?_)
    refine Sat.go (Eq.refl _) (NS.yes (rfl) ?_)
    exact Sat.go (Eq.refl _) (NS.ret rfl rfl (LeA.refl _))
   | some p =>
    obtain ⟨m2, R⟩ := p
    rw [h2] at c2
    have hm2 := rdNs_len h2
    have hR := rdNs_lt h2 hM.1
    by_cases hz : R = []
    ·have ecs := rIdOf_ok m2 (by omega)
     obtain ⟨rec, hrec⟩ : ∃ rec : Jrec, (⟨4, .zero, nidOf m2, (m2.getD 5 0), t⟩ : Jrec) = rec := ⟨_, rfl⟩
     have e : parR L = okR rec := by rw [hP, ← hrec]; unfold parI; rw [show (if ((4 : Int) == 4) = true then 6 else 5) = 6 from rfl, h2]; simp only; rw [if_pos (by rw [hz]; rfl)]; rfl
     have e2 : (parR L).isSome = (recErr rec == 0) := by
      rw [e]; unfold okR; cases h : recErr rec == 0 <;> rfl
     refine ⟨rec, ?_, fun x hx => by rw [e] at hx; unfold okR at hx; split at hx; exact (Option.some.inj hx); cases hx⟩
     rw [e2]
     have hcl : [A.int .i64 4, .int .i64 0, .int .i64 0, .int .i64 0, .int .i64 0, .int .i64 0, .int .i64 0, .int .i64 0, .int .i64 0, .int .i64 0, .bool false, .str .empty] ++ (nidOf m2).cells ++ [.int .i64 (m2.getD 5 0), .int .i64 t] = rec.cells := by rw [← hrec]; rfl
     refine fn_ok CN rfl (by kernel_rfl) Tryz.func104 rfl ?_
     refine Sat.go (Eq.refl _) (NS.call (c1) rfl ?_)
     refine Sat.go (Eq.refl _) (NS.no (rfl) ?_)
     refine Sat.go (Eq.refl _) (NS.chk (by kernel_rfl) ?_)
     refine Sat.go (Eq.refl _) (NS.need (decide_eq_true (by show _ ∧ (0 : Int) < ((2 : Nat) : Int); omega)) ?_)
     refine Sat.go (Eq.refl _) (NS.need (decide_eq_true (by show _ ∧ (1 : Int) < ((2 : Nat) : Int); omega)) ?_)
     refine Sat.go (Eq.refl _) (NS.no (rfl) ?_)
     refine Sat.go (Eq.refl _) (NS.yes (rfl) ?_)
     refine Sat.go (Eq.refl _) (NS.call (rBit_ok (4 == (4 : Int))) rfl ?_)
     refine Sat.go (Eq.refl _) (NS.call (c2) rfl ?_)
     refine Sat.go (Eq.refl _) (NS.no (rfl) ?_)
     refine Sat.go (Eq.refl _) (NS.no (by show (!((bs R).toList == (⟨#[]⟩ : ByteArray).toList)) = false; exact emp_f hz) ?_)
     refine Sat.go (Eq.refl _) (NS.call (ecs) rfl ?_)
     refine Sat.go (Eq.refl _) (NS.yes (rfl) ?_)
     refine Sat.go (Eq.refl _) (NS.need (decide_eq_true (by show _ ∧ (5 : Int) < (m2.length : Int); omega)) ?_)
     refine Sat.go (Eq.refl _) (NS.chk (by kernel_rfl) ?_)
     refine Sat.go (Eq.refl _) (NS.call ((rCheck_ok rec).le (LeL.cons (LeA.of (congrArg A.agg hcl)) LeL.nil)) rfl ?_)
     exact Sat.go (Eq.refl _) (NS.ret rfl rfl (LeA.tup2 (LeA.of (congrArg A.agg hcl)) (LeA.refl _)))
    ·have e : parR L = none := by rw [hP]; unfold parI; rw [show (if ((4 : Int) == 4) = true then 6 else 5) = 6 from rfl, h2]; simp only; rw [if_neg (by intro h; exact hz (List.isEmpty_iff.1 h))]
     refine ⟨.zero, ?_, fun x hx => by rw [e] at hx; cases hx⟩
     rw [e]
     refine fn_ok CN rfl (by kernel_rfl) Tryz.func104 rfl ?_
     refine Sat.go (Eq.refl _) (NS.call (c1) rfl ?_)
     refine Sat.go (Eq.refl _) (NS.no (rfl) ?_)
     refine Sat.go (Eq.refl _) (NS.chk (by kernel_rfl) ?_)
     refine Sat.go (Eq.refl _) (NS.need (decide_eq_true (by show _ ∧ (0 : Int) < ((2 : Nat) : Int); omega)) ?_)
     refine Sat.go (Eq.refl _) (NS.need (decide_eq_true (by show _ ∧ (1 : Int) < ((2 : Nat) : Int); omega)) ?_)
     refine Sat.go (Eq.refl _) (NS.no (rfl) ?_)
     refine Sat.go (Eq.refl _) (NS.yes (rfl) ?_)
     refine Sat.go (Eq.refl _) (NS.call (rBit_ok (4 == (4 : Int))) rfl ?_)
     refine Sat.go (Eq.refl _) (NS.call (c2) rfl ?_)
     refine Sat.go (Eq.refl _) (NS.no (rfl) ?_)
     refine Sat.go (Eq.refl _) (NS.yes (by show (!((bs R).toList == (⟨#[]⟩ : ByteArray).toList)) = true; exact emp_t hz) ?_)
     exact Sat.go (Eq.refl _) (NS.ret rfl rfl (LeA.refl _))
  have hP : parR L = parS k t M := by
   cases hs : stoK k with
   | true => exact parR_S h1 hs
   | false =>
    rw [parR_x h1 hs (by show (k == 2 || k == 4) = false; simp [hk2, hk4])]
    simp only [stoK, Bool.or_eq_false_iff, beq_eq_false_iff_ne, ne_eq] at hs
    unfold parS
    split
    ·rfl
    ·split
     ·rfl
     ·rw [okR_none (recErr_kind8 ⟨hs.1, hs.2, hk4⟩ hk2)]
  have c2 := rInts_ok M hM.1 10 (by omega)
  cases h2 : rdNs 10 M with
  | none =>
   rw [h2] at c2
   have e : parR L = none := by rw [hP]; unfold parS; rw [h2]
   refine ⟨.zero, ?_, fun x hx => by rw [e] at hx; cases hx⟩
   rw [e]
   refine fn_ok CN rfl (by kernel_rfl) Tryz.func104 rfl ?_
   refine Sat.go (Eq.refl _) (NS.call (c1) rfl ?_)
   refine Sat.go (Eq.refl _) (NS.no (rfl) ?_)
   refine Sat.go (Eq.refl _) (NS.chk (by kernel_rfl) ?_)
   refine Sat.go (Eq.refl _) (NS.need (decide_eq_true (by show _ ∧ (0 : Int) < ((2 : Nat) : Int); omega)) ?_)
   refine Sat.go (Eq.refl _) (NS.need (decide_eq_true (by show _ ∧ (1 : Int) < ((2 : Nat) : Int); omega)) ?_)
   refine Sat.go (Eq.refl _) (NS.no (by show (k == 2) = false; simpa using hk2) ?_)
   refine Sat.go (Eq.refl _) (NS.no (by show (k == 4) = false; simpa using hk4) ?_)
   refine Sat.go (Eq.refl _) (NS.call (c2) rfl ?_)
   refine Sat.go (Eq.refl _) (NS.yes (rfl) ?_)
   exact Sat.go (Eq.refl _) (NS.ret rfl rfl (LeA.refl _))
  | some p =>
   obtain ⟨m2, R⟩ := p
   rw [h2] at c2
   have hm2 := rdNs_len h2
   have hR := rdNs_lt h2 hM.1
   have cin := in_ok (m2.getD 9 0) 0 1
   cases hc : inR (m2.getD 9 0) 0 1 with
   | false =>
    have e : parR L = none := by
     rw [hP]; unfold parS; rw [h2]
     simp only
     rw [if_pos]
     have q : (m2.getD 9 0 == 0 || m2.getD 9 0 == 1) = false := by
      have hc : ¬ (0 ≤ m2.getD 9 0 ∧ m2.getD 9 0 ≤ 1) := fun h => by rw [inR_iff.2 h] at hc; cases hc
      simp only [Bool.or_eq_false_iff, beq_eq_false_iff_ne, ne_eq]
      omega
     rw [q]; simp
    refine ⟨.zero, ?_, fun x hx => by rw [e] at hx; cases hx⟩
    rw [e]
    refine fn_ok CN rfl (by kernel_rfl) Tryz.func104 rfl ?_
    refine Sat.go (Eq.refl _) (NS.call (c1) rfl ?_)
    refine Sat.go (Eq.refl _) (NS.no (rfl) ?_)
    refine Sat.go (Eq.refl _) (NS.chk (by kernel_rfl) ?_)
    refine Sat.go (Eq.refl _) (NS.need (decide_eq_true (by show _ ∧ (0 : Int) < ((2 : Nat) : Int); omega)) ?_)
    refine Sat.go (Eq.refl _) (NS.need (decide_eq_true (by show _ ∧ (1 : Int) < ((2 : Nat) : Int); omega)) ?_)
    refine Sat.go (Eq.refl _) (NS.no (by show (k == 2) = false; simpa using hk2) ?_)
    refine Sat.go (Eq.refl _) (NS.no (by show (k == 4) = false; simpa using hk4) ?_)
    refine Sat.go (Eq.refl _) (NS.call (c2) rfl ?_)
    refine Sat.go (Eq.refl _) (NS.no (rfl) ?_)
    refine Sat.go (Eq.refl _) (NS.need (decide_eq_true (by show _ ∧ (9 : Int) < (m2.length : Int); omega)) ?_)
    refine Sat.go (Eq.refl _) (NS.call (cin) rfl ?_)
    refine Sat.go (Eq.refl _) (NS.yes (by rw [hc]; rfl) ?_)
    exact Sat.go (Eq.refl _) (NS.ret rfl rfl (LeA.refl _))
   | true =>
    have ct := rReadText_ok (bs R) (by rw [bs_len]; have := hR.2; have := hM.2; omega)
    rw [ls_bs hR.1] at ct
    have q : (m2.getD 9 0 == 0 || m2.getD 9 0 == 1) = true := by
     have hc := inR_iff.1 hc
     simp only [Bool.or_eq_true, beq_iff_eq]
     omega
    by_cases he : (rdT R).2.2 = 0
    ·by_cases hkl : (rdT R).2.1 = R.length
     ·obtain ⟨rec, hrec⟩ : ∃ rec : Jrec, (⟨k, ⟨m2.getD 0 0, nidOf (m2.drop 1), m2.getD 6 0, m2.getD 7 0, m2.getD 8 0, m2.getD 9 0 == 1, bs (rdT R).1⟩, .zero, 0, t⟩ : Jrec) = rec := ⟨_, rfl⟩
      have e : parR L = okR rec := by
       rw [hP, ← hrec]; unfold parS; rw [h2]; simp only
       rw [if_neg (by rw [he, hkl, q]; simp)]
      have e2 : (parR L).isSome = (recErr rec == 0) := by
       rw [e]; unfold okR; cases h : recErr rec == 0 <;> rfl
      refine ⟨rec, ?_, fun x hx => by rw [e] at hx; unfold okR at hx; split at hx; exact (Option.some.inj hx); cases hx⟩
      rw [e2]
      have hcl : [A.int .i64 k, .int .i64 (m2.getD 0 0)] ++ (nidOf (m2.drop 1)).cells ++ [.int .i64 (m2.getD 6 0), .int .i64 (m2.getD 7 0), .int .i64 (m2.getD 8 0), .bool (m2.getD 9 0 == 1), .str (bs (rdT R).1), .int .i64 0, .int .i64 0, .int .i64 0, .int .i64 0, .int .i64 0, .int .i64 0, .int .i64 t] = rec.cells := by rw [← hrec]; rfl
      have ecs := rIdOf_ok (m2.drop 1) (by rw [List.length_drop]; omega)
      refine fn_ok CN rfl (by kernel_rfl) Tryz.func104 rfl ?_
      refine Sat.go (Eq.refl _) (NS.call (c1) rfl ?_)
      refine Sat.go (Eq.refl _) (NS.no (rfl) ?_)
      refine Sat.go (Eq.refl _) (NS.chk (by kernel_rfl) ?_)
      refine Sat.go (Eq.refl _) (NS.need (decide_eq_true (by show _ ∧ (0 : Int) < ((2 : Nat) : Int); omega)) ?_)
      refine Sat.go (Eq.refl _) (NS.need (decide_eq_true (by show _ ∧ (1 : Int) < ((2 : Nat) : Int); omega)) ?_)
      refine Sat.go (Eq.refl _) (NS.no (by show (k == 2) = false; simpa using hk2) ?_)
      refine Sat.go (Eq.refl _) (NS.no (by show (k == 4) = false; simpa using hk4) ?_)
      refine Sat.go (Eq.refl _) (NS.call (c2) rfl ?_)
      refine Sat.go (Eq.refl _) (NS.no (rfl) ?_)
      refine Sat.go (Eq.refl _) (NS.need (decide_eq_true (by show _ ∧ (9 : Int) < (m2.length : Int); omega)) ?_)
      refine Sat.go (Eq.refl _) (NS.call (cin) rfl ?_)
      refine Sat.go (Eq.refl _) (NS.no (by rw [hc]; rfl) ?_)
      refine Sat.go (Eq.refl _) (NS.call (ct) rfl ?_)
      refine Sat.go (Eq.refl _) (NS.no (by show ((rdT R).2.2 != 0) = false; rw [he]; rfl) ?_)
      refine Sat.go (Eq.refl _) (NS.no (by show ((((rdT R).2.1 : Nat) : Int) != (((bs R).size : Nat) : Int)) = false; rw [hkl, bs_len]; simp) ?_)
      refine Sat.go (Eq.refl _) (NS.chk (by kernel_rfl) ?_)
      refine Sat.go (Eq.refl _) (NS.need (decide_eq_true (by show _ ∧ (0 : Int) < (m2.length : Int); omega)) ?_)
      refine Sat.go (Eq.refl _) (NS.need (decide_eq_true (by show (0 : Int) ≤ 1 ∧ (1 : Int) ≤ (m2.length : Int) ∧ (m2.length : Int) ≤ (m2.length : Int); omega)) ?_)
      refine Sat.go (Eq.refl _) (NS.call (ecs.le (LeL.cons (LeA.sl ?_ fun i hi j hj => ?_) LeL.nil)) rfl ?_)
      ·show ((m2.length : Int) - 1).toNat = _; rw [List.length_drop]; omega
      ·have hj : j < 1 := hj
       obtain rfl : j = 0 := by omega
       show A.int .i64 (m2.getD (1 + i) default) = A.int .i64 ((m2.drop 1).getD i default)
       rw [List.getD_eq_getElem?_getD, List.getD_eq_getElem?_getD, List.getElem?_drop]
      refine Sat.go (Eq.refl _) (NS.need (decide_eq_true (by show _ ∧ (6 : Int) < (m2.length : Int); omega)) ?_)
      refine Sat.go (Eq.refl _) (NS.need (decide_eq_true (by show _ ∧ (7 : Int) < (m2.length : Int); omega)) ?_)
      refine Sat.go (Eq.refl _) (NS.need (decide_eq_true (by show _ ∧ (8 : Int) < (m2.length : Int); omega)) ?_)
      refine Sat.go (Eq.refl _) (NS.need (decide_eq_true (by show _ ∧ (9 : Int) < (m2.length : Int); omega)) ?_)
      refine Sat.go (Eq.refl _) (NS.chk (by kernel_rfl) ?_)
      refine Sat.go (Eq.refl _) (NS.call ((rCheck_ok rec).le (LeL.cons (LeA.of (congrArg A.agg hcl)) LeL.nil)) rfl ?_)
      exact Sat.go (Eq.refl _) (NS.ret rfl rfl (LeA.tup2 (LeA.of (congrArg A.agg hcl)) (LeA.refl _)))
     ·have e : parR L = none := by
       rw [hP]; unfold parS; rw [h2]
       simp only
       rw [if_pos (by rw [he, bne_iff_ne.2 hkl]; rfl)]
      refine ⟨.zero, ?_, fun x hx => by rw [e] at hx; cases hx⟩
      rw [e]
      refine fn_ok CN rfl (by kernel_rfl) Tryz.func104 rfl ?_
      refine Sat.go (Eq.refl _) (NS.call (c1) rfl ?_)
      refine Sat.go (Eq.refl _) (NS.no (rfl) ?_)
      refine Sat.go (Eq.refl _) (NS.chk (by kernel_rfl) ?_)
      refine Sat.go (Eq.refl _) (NS.need (decide_eq_true (by show _ ∧ (0 : Int) < ((2 : Nat) : Int); omega)) ?_)
      refine Sat.go (Eq.refl _) (NS.need (decide_eq_true (by show _ ∧ (1 : Int) < ((2 : Nat) : Int); omega)) ?_)
      refine Sat.go (Eq.refl _) (NS.no (by show (k == 2) = false; simpa using hk2) ?_)
      refine Sat.go (Eq.refl _) (NS.no (by show (k == 4) = false; simpa using hk4) ?_)
      refine Sat.go (Eq.refl _) (NS.call (c2) rfl ?_)
      refine Sat.go (Eq.refl _) (NS.no (rfl) ?_)
      refine Sat.go (Eq.refl _) (NS.need (decide_eq_true (by show _ ∧ (9 : Int) < (m2.length : Int); omega)) ?_)
      refine Sat.go (Eq.refl _) (NS.call (cin) rfl ?_)
      refine Sat.go (Eq.refl _) (NS.no (by rw [hc]; rfl) ?_)
      refine Sat.go (Eq.refl _) (NS.call (ct) rfl ?_)
      refine Sat.go (Eq.refl _) (NS.no (by show ((rdT R).2.2 != 0) = false; rw [he]; rfl) ?_)
      refine Sat.go (Eq.refl _) (NS.yes (by show ((((rdT R).2.1 : Nat) : Int) != (((bs R).size : Nat) : Int)) = true; rw [bs_len, bne_iff_ne]; intro h; exact hkl (by exact_mod_cast h)) ?_)
      exact Sat.go (Eq.refl _) (NS.ret rfl rfl (LeA.refl _))
    ·have e : parR L = none := by
      rw [hP]; unfold parS; rw [h2]
      simp only
      rw [if_pos (by rw [bne_iff_ne.2 he]; rfl)]
     refine ⟨.zero, ?_, fun x hx => by rw [e] at hx; cases hx⟩
     rw [e]
     refine fn_ok CN rfl (by kernel_rfl) Tryz.func104 rfl ?_
     refine Sat.go (Eq.refl _) (NS.call (c1) rfl ?_)
     refine Sat.go (Eq.refl _) (NS.no (rfl) ?_)
     refine Sat.go (Eq.refl _) (NS.chk (by kernel_rfl) ?_)
     refine Sat.go (Eq.refl _) (NS.need (decide_eq_true (by show _ ∧ (0 : Int) < ((2 : Nat) : Int); omega)) ?_)
     refine Sat.go (Eq.refl _) (NS.need (decide_eq_true (by show _ ∧ (1 : Int) < ((2 : Nat) : Int); omega)) ?_)
     refine Sat.go (Eq.refl _) (NS.no (by show (k == 2) = false; simpa using hk2) ?_)
     refine Sat.go (Eq.refl _) (NS.no (by show (k == 4) = false; simpa using hk4) ?_)
     refine Sat.go (Eq.refl _) (NS.call (c2) rfl ?_)
     refine Sat.go (Eq.refl _) (NS.no (rfl) ?_)
     refine Sat.go (Eq.refl _) (NS.need (decide_eq_true (by show _ ∧ (9 : Int) < (m2.length : Int); omega)) ?_)
     refine Sat.go (Eq.refl _) (NS.call (cin) rfl ?_)
     refine Sat.go (Eq.refl _) (NS.no (by rw [hc]; rfl) ?_)
     refine Sat.go (Eq.refl _) (NS.call (ct) rfl ?_)
     refine Sat.go (Eq.refl _) (NS.yes (by show ((rdT R).2.2 != 0) = true; simpa using he) ?_)
     exact Sat.go (Eq.refl _) (NS.ret rfl rfl (LeA.refl _))
theorem rRead_ok (s : ByteArray) : FnOK Tryz.prog 68 [.str s] (.tup [slR (rdJA (ls s)).1, .int .i64 ((rdJA (ls s)).2.1 : Nat), .int .i64 (rdJA (ls s)).2.2], none) := by
 have hL := ls_lt s
 have hn := ls_len s
 by_cases hb : (s.size : Int) > 65536
 ·have e : rdJA (ls s) = ([], 0, 4) := by unfold rdJA; rw [hn, if_pos (decide_eq_true hb)]
  rw [e]
  refine fn_ok CN rfl (by kernel_rfl) Tryz.func68 rfl ?_
  refine Sat.go (Eq.refl _) (NS.yes (decide_eq_true hb) ?_)
  exact Sat.go (Eq.refl _) (NS.ret rfl rfl (LeA.tup3 (LeA.sl rfl fun i hi => absurd hi (Nat.not_lt_zero i)) (LeA.refl _) (LeA.refl _)))
 have e : rdJA (ls s) = ((rdJ (ls s)).1, (rdJ (ls s)).2, 0) := by unfold rdJA; rw [hn, if_neg (by simpa using hb)]
 rw [e]
 refine fn_ok CN rfl (by kernel_rfl) Tryz.func68 rfl ?_
 refine Sat.go (Eq.refl _) (NS.no (decide_eq_false hb) ?_)
 refine Sat.go (Eq.refl _) ?_
 refine NS.loop (σ := { p : Nat × List Jrec // RdAt (ls s) p.1 p.2 }) (fun p => [(0, .str s), (5, .own 5), (6, .int .i64 p.1.1)]) (fun p => [(5, .row 101 19 p.1.2.length (rowL Jrec.cells p.1.2))]) (fun p => (ls s).length - p.1.1) ⟨(0, []), RdAt.start _⟩ ?_ ?_
 ·exact weak_hd [(5, 12)] rfl ⟨rfl, rfl, rfl, trivial⟩ ⟨ren_row rfl rfl fun i hi => absurd hi (Nat.not_lt_zero i), trivial⟩ trivial (by kernel_rfl)
 rintro ⟨⟨q, o⟩, hR⟩
 have hR : RdAt (ls s) q o := hR
 have hle := hR.le
 have hol := hR.len
 have hqb : q ≤ 65536 := by omega
 have hdl : ((ls s).drop q).length ≤ 65536 := by rw [List.length_drop]; omega
 have c := rOpen_ok (s.extract (Int.toNat ((q : Nat) : Int)) (Int.toNat ((s.size : Nat) : Int))) (by rw [← ls_len, dropJ s q (by omega)]; omega)
 rw [dropJ s q (by omega)] at c
 have hdt : ∀ x ∈ (ls s).drop q, x < 256 := fun x hx => hL x (List.mem_of_mem_drop hx)
 refine Sat.go (Eq.refl _) (NS.need (by show decide (0 ≤ ((q : Nat) : Int) ∧ ((q : Nat) : Int) ≤ s.size ∧ (s.size : Int) ≤ s.size) = true; rw [decide_eq_true_eq]; omega) ?_)
 obtain ⟨T, n, eo, hO⟩ : ∃ T n eo, opL ((ls s).drop q) = (T, n, eo) := ⟨_, _, _, rfl⟩
 rw [hO] at c
 refine Sat.go (Eq.refl _) (NS.call (c) rfl ?_)
 by_cases he : eo = 0
 ·refine Sat.go (Eq.refl _) (NS.no (by show (eo != 0) = false; rw [he]; rfl) ?_)
  subst he
  have hts := opL_lt hdt
  have htl := (opL_len ((ls s).drop q)).1
  rw [hO] at hts htl
  have htl : T.length ≤ ((ls s).drop q).length := htl
  obtain ⟨r, cp, hr⟩ := rParse_ok T hts (by omega)
  refine Sat.go (Eq.refl _) (NS.call (cp) rfl ?_)
  cases hp : parR T with
  | none =>
   have hf : fstJ ((ls s).drop q) = none := by unfold fstJ; rw [hO]; simp only; rw [if_neg (by simp), hp]
   have hfin := hR.fin hL hf
   rw [hfin]
   refine Sat.go (Eq.refl _) (NS.yes (rfl) ?_)
   refine Sat.go (Eq.refl _) (NS.leaveOut rfl (Eq.refl _) (NS.ret rfl rfl (LeA.refl _)))
  | some x =>
   obtain rfl := hr x hp
   have hf : fstJ ((ls s).drop q) = some (r, n) := by unfold fstJ; rw [hO]; simp only; rw [if_neg (by simp), hp]
   obtain ⟨hN, hn0, hle2⟩ := hR.next hL hf
   refine Sat.go (Eq.refl _) (NS.no (rfl) ?_)
   refine Sat.go (Eq.refl _) (NS.need (decide_eq_true (by simp only [maxRow]; show (o.length + 1) * (159 + 1 + 1) ≤ _; omega)) ?_)
   refine Sat.go (Eq.refl _) (NS.next ⟨(q + n, o ++ [r]), hN⟩ (by show (ls s).length - (q + n) < (ls s).length - q; omega) ?_)
   exact weak_hd [(5, 41)] rfl ⟨rfl, rfl, ren_int rfl (show IntKind.i64.wrap ((q : Nat) + (n : Nat) : Int) = ((q + n : Nat) : Int) by rw [wrap_i64 (by omega) (by omega)]; omega), trivial⟩ ⟨ren_row rfl (by simp) (fun i hi j hj => row_snoc (cells := Jrec.cells) (x := r) rfl i (by simpa using hi) j hj), trivial⟩ trivial (by kernel_rfl)
 ·have hf : fstJ ((ls s).drop q) = none := by unfold fstJ; rw [hO, if_pos (by simpa using he)]
  have hfin := hR.fin hL hf
  rw [hfin]
  refine Sat.go (Eq.refl _) (NS.yes (by show (eo != 0) = true; simpa using he) ?_)
  refine Sat.go (Eq.refl _) (NS.leaveOut rfl (Eq.refl _) (NS.ret rfl rfl (LeA.refl _)))
end Go.Proofs.YtggjngbighkdgaaGreat

namespace Go.Proofs.YtggjngbighkdgaaGreat
open Go.Sy Go.Mb
set_option maxRecDepth 100000
set_option maxHeartbeats 4000000
theorem rFind_ok' (d : Dur) (id : Nid) (h1 : d.items.length ≤ 1000000) : FnOK Tryz.prog 72 [.agg d.cells, .agg id.cells] (.tup [.agg (findM d id).1.cells, .bool (findM d id).2], none) := by
 have hx := idx_lt (hasId id) d.items
 refine fn_ok CF rfl (by kernel_rfl) Tryz.func72 rfl ?_
 refine Sat.go (Eq.refl _) (NS.call (rIndex_ok d.items id h1) rfl ?_)
 refine Sat.go (Eq.refl _) (NS.ite (fun h0 => ?_) (fun h0 => ?_))
 ·have hn : idx (hasId id) d.items = -1 := by simpa using h0
  rw [show findM d id = (.zero, false) by unfold findM; rw [if_neg (by omega)]]
  exact Sat.go (Eq.refl _) (NS.ret rfl rfl (LeA.refl _))
 ·have hn : 0 ≤ idx (hasId id) d.items := by
   rcases idx_cases (hasId id) d.items with ⟨h2, _⟩ | ⟨k, _, h2, _⟩
   ·rw [h2] at h0; simp at h0
   ·omega
  rw [show findM d id = (d.items.getD (idx (hasId id) d.items).toNat default, true) by unfold findM; rw [if_pos hn]]
  refine Sat.go (Eq.refl _) (NS.need (decide_eq_true (by omega)) ?_)
  exact Sat.go (Eq.refl _) (NS.ret rfl rfl (LeA.refl _))
theorem sameO_ok (l m : List Ofr) (hl : l.length ≤ 1000000) : FnOK Tryz.prog 66 [slOfr l, slOfr m] (.bool (sameBy Ofr.eqv l m), none) := by
 refine fn_ok CF rfl (by kernel_rfl) Tryz.func66 rfl ?_
 refine Sat.go (Eq.refl _) (NS.ite (fun h0 => ?_) (fun h0 => ?_))
 ·exact Sat.go (Eq.refl _) (NS.ret rfl rfl (LeA.of (congrArg A.bool ((sameBy_len (fun _ _ => Ofr.eqv_iff) (by intro e; rw [e] at h0; simp at h0)).symm))))
 have hlm : l.length = m.length := by simp only [bne_eq_false_iff_eq] at h0; omega
 refine Sat.go (Eq.refl _) ?_
 refine NS.loop (σ := { k : Nat // k ≤ l.length ∧ ∀ i, i < k → Ofr.eqv (l.getD i default) (m.getD i default) = true }) (fun k => [(0, slOfr l), (1, slOfr m), (5, .int .i64 k.1)]) (fun _ => []) (fun k => l.length - k.1) ⟨0, Nat.zero_le _, fun i hi => by omega⟩ ?_ ?_
 ·exact weak_hd [] rfl ⟨rfl, rfl, rfl, trivial⟩ trivial trivial (by kernel_rfl)
 rintro ⟨k, hk, hn⟩
 refine Sat.go (Eq.refl _) (NS.ite (fun h => ?_) (fun h => ?_))
 ·have h : k < l.length := by simpa using h
  refine Sat.go (Eq.refl _) (NS.chk (by kernel_rfl) ?_)
  refine Sat.go (Eq.refl _) (NS.need (by simp; omega) ?_)
  refine Sat.go (Eq.refl _) (NS.need (by simp; omega) ?_)
  refine Sat.go (Eq.refl _) (NS.ite (fun h2 => ?_) (fun h2 => ?_))
  ·exact Sat.go (Eq.refl _) (NS.leaveOut rfl (Eq.refl _) (NS.ret rfl rfl (LeA.of (congrArg A.bool ((sameBy_f (k := k) (fun _ _ => Ofr.eqv_iff) (not_t h2)).symm)))))
  ·refine Sat.go (Eq.refl _) (NS.next ⟨k + 1, by omega, fun i hi => ?_⟩ (by simp; omega) ?_)
   ·by_cases hik : i = k
    ·subst hik; exact not_f h2
    ·exact hn i (by omega)
   ·exact weak_hd [] rfl ⟨rfl, rfl, ren_int rfl (i64_k (by omega) (by omega)), trivial⟩ trivial trivial (by kernel_rfl)
 ·have h : ¬ k < l.length := by simpa using h
  refine Sat.go (Eq.refl _) (NS.leave rfl (Eq.refl _) ?_)
  exact Sat.go (Eq.refl _) (NS.ret rfl rfl (LeA.of (congrArg A.bool ((sameBy_t (fun _ _ => Ofr.eqv_iff) hlm fun i hi => hn i (by omega)).symm))))
theorem rSameN_ok (n : Nod) (h1 : n.dur.items.length ≤ 1000000) (h2 : n.dur.inbox.length ≤ 1000000) (h3 : n.ofs.length ≤ 1000000) : FnOK Tryz.prog 19 [.agg n.cells, .agg n.cells] (.bool true, none) := by
 have c1 := same_ok n.dur n.dur h1 h2
 rw [sameD_iff.2 rfl] at c1
 have c2 := sameO_ok n.ofs n.ofs h3
 rw [(sameBy_iff (fun _ _ => Ofr.eqv_iff)).2 rfl] at c2
 refine fn_ok CF rfl (by kernel_rfl) Tryz.func19 rfl ?_
 refine Sat.go (Eq.refl _) (NS.yes (by simp) ?_)
 refine Sat.go (Eq.refl _) (NS.yes (by simp) ?_)
 refine Sat.go (Eq.refl _) (NS.yes (by simp) ?_)
 refine Sat.go (Eq.refl _) (NS.yes (by simp) ?_)
 refine Sat.go (Eq.refl _) (NS.yes (by simp) ?_)
 refine Sat.go (Eq.refl _) (NS.call (c1) rfl ?_)
 refine Sat.go (Eq.refl _) (NS.yes (rfl) ?_)
 refine Sat.go (Eq.refl _) (NS.call (c2) rfl ?_)
 exact Sat.go (Eq.refl _) (NS.ret rfl rfl (LeA.refl _))
def greatN (n : Nod) : Bool := greatD n.dur || decide ((n.ofs.length : Int) > 12) || decide ((n.jour.size : Int) > 3000)
theorem greatN_ok (n : Nod) : FnOK Tryz.prog 15 [.agg n.cells] (.bool (greatN n), none) := by
 refine fn_ok CF rfl (by kernel_rfl) Tryz.func15 rfl ?_
 refine Sat.go (Eq.refl _) (NS.call (great_ok n.dur) rfl ?_)
 refine Sat.go (Eq.refl _) (NS.ite (fun a1 => ?_) (fun a1 => ?_))
 ·exact Sat.go (Eq.refl _) (NS.ret rfl rfl (LeA.of (congrArg A.bool (by unfold greatN; rw [a1]; rfl))))
 refine Sat.go (Eq.refl _) (NS.ite (fun a2 => ?_) (fun a2 => ?_))
 ·exact Sat.go (Eq.refl _) (NS.ret rfl rfl (LeA.of (congrArg A.bool (by unfold greatN; rw [a1, show decide ((n.ofs.length : Int) > 12) = true from a2]; rfl))))
 exact Sat.go (Eq.refl _) (NS.ret rfl rfl (LeA.of (congrArg A.bool (by unfold greatN; rw [a1, show decide ((n.ofs.length : Int) > 12) = false from a2]; rfl))))
def rchkN (n : Nod) : Int :=
 if !inR n.self 0 15 || !inR n.quota 0 1073741824 || !inR n.last 0 (n.jour.size : Int) then 2
 else if decide ((n.jour.size : Int) > 65536) then 1
 else if !n.up then (if IntKind.i64.wrap (IntKind.i64.wrap ((n.dur.items.length : Int) + (n.dur.inbox.length : Int)) + (n.ofs.length : Int)) > 0 then 1 else 0)
 else if (((rdJA (ls n.jour)).2.1 : Nat) : Int) != (n.jour.size : Int) then 1
 else if !sameD (jrnD n).1 n.dur then 1
 else if usedM (jrnD n).1.items > n.quota then 1
 else if chkO n.ofs != 0 then 1
 else if n.ofs.any fun o => !(findM (jrnD n).1 o.id).2 then 1 else 0
theorem rCheckN_ok (n : Nod) (h1 : n.dur.items.length ≤ 1000000) (h2 : n.dur.inbox.length ≤ 1000000) : FnOK Tryz.prog 21 [.agg n.cells] (.int .i64 (rchkN n), none) := by
 obtain ⟨hj1, hj2⟩ := jrnD_len n
 have hl := rdJA_len (ls n.jour)
 have cf := rFold_ok (rdJA (ls n.jour)).1 (by omega)
 change FnOK _ _ _ (durA (jrnD n), none) at cf
 have c1 := same_ok (jrnD n).1 n.dur (by omega) (by omega)
 have c2 := rUsed_ok (jrnD n).1 (by omega)
 have no : ∀ {n lo hi : Int}, ¬ (lo ≤ n ∧ n ≤ hi) → inR n lo hi = false := fun h => by rw [← Bool.not_eq_true, inR_iff]; exact h
 have bad : (inR n.self 0 15 = false ∨ inR n.quota 0 1073741824 = false ∨ inR n.last 0 (n.jour.size : Int) = false) → rchkN n = 2 := by
  intro h
  unfold rchkN
  rw [if_pos]
  rcases h with h | h | h <;> rw [h] <;> simp
 refine fn_ok CF rfl (by kernel_rfl) Tryz.func21 rfl ?_
 refine Sat.go (Eq.refl _) (NS.ite (fun a1 => ?_) (fun a1 => ?_))
 ·rw [bad (.inl (no (by have := of_decide_eq_true a1; omega)))]
  exact Sat.go (Eq.refl _) (NS.ret rfl rfl (LeA.refl _))
 refine Sat.go (Eq.refl _) (NS.ite (fun a2 => ?_) (fun a2 => ?_))
 ·rw [bad (.inl (no (by have := of_decide_eq_true a2; omega)))]
  exact Sat.go (Eq.refl _) (NS.ret rfl rfl (LeA.refl _))
 refine Sat.go (Eq.refl _) (NS.ite (fun a3 => ?_) (fun a3 => ?_))
 ·rw [bad (.inr (.inl (no (by have := of_decide_eq_true a3; omega))))]
  exact Sat.go (Eq.refl _) (NS.ret rfl rfl (LeA.refl _))
 refine Sat.go (Eq.refl _) (NS.ite (fun a4 => ?_) (fun a4 => ?_))
 ·rw [bad (.inr (.inl (no (by have := of_decide_eq_true a4; omega))))]
  exact Sat.go (Eq.refl _) (NS.ret rfl rfl (LeA.refl _))
 refine Sat.go (Eq.refl _) (NS.ite (fun a5 => ?_) (fun a5 => ?_))
 ·rw [bad (.inr (.inr (no (by have := of_decide_eq_true a5; omega))))]
  exact Sat.go (Eq.refl _) (NS.ret rfl rfl (LeA.refl _))
 refine Sat.go (Eq.refl _) (NS.ite (fun a6 => ?_) (fun a6 => ?_))
 ·rw [bad (.inr (.inr (no (by have := of_decide_eq_true a6; omega))))]
  exact Sat.go (Eq.refl _) (NS.ret rfl rfl (LeA.refl _))
 have b1 := of_decide_eq_false a1
 have b2 := of_decide_eq_false a2
 have b3 := of_decide_eq_false a3
 have b4 := of_decide_eq_false a4
 have b5 := of_decide_eq_false a5
 have b6 := of_decide_eq_false a6
 unfold rchkN
 rw [if_neg (by rw [inR_iff.2 ⟨by omega, by omega⟩, inR_iff.2 ⟨by omega, by omega⟩, inR_iff.2 ⟨by omega, by omega⟩]; decide)]
 refine Sat.go (Eq.refl _) (NS.ite (fun a7 => ?_) (fun a7 => ?_))
 ·rw [if_pos a7]
  exact Sat.go (Eq.refl _) (NS.ret rfl rfl (LeA.refl _))
 rw [if_neg (by rw [show decide ((n.jour.size : Int) > 65536) = false from a7]; decide)]
 refine Sat.go (Eq.refl _) (NS.ite (fun a8 => ?_) (fun a8 => ?_))
 ·rw [if_pos a8]
  refine Sat.go (Eq.refl _) (NS.ite (fun a9 => ?_) (fun a9 => ?_))
  ·rw [if_pos (of_decide_eq_true a9)]
   exact Sat.go (Eq.refl _) (NS.ret rfl rfl (LeA.refl _))
  ·rw [if_neg (of_decide_eq_false a9)]
   exact Sat.go (Eq.refl _) (NS.ret rfl rfl (LeA.refl _))
 rw [if_neg (by rw [a8]; decide)]
 refine Sat.go (Eq.refl _) (NS.call (rRead_ok n.jour) rfl ?_)
 refine Sat.go (Eq.refl _) (NS.call (cf) rfl ?_)
 refine Sat.go (Eq.refl _) (NS.chk (by kernel_rfl) ?_)
 refine Sat.go (Eq.refl _) (NS.ite (fun d1 => ?_) (fun d1 => ?_))
 ·rw [if_pos d1]
  exact Sat.go (Eq.refl _) (NS.ret rfl rfl (LeA.refl _))
 rw [if_neg (by rw [d1]; decide)]
 refine Sat.go (Eq.refl _) (NS.call (c1) rfl ?_)
 refine Sat.go (Eq.refl _) (NS.ite (fun d2 => ?_) (fun d2 => ?_))
 ·rw [if_pos d2]
  exact Sat.go (Eq.refl _) (NS.ret rfl rfl (LeA.refl _))
 rw [if_neg (by rw [d2]; decide)]
 refine Sat.go (Eq.refl _) (NS.call (c2) rfl ?_)
 refine Sat.go (Eq.refl _) (NS.ite (fun d3 => ?_) (fun d3 => ?_))
 ·rw [if_pos (of_decide_eq_true d3)]
  exact Sat.go (Eq.refl _) (NS.ret rfl rfl (LeA.refl _))
 rw [if_neg (of_decide_eq_false d3)]
 refine Sat.go (Eq.refl _) (NS.call (rcCheck_ok n.ofs) rfl ?_)
 refine Sat.go (Eq.refl _) (NS.ite (fun d4 => ?_) (fun d4 => ?_))
 ·rw [if_pos d4]
  exact Sat.go (Eq.refl _) (NS.ret rfl rfl (LeA.refl _))
 rw [if_neg (by rw [d4]; decide)]
 have hlo : n.ofs.length ≤ 64 := chkO_len (by simpa using d4)
 obtain ⟨D, hD⟩ : ∃ D, D = (jrnD n).1 := ⟨_, rfl⟩
 rw [← hD] at hj1 hj2
 rw [← hD]
 refine Sat.go (Eq.refl _) ?_
 refine NS.loop (σ := { k : Nat // k ≤ n.ofs.length ∧ ∀ i, i < k → (!(findM D (n.ofs.getD i default).id).2) = false }) (fun k => [(1, .ptr 1 0), (6, .ptr 6 0), (8, .int .i64 k.1)]) (fun k => [(1, .box n.cells), (6, .box D.cells)]) (fun k => n.ofs.length - k.1) ⟨0, Nat.zero_le _, fun i hi => by omega⟩ ?_ ?_
 ·exact weak_hd [] rfl ⟨rfl, rfl, rfl, trivial⟩ ⟨⟨_, rfl, renNod _ _⟩, ⟨_, rfl, ⟨_, _, rfl, rfl, _, _, rfl, rfl, rfl⟩⟩, trivial⟩ trivial (by kernel_rfl)
 rintro ⟨k, hk, hn⟩
 refine Sat.go (Eq.refl _) (NS.ite (fun h => ?_) (fun h => ?_))
 ·have h : k < n.ofs.length := by simpa using h
  refine Sat.go (Eq.refl _) (NS.chk (by kernel_rfl) ?_)
  refine Sat.go (Eq.refl _) (NS.need (by simp; omega) ?_)
  refine Sat.go (Eq.refl _) (NS.call (rFind_ok' D (n.ofs.getD k default).id (by omega)) rfl ?_)
  refine Sat.go (Eq.refl _) (NS.ite (fun h2 => ?_) (fun h2 => ?_))
  ·exact Sat.go (Eq.refl _) (NS.leaveOut rfl (Eq.refl _) (NS.ret rfl rfl (LeA.of (congrArg (A.int .i64) (by rw [if_pos (any_t (k := k) h h2)])))))
  ·refine Sat.go (Eq.refl _) (NS.next ⟨k + 1, by omega, fun i hi => ?_⟩ (by simp; omega) ?_)
   ·by_cases hik : i = k
    ·subst hik; exact h2
    ·exact hn i (by omega)
   ·exact weak_hd [] rfl ⟨rfl, rfl, ren_int rfl (i64_k (by omega) (by omega)), trivial⟩ ⟨⟨_, rfl, renNod _ _⟩, ⟨_, rfl, ⟨_, _, rfl, rfl, _, _, rfl, rfl, rfl⟩⟩, trivial⟩ trivial (by kernel_rfl)
 ·have h : ¬ k < n.ofs.length := by simpa using h
  refine Sat.go (Eq.refl _) (NS.leave rfl (Eq.refl _) ?_)
  exact Sat.go (Eq.refl _) (NS.ret rfl rfl (LeA.of (congrArg (A.int .i64) (by rw [if_neg (by rw [any_f fun i hi => hn i (by omega)]; decide)]))))
end Go.Proofs.YtggjngbighkdgaaGreat

namespace Go.Proofs.YtggjngbighkdgaaGreat
open Go.Sy Go.Mb
set_option maxRecDepth 100000
set_option maxHeartbeats 4000000
theorem drop_get {α : Type} [Inhabited α] {l : List α} {k : Nat} (h : k < l.length) : l.drop k = l.getD k default :: l.drop (k + 1) := by
 rw [getD_lt h]; exact List.drop_eq_getElem_cons h
theorem playG_cons (n : Nod) (out : List Mb.Act) (e : Evt) (l : List Evt) (i : Int) : playG n out (e :: l) i = if (goM n e).2.2 != 0 then (zeroN, [], i, (goM n e).2.2) else playG (goM n e).1 (out ++ (goM n e).2.1) l (i + 1) := rfl
theorem playA_le {R : Nod × List Mb.Act × Int × Int} {n : Nod} {acts : List Mb.Act} {i f : Int} (h : R = (n, acts, i, f)) {x y z w : A} (h1 : LeA x (.agg n.cells)) (h2 : LeA y (slAct acts)) (h3 : LeA z (.int .i64 i)) (h4 : LeA w (.int .i64 f)) : LeA (.tup [x, y, z, w]) (playA R) := by
 subst h; exact LeA.tup4 h1 h2 h3 h4
theorem play_ok (n : Nod) (l : List Evt) (h : Szn n 100) (hl : l.length ≤ 200) : FnOK Tryz.prog 24 [.agg n.cells, slEvt l] (playA (playM n l), none) := by
 unfold playM
 refine fn_ok CF rfl (by kernel_rfl) Tryz.func24 rfl ?_
 refine Sat.go (Eq.refl _) (NS.call (nCheck_ok n (by have := h.1; omega) (by have := h.2.1; omega) (by have := h.2.2.2; omega)) rfl ?_)
 refine Sat.go (Eq.refl _) (NS.ite (fun a1 => ?_) (fun a1 => ?_))
 ·rw [if_pos a1]
  exact Sat.go (Eq.refl _) (NS.ret rfl rfl (LeA.tup4 (zeroN_le rfl) (LeA.nil' rfl) (LeA.refl _) (LeA.refl _)))
 rw [if_neg (by rw [a1]; decide)]
 obtain ⟨R, hR⟩ : ∃ R, R = playG n [] l 0 := ⟨_, rfl⟩
 rw [← hR]
 refine Sat.go (Eq.refl _) ?_
 refine NS.loop (σ := { q : Nat × Nod × List Mb.Act // q.1 ≤ l.length ∧ Szn q.2.1 (100 + q.1) ∧ q.2.2.length ≤ q.1 * 200000 ∧ R = playG q.2.1 q.2.2 (l.drop q.1) (q.1 : Nat) }) (fun q => [(1, slEvt l), (2, .ptr 2 0), (4, .ptr 4 0), (8, .own 8), (18, slEvt l), (19, .int .i64 l.length), (20, .int .i64 (q.1.1 : Nat))]) (fun q => [(2, .box q.1.2.1.cells), (4, .box [.junk, .junk, .junk, .junk, .junk, .junk, .junk, .junk]), (8, .row 63 14 q.1.2.2.length (rowL Mb.Act.cells q.1.2.2))]) (fun q => l.length - q.1.1) ⟨(0, n, []), Nat.zero_le _, h, Nat.zero_le _, hR⟩ ?_ ?_
 ·refine (weak_promote 8 8 63 14 (rowL Mb.Act.cells []) rfl rfl).trans ?_
  exact weak_hd [] rfl ⟨rfl, rfl, rfl, rfl, rfl, rfl, rfl, trivial⟩ ⟨⟨_, rfl, renNod _ _⟩, ⟨_, rfl, ⟨_, _, rfl, trivial, _, _, rfl, trivial, _, _, rfl, trivial, _, _, rfl, trivial, _, _, rfl, trivial, _, _, rfl, trivial, _, _, rfl, trivial, _, _, rfl, trivial, rfl⟩⟩, ren_row rfl rfl fun _ _ _ _ => rfl, trivial⟩ trivial (by kernel_rfl)
 rintro ⟨⟨k, m, out⟩, hk, hz, ho, hp⟩
 have hk : k ≤ l.length := hk
 have hz : Szn m (100 + k) := hz
 have ho : out.length ≤ k * 200000 := ho
 have hp : R = playG m out (l.drop k) (k : Nat) := hp
 refine Sat.go (Eq.refl _) (NS.ite (fun a2 => ?_) (fun a2 => ?_))
 ·have a2 : k < l.length := by simpa using a2
  obtain ⟨g1, g2⟩ := hz.go (by omega) (l.getD k default)
  refine Sat.go (Eq.refl _) (NS.need (by simp; omega) ?_)
  refine Sat.go (Eq.refl _) (NS.call (handle_ok m (l.getD k default) (by have := hz.1; omega) (by have := hz.2.1; omega) hz.2.2.1 (by have := hz.2.2.2; omega)) rfl ?_)
  rw [drop_get a2] at hp
  rw [playG_cons] at hp
  refine Sat.go (Eq.refl _) (NS.ite (fun a3 => ?_) (fun a3 => ?_))
  ·rw [if_pos a3] at hp
   exact Sat.go (Eq.refl _) (NS.leaveOut rfl (Eq.refl _) (NS.ret rfl rfl (playA_le hp (zeroN_le rfl) (LeA.nil' rfl) (LeA.refl _) (LeA.refl _))))
  ·rw [if_neg (by rw [a3]; decide)] at hp
   refine Sat.go (Eq.refl _) (NS.chk (by kernel_rfl) ?_)
   refine Sat.go (Eq.refl _) (NS.need (decide_eq_true (by simp only [maxRow]; show (out.length + (goM m (l.getD k default)).2.1.length) * _ ≤ _; omega)) ?_)
   refine Sat.go (Eq.refl _) (NS.next ⟨(k + 1, (goM m (l.getD k default)).1, out ++ (goM m (l.getD k default)).2.1), by show k + 1 ≤ l.length; omega, by have := g1; exact this, by show (out ++ _).length ≤ (k + 1) * 200000; simp only [List.length_append]; omega, by rw [hp]; show _ = playG _ _ _ ((k + 1 : Nat) : Int); rw [show ((k + 1 : Nat) : Int) = (k : Int) + 1 from rfl]⟩ (by show l.length - (k + 1) < l.length - k; omega) ?_)
   exact weak_hd [(8, 40)] rfl ⟨rfl, rfl, rfl, rfl, rfl, rfl, ren_int rfl (i64_k (k := k) (by omega) (by omega)), trivial⟩ ⟨⟨_, rfl, renNod _ _⟩, ⟨_, rfl, ⟨_, _, rfl, trivial, _, _, rfl, trivial, _, _, rfl, trivial, _, _, rfl, trivial, _, _, rfl, trivial, _, _, rfl, trivial, _, _, rfl, trivial, _, _, rfl, trivial, rfl⟩⟩, ren_row rfl (by show out.length + _ = (out ++ _).length; simp) (fun i hi j hj => rowL_append Mb.Act.cells out _ i j), trivial⟩ trivial (by kernel_rfl)
 ·have a2 : ¬ k < l.length := by simpa using a2
  obtain rfl : k = l.length := by omega
  refine Sat.go (Eq.refl _) (NS.leave rfl (Eq.refl _) ?_)
  have hp2 : R = (m, out, (l.length : Int), 0) := by rw [hp, List.drop_length]; rfl
  exact Sat.go (Eq.refl _) (NS.ret rfl rfl (playA_le hp2 (LeA.refl _) (LeA.refl _) (LeA.refl _) (LeA.refl _)))
end Go.Proofs.YtggjngbighkdgaaGreat

namespace Go.Proofs.YtggjngbighkdgaaGreat
open Go.Sy Go.Mb
set_option maxRecDepth 100000
set_option maxHeartbeats 4000000
theorem jrn_ok {n : Nod} (h : (n.jour.size : Int) ≤ 65536) : (rdJA (ls n.jour)).2.2 = 0 ∧ (rdJA (ls n.jour)).1 = (rdJ (ls n.jour)).1 ∧ (rdJA (ls n.jour)).2.1 = (rdJ (ls n.jour)).2 ∧ (jrnD n).2 = 0 ∧ (jrnD n).1 = effs (rdJ (ls n.jour)).1 ⟨[], []⟩ ∧ Good (jrnD n).1 ∧ ∀ r ∈ (rdJ (ls n.jour)).1, recErr r = 0 := by
 have hl := ls_len n.jour
 have e : rdJA (ls n.jour) = ((rdJ (ls n.jour)).1, (rdJ (ls n.jour)).2, 0) := by
  unfold rdJA
  rw [if_neg (by rw [decide_eq_true_eq]; omega)]
 obtain ⟨_, hr⟩ := rdJ_le (ls n.jour).length rfl (ls_lt n.jour)
 have hf : foldM (rdJ (ls n.jour)).1 = (effs (rdJ (ls n.jour)).1 ⟨[], []⟩, 0) := by
  unfold foldM
  rw [if_neg]
  rw [List.any_eq_true]
  rintro ⟨r, hr1, hr2⟩
  unfold badRec at hr2
  rw [hr r hr1] at hr2
  cases hr2
 have hj : jrnD n = (effs (rdJ (ls n.jour)).1 ⟨[], []⟩, 0) := by unfold jrnD; rw [e, hf]
 refine ⟨by rw [e], by rw [e], by rw [e], by rw [hj], by rw [hj], ?_, hr⟩
 rw [hj]
 exact good_effs good_nil hr
theorem chk_eq (n : Nod) (h1 : n.dur.items.length ≤ 1000000) (h2 : n.dur.inbox.length ≤ 1000000) (h3 : n.ofs.length ≤ 1000000) : rchkN n = chkN n := by
 unfold rchkN chkN
 split
 ·rfl
 rename_i hr
 have hq : inR n.quota 0 1073741824 = true := by
  cases h : inR n.quota 0 1073741824
  ·rw [h] at hr; simp at hr
  ·rfl
 by_cases hs : (n.jour.size : Int) > 65536
 ·rw [if_pos (by simpa using hs), if_pos (by simp [hs])]
 rw [if_neg (by simpa using hs)]
 cases hu : n.up with
 | false =>
  unfold emptyN
  rw [wrap_i64 (n := (n.dur.items.length : Int) + (n.dur.inbox.length : Int)) (by omega) (by omega), wrap_i64 (by omega) (by omega)]
  by_cases hz : (n.dur.items.length : Int) + (n.dur.inbox.length : Int) + (n.ofs.length : Int) = 0
  ·simp [hs, hz]
  ·rw [if_pos (by decide), if_pos (by omega), if_pos]
   simp [hz]
 | true =>
  obtain ⟨j1, j2, j3, j4, j5, j6, j7⟩ := jrn_ok (n := n) (by omega)
  have hg := (good_iff _).2 j6
  have hst : storedM n = ((((rdJA (ls n.jour)).2.1 : Nat) : Int) == (n.jour.size : Int) && sameD (jrnD n).1 n.dur && !decide (usedM (jrnD n).1.items > n.quota) && chkO n.ofs == 0 && !n.ofs.any fun o => !(findM (jrnD n).1 o.id).2) := by
   unfold storedM sameD
   rw [j1, j4]
   have hc : (checkQ (jrnD n).1 n.quota == 0) = !decide (usedM (jrnD n).1.items > n.quota) := by
    unfold checkQ
    rw [if_pos hq, hg]
    by_cases h : usedM (jrnD n).1.items > n.quota
    ·simp [h]
    ·simp [h]
   rw [hc]
   simp [Bool.and_assoc]
  rw [if_neg (by decide), hst]
  by_cases e1 : (((rdJA (ls n.jour)).2.1 : Nat) : Int) = (n.jour.size : Int)
  ·cases e2 : sameD (jrnD n).1 n.dur
   ·simp [e1]
   ·by_cases e3 : usedM (jrnD n).1.items > n.quota
    ·simp [e1, e3]
    ·by_cases e4 : chkO n.ofs = 0
     ·cases e5 : n.ofs.any fun o => !(findM (jrnD n).1 o.id).2
      ·simp [e1, e3, e4, hs]
      ·simp [e1, e3, e4]
     ·simp [e1, e3, e4]
  ·simp [e1]
end Go.Proofs.YtggjngbighkdgaaGreat

namespace Go.Proofs.YtggjngbighkdgaaGreat
open Go.Sy Go.Mb
set_option maxRecDepth 100000
set_option maxHeartbeats 4000000
def exItem : Itm := ⟨1, ⟨0, 0, 1, 0, 0⟩, 2, 100, 0, true, ⟨#[49, 50, 51, 52, 53, 54, 55, 56]⟩⟩
def exNode : Nod := ⟨1, 20, true, .empty, 0, ⟨[], []⟩, []⟩
def exEvs : List Evt := [⟨1, 5, exItem, .zero, 0, 0, false, 0⟩, ⟨2, 10, .zero, exItem.id, 3, 50, false, 0⟩, ⟨3, 40, .zero, exItem.id, 3, 0, false, 0⟩, ⟨2, 60, .zero, exItem.id, 4, 90, false, 0⟩, ⟨3, 80, .zero, exItem.id, 4, 0, true, 0⟩]
def exActs : List Mb.Act := [⟨2, exItem, 0, 1⟩, ⟨1, exItem, 3, 0⟩, ⟨4, exItem, 0, 0⟩, ⟨1, exItem, 4, 0⟩, ⟨5, exItem, 0, 0⟩]
theorem ex_play : (playM exNode exEvs).2 = (exActs, 5, 0) := by kernel_rfl
theorem ex_items : (playM exNode exEvs).1.dur.items = [] := by kernel_rfl
theorem ex_read : (rdJA (ls (playM exNode exEvs).1.jour)).1.length = 2 ∧ ((rdJA (ls (playM exNode exEvs).1.jour)).2.1 : Int) = ((playM exNode exEvs).1.jour.size : Int) ∧ (rdJA (ls (playM exNode exEvs).1.jour)).2.2 = 0 := ⟨by kernel_rfl, by kernel_rfl, by kernel_rfl⟩
theorem exItem_ok : FnOK Tryz.prog 64 [] (.agg exItem.cells, none) := by
 refine fn_ok CF rfl (by kernel_rfl) Tryz.func64 rfl ?_
 exact Sat.go (Eq.refl _) (NS.ret rfl rfl (LeA.refl _))
theorem szn_ex : Szn exNode 100 := ⟨by decide, by decide, by decide, by decide⟩
noncomputable def EA : Env := { P := Tryz.prog, eqT := lookE eqTab, frz := [30, 58] }
theorem EA_ok : EqOK EA := eqOK_of eqTab_ok
noncomputable def CA : Cx := { E := EA, inl := [], ok := EA_ok }
theorem awakeN_ok : FnOK Tryz.prog 16 [] (.bool true, none) := by
 have cn := nNew_ok 1 20
 rw [show newN 1 20 = (exNode, 0) from rfl] at cn
 obtain ⟨N, hN⟩ : ∃ N, N = (playM exNode exEvs).1 := ⟨_, rfl⟩
 have cp := play_ok exNode exEvs szn_ex (by decide)
 have e1 := ex_play
 have e2 := ex_items
 have e3 := ex_read
 rw [← hN] at e2 e3
 rw [show playM exNode exEvs = (N, exActs, 5, 0) by rw [← e1, hN]] at cp
 obtain ⟨r1, r2, r3⟩ := e3
 refine fn_ok CA rfl (by kernel_rfl) Tryz.func16 rfl ?_
 refine Sat.go (Eq.refl _) (NS.call (cn) rfl ?_)
 refine Sat.go (Eq.refl _) (NS.call (exItem_ok) rfl ?_)
 refine Sat.go (Eq.refl _) (NS.chk (by kernel_rfl) ?_)
 refine Sat.go (Eq.refl _) (NS.call (exItem_ok) rfl ?_)
 refine Sat.go (Eq.refl _) (NS.call (cp.le (LeL.cons (LeA.refl _) (LeL.cons (LeA.slLe rfl ?_) LeL.nil))) rfl ?_)
 ·intro i hi j hj
  have hi : i < 5 := hi
  have hj : j < 22 := hj
  have hi5 : i = 0 ∨ i = 1 ∨ i = 2 ∨ i = 3 ∨ i = 4 := by omega
  have hj22 : j = 0 ∨ j = 1 ∨ j = 2 ∨ j = 3 ∨ j = 4 ∨ j = 5 ∨ j = 6 ∨ j = 7 ∨ j = 8 ∨ j = 9 ∨ j = 10 ∨ j = 11 ∨ j = 12 ∨ j = 13 ∨ j = 14 ∨ j = 15 ∨ j = 16 ∨ j = 17 ∨ j = 18 ∨ j = 19 ∨ j = 20 ∨ j = 21 := by omega
  by_cases hq : i = 4 ∧ j = 20
  ·obtain ⟨rfl, rfl⟩ := hq
   exact (LeA.of (show _ = A.kb true by kernel_rfl)).trans (LeA.kb true)
  rcases hi5 with rfl | rfl | rfl | rfl | rfl <;> rcases hj22 with rfl | rfl | rfl | rfl | rfl | rfl | rfl | rfl | rfl | rfl | rfl | rfl | rfl | rfl | rfl | rfl | rfl | rfl | rfl | rfl | rfl | rfl <;> first | (exfalso; exact hq ⟨rfl, rfl⟩) | (refine LeA.of ?_; show _ = _; kernel_rfl)
 refine Sat.go (Eq.refl _) (NS.no (rfl) ?_)
 refine Sat.go (Eq.refl _) (NS.no (rfl) ?_)
 refine Sat.go (Eq.refl _) (NS.no (rfl) ?_)
 refine Sat.go (Eq.refl _) (NS.no (rfl) ?_)
 refine Sat.go (Eq.refl _) (NS.no (by rw [e2]; rfl) ?_)
 refine Sat.go (Eq.refl _) ?_
 refine NS.loop (σ := { k : Nat // k ≤ 5 }) (fun k => [(1, .ptr 1 0), (4, slAct exActs), (58, slN [2, 1, 4, 1, 5]), (59, .int .i64 5), (60, .int .i64 (k.1 : Nat))]) (fun k => [(1, .box N.cells)]) (fun k => 5 - k.1) ⟨0, by omega⟩ ?_ ?_
 ·refine (weak_slot 58 (x := slN [2, 1, 4, 1, 5]) ?_).trans ?_
  ·refine LeA.sl rfl fun i hi j hj => ?_
   have : i = 0 ∨ i = 1 ∨ i = 2 ∨ i = 3 ∨ i = 4 := by have hi : i < 5 := hi; omega
   obtain rfl : j = 0 := by have hj : j < 1 := hj; omega
   rcases this with rfl | rfl | rfl | rfl | rfl <;> rfl
  ·exact weak_hd [] rfl ⟨rfl, rfl, rfl, rfl, rfl, trivial⟩ ⟨⟨_, rfl, renNod _ _⟩, trivial⟩ trivial (by kernel_rfl)
 rintro ⟨k, hk⟩
 refine Sat.go (Eq.refl _) (NS.ite (fun h => ?_) (fun h => ?_))
 ·have hk5 : k < 5 := by have h : ((k : Nat) : Int) < 5 := of_decide_eq_true h; omega
  have : k = 0 ∨ k = 1 ∨ k = 2 ∨ k = 3 ∨ k = 4 := by omega
  rcases this with rfl | rfl | rfl | rfl | rfl
  ·repeat' (first | (refine Sat.go (Eq.refl _) (NS.chk (by kernel_rfl) ?_)) | (refine Sat.go (Eq.refl _) (NS.need (by show decide ((0 : Int) ≤ ((0 : Nat) : Int) ∧ ((0 : Nat) : Int) < ((5 : Nat) : Int)) = true; decide) ?_)) | (refine Sat.go (Eq.refl _) (NS.no (rfl) ?_)) | (refine Sat.go (Eq.refl _) (NS.no (by kernel_rfl) ?_)) | (refine Sat.go (Eq.refl _) (NS.call (exItem_ok) rfl ?_)) | (refine Sat.go (Eq.refl _) (NS.call (sameItem_ok exItem exItem) rfl ?_)))
   refine Sat.go (Eq.refl _) (NS.next ⟨1, by omega⟩ (by show 5 - 1 < 5 - 0; omega) ?_)
   exact weak_hd [] rfl ⟨rfl, rfl, rfl, rfl, ren_int rfl (i64_k (k := 0) (n := 5) (by omega) (by omega)), trivial⟩ ⟨⟨_, rfl, renNod _ _⟩, trivial⟩ trivial (by kernel_rfl)
  ·repeat' (first | (refine Sat.go (Eq.refl _) (NS.chk (by kernel_rfl) ?_)) | (refine Sat.go (Eq.refl _) (NS.need (by show decide ((0 : Int) ≤ ((1 : Nat) : Int) ∧ ((1 : Nat) : Int) < ((5 : Nat) : Int)) = true; decide) ?_)) | (refine Sat.go (Eq.refl _) (NS.no (rfl) ?_)) | (refine Sat.go (Eq.refl _) (NS.no (by kernel_rfl) ?_)) | (refine Sat.go (Eq.refl _) (NS.call (exItem_ok) rfl ?_)) | (refine Sat.go (Eq.refl _) (NS.call (sameItem_ok exItem exItem) rfl ?_)))
   refine Sat.go (Eq.refl _) (NS.next ⟨2, by omega⟩ (by show 5 - 2 < 5 - 1; omega) ?_)
   exact weak_hd [] rfl ⟨rfl, rfl, rfl, rfl, ren_int rfl (i64_k (k := 1) (n := 5) (by omega) (by omega)), trivial⟩ ⟨⟨_, rfl, renNod _ _⟩, trivial⟩ trivial (by kernel_rfl)
  ·repeat' (first | (refine Sat.go (Eq.refl _) (NS.chk (by kernel_rfl) ?_)) | (refine Sat.go (Eq.refl _) (NS.need (by show decide ((0 : Int) ≤ ((2 : Nat) : Int) ∧ ((2 : Nat) : Int) < ((5 : Nat) : Int)) = true; decide) ?_)) | (refine Sat.go (Eq.refl _) (NS.no (rfl) ?_)) | (refine Sat.go (Eq.refl _) (NS.no (by kernel_rfl) ?_)) | (refine Sat.go (Eq.refl _) (NS.call (exItem_ok) rfl ?_)) | (refine Sat.go (Eq.refl _) (NS.call (sameItem_ok exItem exItem) rfl ?_)))
   refine Sat.go (Eq.refl _) (NS.next ⟨3, by omega⟩ (by show 5 - 3 < 5 - 2; omega) ?_)
   exact weak_hd [] rfl ⟨rfl, rfl, rfl, rfl, ren_int rfl (i64_k (k := 2) (n := 5) (by omega) (by omega)), trivial⟩ ⟨⟨_, rfl, renNod _ _⟩, trivial⟩ trivial (by kernel_rfl)
  ·repeat' (first | (refine Sat.go (Eq.refl _) (NS.chk (by kernel_rfl) ?_)) | (refine Sat.go (Eq.refl _) (NS.need (by show decide ((0 : Int) ≤ ((3 : Nat) : Int) ∧ ((3 : Nat) : Int) < ((5 : Nat) : Int)) = true; decide) ?_)) | (refine Sat.go (Eq.refl _) (NS.no (rfl) ?_)) | (refine Sat.go (Eq.refl _) (NS.no (by kernel_rfl) ?_)) | (refine Sat.go (Eq.refl _) (NS.call (exItem_ok) rfl ?_)) | (refine Sat.go (Eq.refl _) (NS.call (sameItem_ok exItem exItem) rfl ?_)))
   refine Sat.go (Eq.refl _) (NS.next ⟨4, by omega⟩ (by show 5 - 4 < 5 - 3; omega) ?_)
   exact weak_hd [] rfl ⟨rfl, rfl, rfl, rfl, ren_int rfl (i64_k (k := 3) (n := 5) (by omega) (by omega)), trivial⟩ ⟨⟨_, rfl, renNod _ _⟩, trivial⟩ trivial (by kernel_rfl)
  ·repeat' (first | (refine Sat.go (Eq.refl _) (NS.chk (by kernel_rfl) ?_)) | (refine Sat.go (Eq.refl _) (NS.need (by show decide ((0 : Int) ≤ ((4 : Nat) : Int) ∧ ((4 : Nat) : Int) < ((5 : Nat) : Int)) = true; decide) ?_)) | (refine Sat.go (Eq.refl _) (NS.no (rfl) ?_)) | (refine Sat.go (Eq.refl _) (NS.no (by kernel_rfl) ?_)) | (refine Sat.go (Eq.refl _) (NS.call (exItem_ok) rfl ?_)) | (refine Sat.go (Eq.refl _) (NS.call (sameItem_ok exItem exItem) rfl ?_)))
   refine Sat.go (Eq.refl _) (NS.next ⟨5, by omega⟩ (by show 5 - 5 < 5 - 4; omega) ?_)
   exact weak_hd [] rfl ⟨rfl, rfl, rfl, rfl, ren_int rfl (i64_k (k := 4) (n := 5) (by omega) (by omega)), trivial⟩ ⟨⟨_, rfl, renNod _ _⟩, trivial⟩ trivial (by kernel_rfl)
 ·refine Sat.go (Eq.refl _) (NS.leave rfl (Eq.refl _) ?_)
  refine Sat.go (Eq.refl _) (NS.call (read_ok N.jour) rfl ?_)
  refine Sat.go (Eq.refl _) (NS.yes (by rw [r3]; rfl) ?_)
  refine Sat.go (Eq.refl _) (NS.yes (by rw [r2]; simp) ?_)
  exact Sat.go (Eq.refl _) (NS.ret rfl rfl (LeA.of (congrArg A.bool (by rw [r1]; rfl))))
end Go.Proofs.YtggjngbighkdgaaGreat

namespace Go.Proofs.YtggjngbighkdgaaGreat
open Go.Sy Go.Mb
set_option maxRecDepth 100000
set_option maxHeartbeats 4000000
theorem small_of {n : Nod} (h : greatN n = false) : n.dur.items.length ≤ 12 ∧ n.dur.inbox.length ≤ 12 ∧ n.ofs.length ≤ 12 ∧ n.jour.size ≤ 3000 := by
 unfold greatN at h
 simp only [Bool.or_eq_false_iff] at h
 obtain ⟨⟨h1, h2⟩, h3⟩ := h
 obtain ⟨b1, b2, _, _⟩ := not_great h1
 have h2 := of_decide_eq_false h2
 have h3 := of_decide_eq_false h3
 exact ⟨b1, b2, by omega, by omega⟩
end Go.Proofs.YtggjngbighkdgaaGreat

namespace Go.Mb
open Go.Sy
set_option maxRecDepth 100000
def intA : A → Int
 | .int _ n => n
 | _ => 0
def boolA : A → Bool
 | .bool b => b
 | _ => false
def strA : A → ByteArray
 | .str s => s
 | _ => .empty
theorem int_of {a : A} {k : IntKind} (h : ShA (.int k) a) : a = .int k (intA a) := by obtain ⟨n, rfl, _⟩ := h; rfl
theorem bool_of {a : A} (h : ShA .bool a) : a = .bool (boolA a) := by obtain ⟨n, rfl⟩ := h; rfl
theorem str_of {a : A} (h : ShA .str a) : a = .str (strA a) := by obtain ⟨n, rfl, _⟩ := h; rfl
theorem LeL_get : ∀ {l m : List A}, l.length = m.length → (∀ j, j < l.length → LeA (getA l j) (getA m j)) → LeL l m
 | [], [], _, _ => LeL.nil
 | [], b :: m, h, _ => by simp at h
 | a :: l, [], h, _ => by simp at h
 | a :: l, b :: m, h, hj => LeL.cons (hj 0 (by simp)) (LeL_get (by simpa using h) fun j hlt => hj (j + 1) (by simpa using hlt))
def shItm : List Sh := [.int .i64, .int .i64, .int .i64, .int .i64, .int .i64, .int .i64, .int .i64, .int .i64, .int .i64, .bool, .str]
def ofItm (f : Nat → A) : Itm := ⟨intA (f 0), ⟨intA (f 1), intA (f 2), intA (f 3), intA (f 4), intA (f 5)⟩, intA (f 6), intA (f 7), intA (f 8), boolA (f 9), strA (f 10)⟩
theorem cellsItm {f : Nat → A} (h : ShAs shItm f 0) : ∀ j, j < 11 → f j = getA (ofItm f).cells j := by
 obtain ⟨h0, h1, h2, h3, h4, h5, h6, h7, h8, h9, h10, _⟩ := h
 intro j hj
 match j, hj with
 | 0, _ => exact int_of h0
 | 1, _ => exact int_of h1
 | 2, _ => exact int_of h2
 | 3, _ => exact int_of h3
 | 4, _ => exact int_of h4
 | 5, _ => exact int_of h5
 | 6, _ => exact int_of h6
 | 7, _ => exact int_of h7
 | 8, _ => exact int_of h8
 | 9, _ => exact bool_of h9
 | 10, _ => exact str_of h10
theorem listItm {n : Nat} {el : Nat → Nat → A} (h : ∀ i, i < n → ShAs shItm (el i) 0) : ∃ l : List Itm, l.length = n ∧ LeA (.sl 11 n el) (slItm l) := by
 refine ⟨(List.range n).map fun i => ofItm (el i), by simp, LeA.sl (by simp) fun i hi j hj => ?_⟩
 rw [cellsItm (h i hi) j hj]
 simp [rowL, hi]
def shOfr : List Sh := [.int .i64, .int .i64, .int .i64, .int .i64, .int .i64, .int .i64, .int .i64, .int .i64]
def ofOfr (f : Nat → A) : Ofr := ⟨⟨intA (f 0), intA (f 1), intA (f 2), intA (f 3), intA (f 4)⟩, intA (f 5), intA (f 6), intA (f 7)⟩
theorem cellsOfr {f : Nat → A} (h : ShAs shOfr f 0) : ∀ j, j < 8 → f j = getA (ofOfr f).cells j := by
 obtain ⟨h0, h1, h2, h3, h4, h5, h6, h7, _⟩ := h
 intro j hj
 match j, hj with
 | 0, _ => exact int_of h0
 | 1, _ => exact int_of h1
 | 2, _ => exact int_of h2
 | 3, _ => exact int_of h3
 | 4, _ => exact int_of h4
 | 5, _ => exact int_of h5
 | 6, _ => exact int_of h6
 | 7, _ => exact int_of h7
theorem listOfr {n : Nat} {el : Nat → Nat → A} (h : ∀ i, i < n → ShAs shOfr (el i) 0) : ∃ l : List Ofr, l.length = n ∧ LeA (.sl 8 n el) (slOfr l) := by
 refine ⟨(List.range n).map fun i => ofOfr (el i), by simp, LeA.sl (by simp) fun i hi j hj => ?_⟩
 rw [cellsOfr (h i hi) j hj]
 simp [rowL, hi]
def shNod : List Sh := [.int .i64, .int .i64, .bool, .str, .int .i64, .sl 11 shItm, .sl 11 shItm, .sl 8 shOfr]
def shEvt : List Sh := [.int .i64, .int .i64, .int .i64, .int .i64, .int .i64, .int .i64, .int .i64, .int .i64, .int .i64, .int .i64, .int .i64, .bool, .str, .int .i64, .int .i64, .int .i64, .int .i64, .int .i64, .int .i64, .int .i64, .bool, .int .i64]
def ofEvt (f : Nat → A) : Evt := ⟨intA (f 0), intA (f 1), ⟨intA (f 2), ⟨intA (f 3), intA (f 4), intA (f 5), intA (f 6), intA (f 7)⟩, intA (f 8), intA (f 9), intA (f 10), boolA (f 11), strA (f 12)⟩, ⟨intA (f 13), intA (f 14), intA (f 15), intA (f 16), intA (f 17)⟩, intA (f 18), intA (f 19), boolA (f 20), intA (f 21)⟩
theorem cellsEvt {f : Nat → A} (h : ShAs shEvt f 0) : ∀ j, j < 22 → f j = getA (ofEvt f).cells j := by
 obtain ⟨h0, h1, h2, h3, h4, h5, h6, h7, h8, h9, h10, h11, h12, h13, h14, h15, h16, h17, h18, h19, h20, h21, _⟩ := h
 intro j hj
 match j, hj with
 | 0, _ => exact int_of h0
 | 1, _ => exact int_of h1
 | 2, _ => exact int_of h2
 | 3, _ => exact int_of h3
 | 4, _ => exact int_of h4
 | 5, _ => exact int_of h5
 | 6, _ => exact int_of h6
 | 7, _ => exact int_of h7
 | 8, _ => exact int_of h8
 | 9, _ => exact int_of h9
 | 10, _ => exact int_of h10
 | 11, _ => exact bool_of h11
 | 12, _ => exact str_of h12
 | 13, _ => exact int_of h13
 | 14, _ => exact int_of h14
 | 15, _ => exact int_of h15
 | 16, _ => exact int_of h16
 | 17, _ => exact int_of h17
 | 18, _ => exact int_of h18
 | 19, _ => exact int_of h19
 | 20, _ => exact bool_of h20
 | 21, _ => exact int_of h21
 | n + 22, h => exact absurd h (by omega)
theorem listEvt {n : Nat} {el : Nat → Nat → A} (h : ∀ i, i < n → ShAs shEvt (el i) 0) : ∃ l : List Evt, l.length = n ∧ LeA (.sl 22 n el) (slEvt l) := by
 refine ⟨(List.range n).map fun i => ofEvt (el i), by simp, LeA.sl (by simp) fun i hi j hj => ?_⟩
 rw [cellsEvt (h i hi) j hj]
 simp [rowL, hi]
end Go.Mb
namespace Go.Proofs.YtggjngbighkdgaaGreat
open Go.Sy Go.Mb
set_option maxRecDepth 100000
section
variable {H : Type} {enc : TypeId × Value → H} {W : World} {base : Nat} {spare : Nat → Bool} {held : Bool} {v : Value} {dd : DataW H} {ps : List MemPlace} {r : Reach} {b0 : Nat}
theorem argNod (hok : Value.okWide Tryz.prog W r b0 27 v) (h : DataW.Trod enc Tryz.prog W base spare held 27 v dd ps) : ∃ x : Nod, R W (fun _ => False) (.agg x.cells) virg v := by
 obtain ⟨cs, hl, hr, hs⟩ := lift_arg (X := fun _ => False) (fun _ h => h) (show shOf Tryz.prog 6 27 = some shNod by kernel_rfl) hok h
 have harg : argA Tryz.prog 27 cs = .agg cs := by unfold argA; rw [show isAggT Tryz.prog 27 = some true by kernel_rfl]
 rw [harg] at hr
 obtain ⟨h0, h1, h2, h3, h4, ⟨n5, el5, e5, _, hel5⟩, ⟨n6, el6, e6, _, hel6⟩, ⟨n7, el7, e7, _, hel7⟩, _⟩ := hs
 obtain ⟨l5, _, hle5⟩ := listItm hel5
 obtain ⟨l6, _, hle6⟩ := listItm hel6
 obtain ⟨l7, _, hle7⟩ := listOfr hel7
 refine ⟨⟨intA (getA cs 0), intA (getA cs 1), boolA (getA cs 2), strA (getA cs 3), intA (getA cs 4), ⟨l5, l6⟩, l7⟩, LeA.agg (LeL_get (by rw [hl]; rfl) fun j hj => ?_) _ _ _ _ hr⟩
 rw [hl] at hj
 match j, hj with
 | 0, _ => exact LeA.of (int_of h0)
 | 1, _ => exact LeA.of (int_of h1)
 | 2, _ => exact LeA.of (bool_of h2)
 | 3, _ => exact LeA.of (str_of h3)
 | 4, _ => exact LeA.of (int_of h4)
 | 5, _ => rw [show getA cs 5 = _ from e5]; exact hle5
 | 6, _ => rw [show getA cs 6 = _ from e6]; exact hle6
 | 7, _ => rw [show getA cs 7 = _ from e7]; exact hle7
theorem argEvt (hok : Value.okWide Tryz.prog W r b0 43 v) (h : DataW.Trod enc Tryz.prog W base spare held 43 v dd ps) : ∃ x : Evt, R W (fun _ => False) (.agg x.cells) virg v := by
 obtain ⟨cs, hl, hr, hs⟩ := lift_arg (X := fun _ => False) (fun _ h => h) (show shOf Tryz.prog 6 43 = some shEvt by kernel_rfl) hok h
 have harg : argA Tryz.prog 43 cs = .agg cs := by unfold argA; rw [show isAggT Tryz.prog 43 = some true by kernel_rfl]
 rw [harg] at hr
 have hc := cellsEvt hs
 exact ⟨_, LeA.agg (LeL_get (by rw [hl]; rfl) fun j hj => LeA.of (hc j (by rw [hl] at hj; exact hj))) _ _ _ _ hr⟩
theorem argEvts (hok : Value.okWide Tryz.prog W r b0 36 v) (h : DataW.Trod enc Tryz.prog W base spare held 36 v dd ps) : ∃ x : List Evt, R W (fun _ => False) (slEvt x) virg v := by
 obtain ⟨cs, hl, hr, hs⟩ := lift_arg (X := fun _ => False) (fun _ h => h) (show shOf Tryz.prog 6 36 = some [.sl 22 shEvt] by kernel_rfl) hok h
 have harg : argA Tryz.prog 36 cs = getA cs 0 := by unfold argA; rw [show isAggT Tryz.prog 36 = some false by kernel_rfl]
 rw [harg] at hr
 obtain ⟨⟨n, el, e0, _, hel⟩, _⟩ := hs
 obtain ⟨l, _, hle⟩ := listEvt hel
 rw [show getA cs 0 = _ from e0] at hr
 exact ⟨l, hle _ _ _ _ hr⟩
end
end Go.Proofs.YtggjngbighkdgaaGreat

