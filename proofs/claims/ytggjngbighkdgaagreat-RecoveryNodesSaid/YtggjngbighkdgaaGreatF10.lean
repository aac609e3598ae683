import Derived.Test.YtggjngbighkdgaaGreatF09
set_option linter.unusedSimpArgs false
set_option linter.unusedSectionVars false
set_option linter.unusedVariables false
namespace Go.Mb
open Go.Sy
def rdJA (l:List Nat):List Jrec × Nat × Int:=if decide ((l.length:Int) > 65536) then ([],0,4) else ((rdJ l).1,(rdJ l).2,0)
structure RdAt (L:List Nat) (at_:Nat) (o:List Jrec):Prop where
 le:at_ <= L.length
 res:rdJ L = (o ++ (rdJ (L.drop at_)).1,at_ + (rdJ (L.drop at_)).2)
 len:o.length <= at_
theorem RdAt.start (L:List Nat):RdAt L 0 []:=⟨Nat.zero_le _,by simp,Nat.le_refl _⟩
theorem RdAt.next {L:List Nat} (hL:∀ x ∈ L,x < 256) {at_:Nat} {o:List Jrec} (h:RdAt L at_ o) {r:Jrec} {n:Nat} (hf:fstJ (L.drop at_) = some (r,n)):RdAt L (at_ + n) (o ++ [r]) /\ 0 < n /\ at_ + n <= L.length:=by
 have hd:∀ x ∈ L.drop at_,x < 256:=fun x hx=>hL x (List.mem_of_mem_drop hx)
 obtain ⟨_,h1,h2,_⟩:=fstJ_ok hd hf
 rw [List.length_drop] at h2
 have hle:=h.le
 have hlen:=h.len
 refine ⟨⟨by omega,?_,by simp;omega⟩,h1,by omega⟩
 rw [h.res,rdJ_eq hd,hf]
 simp only [List.drop_drop]
 refine Prod.ext ?_ ?_
 ·simp
 ·show at_ + (n + (rdJ (L.drop (at_ + n))).2) = at_ + n + (rdJ (L.drop (at_ + n))).2;omega
theorem RdAt.fin {L:List Nat} (hL:∀ x ∈ L,x < 256) {at_:Nat} {o:List Jrec} (h:RdAt L at_ o) (hf:fstJ (L.drop at_) = none):rdJ L = (o,at_):=by
 rw [h.res,rdJ_eq fun x hx=>hL x (List.mem_of_mem_drop hx),hf]
 simp
theorem dropJ (s:ByteArray) (k:Nat) (h:k <= s.size):ls (s.extract (Int.toNat ((k:Nat):Int)) (Int.toNat ((s.size:Nat):Int))) = (ls s).drop k:=by
 rw [ls_extract];show ((ls s).take s.size).drop k = _
 rw [List.take_of_length_le (by rw [ls_len];omega)]
end Go.Mb
namespace Go.Proofs.YtggjngbighkdgaaGreat
open Go.Sy Go.Mb
set_option maxRecDepth 100000
set_option maxHeartbeats 2000000
theorem read_ok (s:ByteArray):FnOK Tryz.prog 30 [.str s] (.tup [slR (rdJA (ls s)).1,.int .i64 ((rdJA (ls s)).2.1:Nat),.int .i64 (rdJA (ls s)).2.2],none):=by
 have hL:=ls_lt s
 have hn:=ls_len s
 by_cases hb:(s.size:Int) > 65536
 ·have e:rdJA (ls s) = ([],0,4):=by unfold rdJA;rw [hn,if_pos (decide_eq_true hb)]
  rw [e]
  refine fn_ok CN rfl (by kernel_rfl) Tryz.func30 rfl ?_
  refine zG zE (NS.yes (decide_eq_true hb) ?_)
  exact zG zE (NS.ret rfl rfl (LeA.tup3 (LeA.nil' rfl) (LeA.refl _) (LeA.refl _)))
 have e:rdJA (ls s) = ((rdJ (ls s)).1,(rdJ (ls s)).2,0):=by unfold rdJA;rw [hn,if_neg (by simpa using hb)]
 rw [e]
 refine fn_ok CN rfl (by kernel_rfl) Tryz.func30 rfl ?_
 refine zG zE (NS.no (decide_eq_false hb) ?_)
 refine zG zE ?_
 refine NS.loop (σ:={ p:Nat × List Jrec // RdAt (ls s) p.1 p.2 }) (fun p=>[(0,.str s),(5,.own 5),(6,.int .i64 p.1.1)]) (fun p=>[(5,.row 101 19 p.1.2.length (rowL Jrec.cells p.1.2))]) (fun p=>(ls s).length - p.1.1) ⟨(0,[]),RdAt.start _⟩ ?_ ?_
 ·refine (weak_promote 5 5 101 19 (rowL Jrec.cells []) rfl rfl).trans ?_
  exact weak_hd [] rfl ⟨rfl,rfl,rfl,trivial⟩ ⟨ren_row rfl rfl fun _ _ _ _=>rfl,trivial⟩ trivial (by kernel_rfl)
 rintro ⟨⟨q,o⟩,hR⟩
 have hR:RdAt (ls s) q o:=hR
 have hle:=hR.le
 have hol:=hR.len
 have c:=first_ok (s.extract (Int.toNat ((q:Nat):Int)) (Int.toNat ((s.size:Nat):Int))) (by rw [<- ls_len,dropJ s q (by omega),List.length_drop];omega)
 rw [dropJ s q (by omega)] at c
 refine zG zE (NS.need (by show decide (0 <= ((q:Nat):Int) /\ ((q:Nat):Int) <= s.size /\ (s.size:Int) <= s.size) = true;rw [decide_eq_true_eq];omega) ?_)
 refine zG zE (NS.call (c) rfl ?_)
 rcases hf:fstJ ((ls s).drop q) with _ | ⟨r,n⟩
 ·refine zG zE (NS.yes (rfl) ?_)
  have hfin:=hR.fin hL hf
  rw [hfin]
  refine zG zE (NS.leaveOut rfl zE (NS.ret rfl rfl (LeA.refl _)))
 ·obtain ⟨hN,hn0,hle2⟩:=hR.next hL hf
  refine zG zE (NS.no (rfl) ?_)
  have hqb:q <= 65536:=by omega
  refine zG zE (NS.need (decide_eq_true (by simp only [maxRow];show (o.length + 1) * (159 + 1 + 1) <= _;omega)) ?_)
  refine zG zE (NS.next ⟨(q + n,o ++ [r]),hN⟩ (by show (ls s).length - (q + n) < (ls s).length - q;omega) ?_)
  exact weak_hd [(5,28)] rfl ⟨rfl,rfl,ren_int rfl (show IntKind.i64.wrap ((q:Nat) + (n:Nat):Int) = ((q + n:Nat):Int) by rw [wrap_i64 (by omega) (by omega)];omega),trivial⟩ ⟨ren_row rfl (by simp) (fun i hi j hj=>row_snoc (cells:=Jrec.cells) (x:=r) rfl i (by simpa using hi) j hj),trivial⟩ trivial (by kernel_rfl)
def wrN (n:Nod) (r:Jrec):Nod:={ n with jour:=bs (appM (ls n.jour) [r]).1,dur:=(applyM n.dur r).1,last:=if r.kind == 1 || r.kind == 3 then ((bs (appM (ls n.jour) [r]).1).size:Int) else n.last }
def wr (n:Nod) (r:Jrec):Nod × Int:=
 if (appM (ls n.jour) [r]).2 != 0 then (n,4)
 else if (applyM n.dur r).2 != 0 then (n,(applyM n.dur r).2)
 else (wrN n r,0)
structure Wst where
 n:Nod
 acts:List Mb.Act
 err:Int
def wCells (w:Wst) (e:Evt) (a:A):List A:=[.int .i64 w.n.self,.int .i64 w.n.quota,.bool w.n.up,.str w.n.jour,.int .i64 w.n.last,slItm w.n.dur.items,slItm w.n.dur.inbox,slOfr w.n.ofs,.int .i64 e.kind,.int .i64 e.time,.int .i64 e.item.ticket,.int .i64 e.item.id.source,.int .i64 e.item.id.created,.int .i64 e.item.id.seq,.int .i64 e.item.id.off,.int .i64 e.item.id.total,.int .i64 e.item.dest,.int .i64 e.item.expires,.int .i64 e.item.prio,.bool e.item.custody,.str e.item.data,.int .i64 e.id.source,.int .i64 e.id.created,.int .i64 e.id.seq,.int .i64 e.id.off,.int .i64 e.id.total,.int .i64 e.contact,.int .i64 e.due,.bool e.acc,.int .i64 e.ticket,a,.int .i64 w.err]
def Wst.write (w:Wst):List Jrec -> Wst
 | []=>w
 | r :: _=>⟨(wr w.n r).1,w.acts,if (wr w.n r).2 != 0 then (wr w.n r).2 else w.err⟩
def Wst.act (w:Wst) (a:Mb.Act):Wst:=⟨w.n,w.acts ++ [a],w.err⟩
def Wst.setO (w:Wst) (l:List Ofr):Wst:=⟨{ w.n with ofs:=l },w.acts,w.err⟩
def Wst.remove (w:Wst) (t:Int) (x:Itm):Wst:=
 ((w.write [⟨2,.zero,x.id,0,t⟩]).setO ((w.write [⟨2,.zero,x.id,0,t⟩]).n.ofs.filter (nt (ofId x.id)))).act ⟨5,x,0,0⟩
def Wst.settle (w:Wst) (t:Int) (id:Nid) (s a:Bool):Wst:=
 if !(findM w.n.dur id).2 then w else if decM (findM w.n.dur id).1.custody s a == 3 then w.act ⟨4,(findM w.n.dur id).1,0,0⟩ else w.remove t (findM w.n.dur id).1
def kindP (w:Wst) (e:Evt) (r:Int):Int:=if r == 4 || r == 5 || (r == 3 && w.n.ofs.any (ofId e.item.id)) then 3 else 2
def putW (w:Wst) (e:Evt):Wst:=
 if (putM w.n.dur w.n.self w.n.quota e.item e.time).2.2 != 0 then ⟨w.n,w.acts,(putM w.n.dur w.n.self w.n.quota e.item e.time).2.2⟩
 else (w.write (putM w.n.dur w.n.self w.n.quota e.item e.time).1).act ⟨kindP w e (putM w.n.dur w.n.self w.n.quota e.item e.time).2.1,e.item,0,(putM w.n.dur w.n.self w.n.quota e.item e.time).2.1⟩
def sendW (w:Wst) (e:Evt):Wst:=
 if !(findM w.n.dur e.id).2 then w
 else if (beginM w.n.ofs e.id e.contact e.due).2 == 0 then (w.setO (beginM w.n.ofs e.id e.contact e.due).1).act ⟨1,(findM w.n.dur e.id).1,e.contact,0⟩
 else if (beginM w.n.ofs e.id e.contact e.due).2 == 6 then w else ⟨w.n,w.acts,(beginM w.n.ofs e.id e.contact e.due).2⟩
def signalW (w:Wst) (e:Evt):Wst:=
 if (signalM w.n.ofs e.id e.contact).2.1 == 1 then w else (w.setO (signalM w.n.ofs e.id e.contact).1).settle e.time e.id true e.acc
def tmN (l:List Ofr) (t:Int) (w:Wst):Nat -> Wst
 | 0=>w
 | k + 1=>if k == 0 || !((l.getD (k - 1) default).id.eqv (l.getD k default).id) then (tmN l t w k).settle t (l.getD k default).id false false else tmN l t w k
def timerW (w:Wst) (e:Evt):Wst:=tmN (dueM w.n.ofs e.time).1 e.time (w.setO (dueM w.n.ofs e.time).2.1) (dueM w.n.ofs e.time).1.length
def exN (l:List Jrec) (t:Int) (w:Wst):Nat -> Wst
 | 0=>w
 | k + 1=>if (findM (exN l t w k).n.dur (l.getD k default).id).2 then (exN l t w k).remove t (findM (exN l t w k).n.dur (l.getD k default).id).1 else exN l t w k
def expireW (w:Wst) (e:Evt):Wst:=
 if (expireM w.n.dur e.time).2 != 0 then ⟨w.n,w.acts,(expireM w.n.dur e.time).2⟩ else exN (expireM w.n.dur e.time).1 e.time w (expireM w.n.dur e.time).1.length
def dropW (w:Wst) (e:Evt):Wst:=if (findM w.n.dur e.id).2 then w.remove e.time (findM w.n.dur e.id).1 else w
def ticketW (w:Wst) (e:Evt):Wst:=if (findM w.n.dur e.id).2 then w.write [⟨4,.zero,e.id,e.ticket,e.time⟩] else w
def kindW (w:Wst) (e:Evt):Wst:=
 if e.kind == 1 then putW w e else if e.kind == 2 then sendW w e else if e.kind == 3 then signalW w e else if e.kind == 4 then timerW w e else if e.kind == 5 then expireW w e else if e.kind == 6 then dropW w e else ticketW w e
def evE (e:Evt):Int:=
 if !inR e.kind 1 7 then 8
 else if inR e.time 0 1099511627776 && (if e.kind == 1 then okItem e.item else if e.kind == 2 then vId e.id && inR e.contact 0 63 && inR e.due 0 1099511627777 else if e.kind == 3 then vId e.id && inR e.contact 0 63 else if e.kind == 6 then vId e.id else if e.kind == 7 then vId e.id && inR e.ticket 0 1152921504606846976 else true) then 0 else 2
def zeroN:Nod:=⟨0,0,false,.empty,0,⟨[],[]⟩,[]⟩
def startW (n:Nod):Wst:=⟨{ n with last:=(n.jour.size:Int) },[],0⟩
def goM (n:Nod) (e:Evt):Nod × List Mb.Act × Int:=
 if evE e != 0 then (zeroN,[],evE e) else if !n.up then (zeroN,[],29)
 else if (kindW (startW n) e).err != 0 then (zeroN,[],(kindW (startW n) e).err) else ((kindW (startW n) e).n,(kindW (startW n) e).acts,0)
set_option maxHeartbeats 4000000
def lookO:List (Nat × Ob) -> Nat -> Ob
 | [],_=>.dead
 | (k,o) :: os,i=>match Nat.beq k i with | true=>o | false=>lookO os i
def mkO (os:List (Nat × Ob)):Nat -> Nat -> List Ob
 | 0,_=>[]
 | n + 1,i=>lookO os i :: mkO os n (i + 1)
def rowAct (l:List Mb.Act):Ob:=.row 63 14 l.length (rowL Mb.Act.cells l)
def zB:Ob:=.box [.int .i64 0,.int .i64 0,.bool false,.str .empty,.int .i64 0,.nils,.nils,.nils]
def wL (n:Nat) (x:Ob) (w:Wst) (e:Evt):List Ob:=mkO [(4,zB),(23,.box (wCells w e (.own 110))),(33,x),(110,rowAct w.acts)] n 0
theorem renW (σ:Nat -> Nat) (w:Wst) (e:Evt) {j k:Nat} (h:σ j = k):RenL σ (wCells w e (.own j)) (wCells w e (.own k)):=by
 subst h
 exact ⟨_,_,rfl,rfl,_,_,rfl,rfl,_,_,rfl,.inl rfl,_,_,rfl,rfl,_,_,rfl,rfl,_,_,rfl,rfl,_,_,rfl,rfl,_,_,rfl,rfl,
  _,_,rfl,rfl,_,_,rfl,rfl,_,_,rfl,rfl,_,_,rfl,rfl,_,_,rfl,rfl,_,_,rfl,rfl,_,_,rfl,rfl,_,_,rfl,rfl,_,_,rfl,rfl,_,_,rfl,rfl,_,_,rfl,rfl,_,_,rfl,.inl rfl,_,_,rfl,rfl,_,_,rfl,rfl,_,_,rfl,rfl,_,_,rfl,rfl,_,_,rfl,rfl,_,_,rfl,rfl,_,_,rfl,rfl,_,_,rfl,rfl,_,_,rfl,.inl rfl,_,_,rfl,rfl,
  _,_,rfl,rfl,_,_,rfl,rfl,rfl⟩
theorem renW2 (σ:Nat -> Nat) {w:Wst} (w':Wst) (e:Evt) (hw:w = w') {j k:Nat} (h:σ j = k):RenL σ (wCells w e (.own j)) (wCells w' e (.own k)):=by subst hw;exact renW σ w e h
noncomputable def EZ:Env:={ P:=Tryz.prog,eqT:=lookE eqTab,mu:=[] }
theorem EZ_ok:EqOK EZ:=eqOK_of eqTab_ok
noncomputable def CZ:Cx:={ E:=EZ,inl:=[],ok:=EZ_ok }
def wrK (w:Wst) (r:Jrec):Nat -> Wst
 | 0=>w
 | _ + 1=>⟨(wr w.n r).1,w.acts,w.err⟩
theorem write_one (w:Wst) {l:List Jrec} (h:0 < l.length):w.write l = ⟨(wr w.n (l.getD 0 default)).1,w.acts,if (wr w.n (l.getD 0 default)).2 != 0 then (wr w.n (l.getD 0 default)).2 else w.err⟩:=by
 cases l with
 | nil=>cases h
 | cons r l=>rfl
theorem writeD_ok (w:Wst) (e:Evt) (l:List Jrec) (hl:l.length <= 1) (h1:w.n.dur.items.length <= 900000) (h2:w.n.dur.inbox.length <= 900000) (h3:w.n.jour.size <= 100000):
  FnIn Tryz.prog 173 [.ptr 23 0,slR l] (wL 165 (.dead) w e) 185 (.tup []) (putOs (takeO 185 (wL 165 (.dead) w e)) [(23,.box (wCells (w.write l) e (.own 110)))]):=by
 refine fn_in CZ rfl (by kernel_rfl) Tryz.func173 rfl ?_
 refine zG zE ?_
 refine NS.loop (σ:={ k:Nat // k <= l.length /\ (0 < k -> (wr w.n (l.getD 0 default)).2 = 0) }) (fun k=>[(0,.ptr 23 0),(9,slR l),(10,.int .i64 l.length),(11,.int .i64 k.1)]) (fun k=>[(23,.box (wCells (wrK w (l.getD 0 default) k.1) e (.own 110)))]) (fun k=>l.length - k.1) ⟨0,Nat.zero_le _,fun h=>absurd h (Nat.lt_irrefl _)⟩ ?_ ?_
 ·exact weak_hd [] rfl ⟨rfl,rfl,rfl,rfl,trivial⟩ ⟨⟨_,rfl,renW _ _ _ rfl⟩,trivial⟩ (Pre_cut (by kernel_rfl)) (by kernel_rfl)
 rintro ⟨k,hk,hr⟩
 refine zG zE (NS.ite (fun h=>?_) (fun h=>?_))
 ·have h:k < l.length:=by simpa using h
  obtain rfl:k = 0:=by omega
  have hw:=write_one w (l:=l) h
  refine zG zE (NS.need (by simp;omega) ?_)
  refine zG zE (NS.chk (by kernel_rfl) ?_)
  refine zG zE (NS.call ((append_ok w.n.jour [l.getD 0 default] (by omega) (by simp)).le (LeL.cons (LeA.refl _) (LeL.cons (LeA.sl rfl (row_one rfl)) LeL.nil))) rfl ?_)
  refine zG zE (NS.ite (fun q1=>?_) (fun q1=>?_))
  ·rw [show wr w.n (l.getD 0 default) = (w.n,4) from if_pos q1] at hw
   exact zG zE (NS.leaveOut rfl zE (NS.fin (ts:=[]) rfl (weak_hd [] rfl trivial ⟨⟨_,rfl,by rw [hw];exact renW _ ⟨w.n,w.acts,4⟩ e rfl⟩,trivial⟩ (Pre_cut (by kernel_rfl)) (by kernel_rfl)) rfl (LeA.refl _)))
  refine zG zE (NS.chk (by kernel_rfl) ?_)
  refine zG zE (NS.call (apply_ok w.n.dur (l.getD 0 default) (by omega) (by omega)) rfl ?_)
  refine zG zE (NS.ite (fun q2=>?_) (fun q2=>?_))
  ·rw [show wr w.n (l.getD 0 default) = (w.n,(applyM w.n.dur (l.getD 0 default)).2) from by unfold wr;rw [if_neg (by rw [q1];decide),if_pos q2]] at hw
   rw [if_pos q2] at hw
   exact zG zE (NS.leaveOut rfl zE (NS.fin (ts:=[]) rfl (weak_hd [] rfl trivial ⟨⟨_,rfl,by rw [hw];exact renW _ ⟨w.n,w.acts,(applyM w.n.dur (l.getD 0 default)).2⟩ e rfl⟩,trivial⟩ (Pre_cut (by kernel_rfl)) (by kernel_rfl)) rfl (LeA.refl _)))
  have hwr:wr w.n (l.getD 0 default) = (wrN w.n (l.getD 0 default),0):=by unfold wr;rw [if_neg (by rw [q1];decide),if_neg (by rw [q2];decide)]
  refine zG zE (NS.chk (by kernel_rfl) ?_)
  refine zG zE (NS.ite (fun q3=>?_) (fun q3=>?_))
  ·have hn:wrN w.n (l.getD 0 default) = { w.n with jour:=bs (appM (ls w.n.jour) [l.getD 0 default]).1,dur:=(applyM w.n.dur (l.getD 0 default)).1,last:=((bs (appM (ls w.n.jour) [l.getD 0 default]).1).size:Int) }:=by unfold wrN;rw [show ((l.getD 0 default).kind == 1) = true from q3];rfl
   rw [hn] at hwr
   refine zG zE (NS.next ⟨1,by omega,fun _=>by rw [hwr]⟩ (by show l.length - 1 < l.length - 0;omega) ?_)
   exact weak_hd [] rfl ⟨rfl,rfl,rfl,ren_int rfl (i64_k (k:=0) (by omega) (by omega)),trivial⟩ ⟨⟨_,rfl,renW2 _ ⟨{ w.n with jour:=bs (appM (ls w.n.jour) [l.getD 0 default]).1,dur:=(applyM w.n.dur (l.getD 0 default)).1,last:=((bs (appM (ls w.n.jour) [l.getD 0 default]).1).size:Int) },w.acts,w.err⟩ e (by show (⟨(wr w.n (l.getD 0 default)).1,w.acts,w.err⟩:Wst) = _;rw [hwr]) rfl⟩,trivial⟩ (Pre_cut (by kernel_rfl)) (by kernel_rfl)
  ·refine zG zE (NS.ite (fun q4=>?_) (fun q4=>?_))
   ·have hn:wrN w.n (l.getD 0 default) = { w.n with jour:=bs (appM (ls w.n.jour) [l.getD 0 default]).1,dur:=(applyM w.n.dur (l.getD 0 default)).1,last:=((bs (appM (ls w.n.jour) [l.getD 0 default]).1).size:Int) }:=by unfold wrN;rw [show ((l.getD 0 default).kind == 1) = false from q3,show ((l.getD 0 default).kind == 3) = true from q4];rfl
    rw [hn] at hwr
    refine zG zE (NS.next ⟨1,by omega,fun _=>by rw [hwr]⟩ (by show l.length - 1 < l.length - 0;omega) ?_)
    exact weak_hd [] rfl ⟨rfl,rfl,rfl,ren_int rfl (i64_k (k:=0) (by omega) (by omega)),trivial⟩ ⟨⟨_,rfl,renW2 _ ⟨{ w.n with jour:=bs (appM (ls w.n.jour) [l.getD 0 default]).1,dur:=(applyM w.n.dur (l.getD 0 default)).1,last:=((bs (appM (ls w.n.jour) [l.getD 0 default]).1).size:Int) },w.acts,w.err⟩ e (by show (⟨(wr w.n (l.getD 0 default)).1,w.acts,w.err⟩:Wst) = _;rw [hwr]) rfl⟩,trivial⟩ (Pre_cut (by kernel_rfl)) (by kernel_rfl)
   ·have hn:wrN w.n (l.getD 0 default) = { w.n with jour:=bs (appM (ls w.n.jour) [l.getD 0 default]).1,dur:=(applyM w.n.dur (l.getD 0 default)).1,last:=w.n.last }:=by unfold wrN;rw [show ((l.getD 0 default).kind == 1) = false from q3,show ((l.getD 0 default).kind == 3) = false from q4];rfl
    rw [hn] at hwr
    refine zG zE (NS.next ⟨1,by omega,fun _=>by rw [hwr]⟩ (by show l.length - 1 < l.length - 0;omega) ?_)
    exact weak_hd [] rfl ⟨rfl,rfl,rfl,ren_int rfl (i64_k (k:=0) (by omega) (by omega)),trivial⟩ ⟨⟨_,rfl,renW2 _ ⟨{ w.n with jour:=bs (appM (ls w.n.jour) [l.getD 0 default]).1,dur:=(applyM w.n.dur (l.getD 0 default)).1,last:=w.n.last },w.acts,w.err⟩ e (by show (⟨(wr w.n (l.getD 0 default)).1,w.acts,w.err⟩:Wst) = _;rw [hwr]) rfl⟩,trivial⟩ (Pre_cut (by kernel_rfl)) (by kernel_rfl)
 ·have h:¬ k < l.length:=by simpa using h
  obtain rfl:k = l.length:=by omega
  refine zG zE (NS.leave rfl zE ?_)
  rcases l with _ | ⟨r,_ | ⟨r2,l⟩⟩
  ·exact zG zE (NS.fin (ts:=[]) rfl (weak_hd [] rfl trivial ⟨⟨_,rfl,renW _ w e rfl⟩,trivial⟩ (Pre_cut (by kernel_rfl)) (by kernel_rfl)) rfl (LeA.refl _))
  ·have hr:(wr w.n r).2 = 0:=hr (by simp)
   have hw:=write_one w (l:=[r]) (by simp)
   rw [show (wr w.n ([r].getD 0 default)).2 = 0 from hr] at hw
   exact zG zE (NS.fin (ts:=[]) rfl (weak_hd [] rfl trivial ⟨⟨_,rfl,by rw [hw];exact renW _ ⟨(wr w.n r).1,w.acts,w.err⟩ e rfl⟩,trivial⟩ (Pre_cut (by kernel_rfl)) (by kernel_rfl)) rfl (LeA.refl _))
  ·simp at hl
theorem writeP_ok (w:Wst) (e:Evt) (l:List Jrec) (hl:l.length <= 1) (h1:w.n.dur.items.length <= 900000) (h2:w.n.dur.inbox.length <= 900000) (h3:w.n.jour.size <= 100000):
  FnIn Tryz.prog 173 [.ptr 23 0,slR l] (wL 165 (.box [.ptr 23 0]) w e) 185 (.tup []) (putOs (takeO 185 (wL 165 (.box [.ptr 23 0]) w e)) [(23,.box (wCells (w.write l) e (.own 110)))]):=by
 refine fn_in CZ rfl (by kernel_rfl) Tryz.func173 rfl ?_
 refine zG zE ?_
 refine NS.loop (σ:={ k:Nat // k <= l.length /\ (0 < k -> (wr w.n (l.getD 0 default)).2 = 0) }) (fun k=>[(0,.ptr 23 0),(9,slR l),(10,.int .i64 l.length),(11,.int .i64 k.1)]) (fun k=>[(23,.box (wCells (wrK w (l.getD 0 default) k.1) e (.own 110)))]) (fun k=>l.length - k.1) ⟨0,Nat.zero_le _,fun h=>absurd h (Nat.lt_irrefl _)⟩ ?_ ?_
 ·exact weak_hd [] rfl ⟨rfl,rfl,rfl,rfl,trivial⟩ ⟨⟨_,rfl,renW _ _ _ rfl⟩,trivial⟩ (Pre_cut (by kernel_rfl)) (by kernel_rfl)
 rintro ⟨k,hk,hr⟩
 refine zG zE (NS.ite (fun h=>?_) (fun h=>?_))
 ·have h:k < l.length:=by simpa using h
  obtain rfl:k = 0:=by omega
  have hw:=write_one w (l:=l) h
  refine zG zE (NS.need (by simp;omega) ?_)
  refine zG zE (NS.chk (by kernel_rfl) ?_)
  refine zG zE (NS.call ((append_ok w.n.jour [l.getD 0 default] (by omega) (by simp)).le (LeL.cons (LeA.refl _) (LeL.cons (LeA.sl rfl (row_one rfl)) LeL.nil))) rfl ?_)
  refine zG zE (NS.ite (fun q1=>?_) (fun q1=>?_))
  ·rw [show wr w.n (l.getD 0 default) = (w.n,4) from if_pos q1] at hw
   exact zG zE (NS.leaveOut rfl zE (NS.fin (ts:=[]) rfl (weak_hd [] rfl trivial ⟨⟨_,rfl,by rw [hw];exact renW _ ⟨w.n,w.acts,4⟩ e rfl⟩,trivial⟩ (Pre_cut (by kernel_rfl)) (by kernel_rfl)) rfl (LeA.refl _)))
  refine zG zE (NS.chk (by kernel_rfl) ?_)
  refine zG zE (NS.call (apply_ok w.n.dur (l.getD 0 default) (by omega) (by omega)) rfl ?_)
  refine zG zE (NS.ite (fun q2=>?_) (fun q2=>?_))
  ·rw [show wr w.n (l.getD 0 default) = (w.n,(applyM w.n.dur (l.getD 0 default)).2) from by unfold wr;rw [if_neg (by rw [q1];decide),if_pos q2]] at hw
   rw [if_pos q2] at hw
   exact zG zE (NS.leaveOut rfl zE (NS.fin (ts:=[]) rfl (weak_hd [] rfl trivial ⟨⟨_,rfl,by rw [hw];exact renW _ ⟨w.n,w.acts,(applyM w.n.dur (l.getD 0 default)).2⟩ e rfl⟩,trivial⟩ (Pre_cut (by kernel_rfl)) (by kernel_rfl)) rfl (LeA.refl _)))
  have hwr:wr w.n (l.getD 0 default) = (wrN w.n (l.getD 0 default),0):=by unfold wr;rw [if_neg (by rw [q1];decide),if_neg (by rw [q2];decide)]
  refine zG zE (NS.chk (by kernel_rfl) ?_)
  refine zG zE (NS.ite (fun q3=>?_) (fun q3=>?_))
  ·have hn:wrN w.n (l.getD 0 default) = { w.n with jour:=bs (appM (ls w.n.jour) [l.getD 0 default]).1,dur:=(applyM w.n.dur (l.getD 0 default)).1,last:=((bs (appM (ls w.n.jour) [l.getD 0 default]).1).size:Int) }:=by unfold wrN;rw [show ((l.getD 0 default).kind == 1) = true from q3];rfl
   rw [hn] at hwr
   refine zG zE (NS.next ⟨1,by omega,fun _=>by rw [hwr]⟩ (by show l.length - 1 < l.length - 0;omega) ?_)
   exact weak_hd [] rfl ⟨rfl,rfl,rfl,ren_int rfl (i64_k (k:=0) (by omega) (by omega)),trivial⟩ ⟨⟨_,rfl,renW2 _ ⟨{ w.n with jour:=bs (appM (ls w.n.jour) [l.getD 0 default]).1,dur:=(applyM w.n.dur (l.getD 0 default)).1,last:=((bs (appM (ls w.n.jour) [l.getD 0 default]).1).size:Int) },w.acts,w.err⟩ e (by show (⟨(wr w.n (l.getD 0 default)).1,w.acts,w.err⟩:Wst) = _;rw [hwr]) rfl⟩,trivial⟩ (Pre_cut (by kernel_rfl)) (by kernel_rfl)
  ·refine zG zE (NS.ite (fun q4=>?_) (fun q4=>?_))
   ·have hn:wrN w.n (l.getD 0 default) = { w.n with jour:=bs (appM (ls w.n.jour) [l.getD 0 default]).1,dur:=(applyM w.n.dur (l.getD 0 default)).1,last:=((bs (appM (ls w.n.jour) [l.getD 0 default]).1).size:Int) }:=by unfold wrN;rw [show ((l.getD 0 default).kind == 1) = false from q3,show ((l.getD 0 default).kind == 3) = true from q4];rfl
    rw [hn] at hwr
    refine zG zE (NS.next ⟨1,by omega,fun _=>by rw [hwr]⟩ (by show l.length - 1 < l.length - 0;omega) ?_)
    exact weak_hd [] rfl ⟨rfl,rfl,rfl,ren_int rfl (i64_k (k:=0) (by omega) (by omega)),trivial⟩ ⟨⟨_,rfl,renW2 _ ⟨{ w.n with jour:=bs (appM (ls w.n.jour) [l.getD 0 default]).1,dur:=(applyM w.n.dur (l.getD 0 default)).1,last:=((bs (appM (ls w.n.jour) [l.getD 0 default]).1).size:Int) },w.acts,w.err⟩ e (by show (⟨(wr w.n (l.getD 0 default)).1,w.acts,w.err⟩:Wst) = _;rw [hwr]) rfl⟩,trivial⟩ (Pre_cut (by kernel_rfl)) (by kernel_rfl)
   ·have hn:wrN w.n (l.getD 0 default) = { w.n with jour:=bs (appM (ls w.n.jour) [l.getD 0 default]).1,dur:=(applyM w.n.dur (l.getD 0 default)).1,last:=w.n.last }:=by unfold wrN;rw [show ((l.getD 0 default).kind == 1) = false from q3,show ((l.getD 0 default).kind == 3) = false from q4];rfl
    rw [hn] at hwr
    refine zG zE (NS.next ⟨1,by omega,fun _=>by rw [hwr]⟩ (by show l.length - 1 < l.length - 0;omega) ?_)
    exact weak_hd [] rfl ⟨rfl,rfl,rfl,ren_int rfl (i64_k (k:=0) (by omega) (by omega)),trivial⟩ ⟨⟨_,rfl,renW2 _ ⟨{ w.n with jour:=bs (appM (ls w.n.jour) [l.getD 0 default]).1,dur:=(applyM w.n.dur (l.getD 0 default)).1,last:=w.n.last },w.acts,w.err⟩ e (by show (⟨(wr w.n (l.getD 0 default)).1,w.acts,w.err⟩:Wst) = _;rw [hwr]) rfl⟩,trivial⟩ (Pre_cut (by kernel_rfl)) (by kernel_rfl)
 ·have h:¬ k < l.length:=by simpa using h
  obtain rfl:k = l.length:=by omega
  refine zG zE (NS.leave rfl zE ?_)
  rcases l with _ | ⟨r,_ | ⟨r2,l⟩⟩
  ·exact zG zE (NS.fin (ts:=[]) rfl (weak_hd [] rfl trivial ⟨⟨_,rfl,renW _ w e rfl⟩,trivial⟩ (Pre_cut (by kernel_rfl)) (by kernel_rfl)) rfl (LeA.refl _))
  ·have hr:(wr w.n r).2 = 0:=hr (by simp)
   have hw:=write_one w (l:=[r]) (by simp)
   rw [show (wr w.n ([r].getD 0 default)).2 = 0 from hr] at hw
   exact zG zE (NS.fin (ts:=[]) rfl (weak_hd [] rfl trivial ⟨⟨_,rfl,by rw [hw];exact renW _ ⟨(wr w.n r).1,w.acts,w.err⟩ e rfl⟩,trivial⟩ (Pre_cut (by kernel_rfl)) (by kernel_rfl)) rfl (LeA.refl _))
  ·simp at hl
end Go.Proofs.YtggjngbighkdgaaGreat
namespace Go.Mb
open Go.Sy
section
variable {α:Type} [Inhabited α]
theorem filter_snocG {p:α -> Bool} {l:List α} {k:Nat} (h:k < l.length):(l.take (k + 1)).filter p = (l.take k).filter p ++ (if p (l.getD k default) then [l.getD k default] else []):=by
 rw [take_snoc h,List.filter_append,List.filter_cons]
 split <;> simp
def keepG (p:α -> Bool) (l:List α):List α:=l.filter fun x=>!p x
def DelG (p:α -> Bool) (l L:List α) (j:Nat):Prop:=
 L.length = l.length /\ j <= l.length /\ L.take (keepG p (l.take j)).length = keepG p (l.take j) /\ ∀ q,j <= q -> q < l.length -> L.getD q default = l.getD q default
theorem keepG_le (p:α -> Bool) (l:List α) (j:Nat):(keepG p (l.take j)).length <= j:=Nat.le_trans (List.length_filter_le _ _) (by simp;omega)
theorem keepG_snoc {p:α -> Bool} {l:List α} {j:Nat} (h:j < l.length):keepG p (l.take (j + 1)) = keepG p (l.take j) ++ (if p (l.getD j default) then [] else [l.getD j default]):=by
 unfold keepG
 rw [filter_snocG h]
 cases p (l.getD j default) <;> rfl
theorem delG_start {p:α -> Bool} {l:List α} {k:Nat} (hk:k < l.length) (hp:p (l.getD k default) = true) (hn:∀ i,i < k -> p (l.getD i default) = false):DelG p l l (k + 1) /\ (keepG p (l.take (k + 1))).length = k:=by
 have h1:keepG p (l.take k) = l.take k:=by
  unfold keepG
  rw [List.filter_eq_self]
  intro x hx
  obtain ⟨i,hi,rfl⟩:=List.getElem_of_mem hx
  have hik:i < k:=by simp at hi;omega
  have:=hn i hik
  rw [getD_lt (by omega)] at this
  rw [List.getElem_take,this];rfl
 have h2:keepG p (l.take (k + 1)) = l.take k:=by rw [keepG_snoc hk,if_pos hp,h1];simp
 have h3:(keepG p (l.take (k + 1))).length = k:=by rw [h2];simp;omega
 exact ⟨⟨rfl,hk,by rw [h3,h2],fun _ _ _=>rfl⟩,h3⟩
theorem delG_keep {p:α -> Bool} {l L:List α} {j:Nat} (h:DelG p l L j) (hj:j < l.length) (hp:p (l.getD j default) = false):DelG p l (L.set (keepG p (l.take j)).length (l.getD j default)) (j + 1):=by
 obtain ⟨h1,h2,h3,h4⟩:=h
 have hle:=keepG_le p l j
 have hs:keepG p (l.take (j + 1)) = keepG p (l.take j) ++ [l.getD j default]:=by rw [keepG_snoc hj,hp];rfl
 refine ⟨by simp [h1],hj,?_,fun q hq hql=>?_⟩
 ·rw [hs,List.length_append,List.length_singleton,take_snoc (by simp;omega),getD_setG _ _ _ _ (by omega),if_pos rfl,List.take_set_of_le (Nat.le_refl _),h3]
 ·rw [getD_setG _ _ _ _ (by omega),if_neg (by omega)]
  exact h4 q (by omega) hql
theorem delG_drop {p:α -> Bool} {l L:List α} {j:Nat} (h:DelG p l L j) (hj:j < l.length) (hp:p (l.getD j default) = true):DelG p l L (j + 1) /\ keepG p (l.take (j + 1)) = keepG p (l.take j):=by
 obtain ⟨h1,h2,h3,h4⟩:=h
 have hs:keepG p (l.take (j + 1)) = keepG p (l.take j):=by rw [keepG_snoc hj,hp];simp
 exact ⟨⟨h1,hj,by rw [hs];exact h3,fun q hq hql=>h4 q (by omega) hql⟩,hs⟩
theorem delG_end {p:α -> Bool} {l L:List α} (h:DelG p l L l.length):∀ q,q < (keepG p l).length -> L.getD q default = (keepG p l).getD q default:=by
 obtain ⟨h1,h2,h3,h4⟩:=h
 rw [List.take_length] at h3
 have hle:(keepG p l).length <= l.length:=List.length_filter_le _ _
 intro q hq
 rw [getD_lt (by omega),getD_lt hq]
 have:(L.take (keepG p l).length)[q]'(by simp;omega) = (keepG p l)[q]:=by congr 1
 rw [<- this,List.getElem_take]
theorem keepG_lt {p:α -> Bool} {l:List α} {k:Nat} (hk:k < l.length) (hp:p (l.getD k default) = true):(keepG p l).length < l.length:=by
 unfold keepG
 rw [List.length_filter_lt_length_iff_exists]
 exact ⟨l.getD k default,by rw [getD_lt hk];exact List.getElem_mem hk,by rw [hp];simp⟩
theorem keepG_none {p:α -> Bool} {l:List α} (h:∀ x ∈ l,p x = false):keepG p l = l:=by
 unfold keepG
 rw [List.filter_eq_self]
 intro x hx
 rw [h x hx];rfl
end
end Go.Mb
namespace Go.Proofs.YtggjngbighkdgaaGreat
open Go.Sy Go.Mb
set_option maxRecDepth 100000
set_option maxHeartbeats 4000000
def rowOf (l:List Ofr):Ob:=.row 67 8 l.length (rowL Ofr.cells l)
def wD (L:List Ofr) (w:Wst) (e:Evt):List Ob:=mkO [(4,zB),(23,.box (wCells w e (.own 110))),(110,rowAct w.acts),(171,rowOf L)] 181 0
theorem delO_ok (w:Wst) (e:Evt) (L:List Ofr) (hL:L.length <= 1000) (f c:Nat) (el:Nat -> A) (p:Ofr -> Bool) (hc:∀ x,FnOK Tryz.prog f [.agg (Ofr.cells x),.ip c el] (.bool (p x),none)):
  FnIn Tryz.prog 225 [.own 171,.fn f [.ip c el]] (wD L w e) 181 (slOfr (keepG p L)) (putOs (takeO 181 (wD L w e)) [(171,.dead)]):=by
 refine fn_in CZ rfl (by kernel_rfl) Tryz.func225 rfl ?_
 refine zG zE (NS.call (idxO_ok L (by omega) f c el p hc) rfl ?_)
 rcases idx_cases p L with ⟨h1,h2⟩ | ⟨k,hk,e,hpk,hnk⟩
 ·refine zG zE (NS.yes (by rw [h1];rfl) ?_)
  refine zG zE (NS.fin (ts:=[(4,.sl 8 L.length (rowL Ofr.cells L))]) rfl ((frzX 4 171 300 (by kernel_rfl) rfl).weak.trans (weak_hd [] rfl ⟨rfl,trivial⟩ ⟨rfl,trivial⟩ (Pre_cut (by kernel_rfl)) (by kernel_rfl))) rfl ?_)
  rw [keepG_none h2]
  exact LeA.refl _
 ·refine zG zE (NS.no (by rw [e];simp) ?_)
  obtain ⟨hi0,hl0⟩:=delG_start hk hpk hnk
  refine zG zE ?_
  refine NS.loop (σ:={ q:Nat × List Ofr // DelG p L q.2 q.1 }) (fun q=>[(0,.own 171),(1,.fn f [.ip c el]),(5,.int .i64 (keepG p (L.take q.1.1)).length),(6,.int .i64 q.1.1)]) (fun q=>[(171,.row 67 8 q.1.2.length (rowL Ofr.cells q.1.2))]) (fun q=>L.length - q.1.1) ⟨(k + 1,L),hi0⟩ ?_ ?_
  ·exact weak_hd [] rfl ⟨rfl,rfl,ren_int rfl (by rw [e];show (k:Int) = ((keepG p (L.take (k + 1))).length:Int);rw [hl0]),ren_int rfl (by rw [e,wrap_i64 (by omega) (by omega)];rfl),trivial⟩ ⟨ren_row rfl rfl fun _ _ _ _=>rfl,trivial⟩ (Pre_cut (by kernel_rfl)) (by kernel_rfl)
  rintro ⟨⟨j,M⟩,hi⟩
  have hi:DelG p L M j:=hi
  have hle:=keepG_le p L j
  have hM:=hi.1
  have hj:=hi.2.1
  refine zG zE (NS.ite (fun a=>?_) (fun a=>?_))
  ·have a:j < L.length:=by have a:decide ((j:Int) < (M.length:Int)) = true:=a;have:=of_decide_eq_true a;omega
   have hMj:=hi.2.2.2 j (Nat.le_refl _) a
   repeat' (first | (refine zG zE (NS.chk (by kernel_rfl) ?_)) | (refine zG zE (NS.need (by show decide (0 <= (j:Int) /\ (j:Int) < (M.length:Int)) = true;exact decide_eq_true (by omega)) ?_)) | (refine zG zE (NS.need (by show decide (((j:Nat):Int).toNat < M.length) = true;exact decide_eq_true (by omega)) ?_)))
   refine zG zE (NS.call (hc (M.getD j default)) rfl ?_)
   refine zG zE (NS.ite (fun h3=>?_) (fun h3=>?_))
   ·have hpj:p (L.getD j default) = false:=by rw [<- hMj];exact not_t h3
    have hnx:=delG_keep hi a hpj
    repeat' (first | (refine zG zE (NS.chk (by kernel_rfl) ?_)) | (refine zG zE (NS.need (by show decide (0 <= ((keepG p (L.take j)).length:Int) /\ ((keepG p (L.take j)).length:Int) < (M.length:Int)) = true;exact decide_eq_true (by omega)) ?_)) | (refine zG zE (NS.need (by show decide ((((keepG p (L.take j)).length:Nat):Int).toNat < M.length) = true;exact decide_eq_true (by omega)) ?_)))
    refine zG zE (NS.next ⟨(j + 1,M.set (keepG p (L.take j)).length (L.getD j default)),hnx⟩ (by show L.length - (j + 1) < L.length - j;omega) ?_)
    refine weak_hd [] rfl ⟨rfl,rfl,ren_int rfl ?_,ren_int rfl (i64_k (k:=j) (n:=L.length) a (by omega)),trivial⟩ ⟨ren_row rfl (by simp) (fun q hq jj hjj=>?_),trivial⟩ (Pre_cut (by kernel_rfl)) (by kernel_rfl)
    ·show IntKind.i64.wrap (((keepG p (L.take j)).length:Int) + 1) = ((keepG p (L.take (j + 1))).length:Int)
     rw [wrap_i64 (by omega) (by omega),keepG_snoc a,hpj];simp
    ·have hrs:=row_setG (cells:=Ofr.cells) (c:=8) M (keepG p (L.take j)).length (M.getD j default) (by omega) q jj hjj
     have hset:M.set (keepG p (L.take j)).length (M.getD j default) = M.set (keepG p (L.take j)).length (L.getD j default):=by rw [hMj]
     show _ = rowL Ofr.cells (M.set (keepG p (L.take j)).length (L.getD j default)) q jj
     rw [<- hset]
     exact hrs
   ·have hpj:p (L.getD j default) = true:=by rw [<- hMj];exact not_f h3
    obtain ⟨hnx,hsame⟩:=delG_drop hi a hpj
    refine zG zE (NS.next ⟨(j + 1,M),hnx⟩ (by show L.length - (j + 1) < L.length - j;omega) ?_)
    exact weak_hd [] rfl ⟨rfl,rfl,ren_int rfl (by show ((keepG p (L.take j)).length:Int) = ((keepG p (L.take (j + 1))).length:Int);rw [hsame]),ren_int rfl (i64_k (k:=j) (n:=L.length) a (by omega)),trivial⟩ ⟨ren_row rfl rfl (fun _ _ _ _=>rfl),trivial⟩ (Pre_cut (by kernel_rfl)) (by kernel_rfl)
  have a:j = L.length:=by have a:decide ((j:Int) < (M.length:Int)) = false:=a;have:=of_decide_eq_false a;omega
  subst a
  have hend:=delG_end hi
  have hlt:=keepG_lt hk hpk
  have hkk:(keepG p (L.take L.length)).length = (keepG p L).length:=by rw [List.take_length]
  refine zG zE (NS.leave rfl zE ?_)
  refine zG zE (NS.need (decide_eq_true ⟨by omega,by show ((keepG p (L.take L.length)).length:Int) <= (M.length:Int);omega,by show (M.length:Int) <= (M.length:Int);omega⟩) ?_)
  refine zG zE (NS.need (decide_eq_true (by show 0 < ((M.length:Int) - ((keepG p (L.take L.length)).length:Int)).toNat;omega)) ?_)
  refine zG zE (NS.need (decide_eq_true (by show (0:Int) <= 0 /\ (0:Int) <= ((keepG p (L.take L.length)).length:Int) /\ ((keepG p (L.take L.length)).length:Int) <= (M.length:Int);omega)) ?_)
  have hv1:(((keepG p (L.take L.length)).length:Int) - 0).toNat = (keepG p L).length:=by rw [hkk];omega
  have hv2:∀ i,i < (((keepG p (L.take L.length)).length:Int) - 0).toNat -> ∀ jj,jj < 8 -> ∀ a:A,(if ((keepG p (L.take L.length)).length:Int).toNat <= (0:Int).toNat + i /\ (0:Int).toNat + i < ((keepG p (L.take L.length)).length:Int).toNat + ((M.length:Int) - ((keepG p (L.take L.length)).length:Int)).toNat then a else rowL Ofr.cells M ((0:Int).toNat + i) jj) = rowL Ofr.cells (keepG p L) i jj:=by
   intro i hi jj hjj a
   rw [if_neg (by omega),show (0:Int).toNat + i = i by omega]
   unfold rowL
   rw [hend i (by omega)]
  refine zG zE (NS.fin (ts:=[(4,slOfr (keepG p L))]) rfl ((frzX 4 171 300 (by kernel_rfl) rfl).weak.trans ((weak_slot 4 (x:=slOfr (keepG p L)) ?_).trans (weak_hd [] rfl ⟨rfl,trivial⟩ ⟨rfl,trivial⟩ (Pre_cut (by kernel_rfl)) (by kernel_rfl)))) rfl (LeA.refl _))
  exact LeA.sl hv1 fun i hi j hj=>hv2 i hi j hj _
noncomputable def ER:Env:={ P:=Tryz.prog,eqT:=lookE eqTab,mu:=[173,225],frz:=[13] }
theorem ER_ok:EqOK ER:=eqOK_of eqTab_ok
noncomputable def CR:Cx:={ E:=ER,inl:=[174],ok:=ER_ok }
theorem wr_ofs (n:Nod) (r:Jrec):(wr n r).1.ofs = n.ofs:=by
 unfold wr
 split
 ·rfl
 ·split
  ·rfl
  ·rfl
theorem rem1O_ok (x:Itm) (o:Ofr):FnOK Tryz.prog 226 [.agg o.cells,.ip 11 (getA x.cells)] (.bool (ofId x.id o),none):=by
 refine fn_ok CF rfl (by kernel_rfl) Tryz.func226 rfl ?_
 exact zG zE (NS.ret rfl rfl (LeA.refl _))
theorem remove_ok (w:Wst) (e:Evt) (x:Itm) (h1:w.n.dur.items.length <= 900000) (h2:w.n.dur.inbox.length <= 900000) (h3:w.n.jour.size <= 100000) (h4:w.n.ofs.length <= 1000) (h5:w.acts.length <= 1000000):
  FnIn Tryz.prog 179 [.ptr 23 0,.agg x.cells] (wL 150 .dead w e) 150 (.tup []) (putOs (takeO 150 (wL 150 .dead w e)) [(23,.box (wCells (w.remove e.time x) e (.own 160))),(110,.dead),(160,rowAct (w.remove e.time x).acts)]):=by
 refine fn_in CR rfl (by kernel_rfl) Tryz.func179 rfl ?_
 refine zG zE (NS.chk (by kernel_rfl) ?_)
 refine zG zE (NS.inn (P:=Tryz.prog) (vals:=[.ptr 23 0,slR [⟨2,.zero,x.id,0,e.time⟩]]) (objs1:=wL 165 .dead w e) ((frzP 3 153 11 rfl rfl rfl rfl).trans (WeakL.keep 165 [4,23,110] (by kernel_rfl))) (by kernel_rfl) (LeL.cons (LeA.refl _) (LeL.cons (LeA.sl rfl (row_one rfl)) LeL.nil)) (by kernel_rfl) (writeD_ok w e [⟨2,.zero,x.id,0,e.time⟩] (by simp) h1 h2 h3) rfl ?_)
 have hofs:(w.write [⟨2,.zero,x.id,0,e.time⟩]).n.ofs = w.n.ofs:=wr_ofs _ _
 refine zG zE (NS.call (cloneO_ok (w.write [⟨2,.zero,x.id,0,e.time⟩]).n.ofs (by rw [hofs];omega)) rfl ?_)
 refine zG zE (NS.inn (P:=Tryz.prog) (vals:=[.own 171,.fn 226 [.ip 11 (getA x.cells)]]) (objs1:=wD (w.write [⟨2,.zero,x.id,0,e.time⟩]).n.ofs (w.write [⟨2,.zero,x.id,0,e.time⟩]) e) (WeakL.keep 181 [4,23,110,171] (by kernel_rfl)) (by kernel_rfl) (LeL.refl _) (by kernel_rfl) (delO_ok (w.write [⟨2,.zero,x.id,0,e.time⟩]) e _ (by rw [hofs];omega) 226 11 (getA x.cells) (ofId x.id) (rem1O_ok x)) rfl ?_)
 refine zG zE (NS.chk (by kernel_rfl) ?_)
 refine zG zE (NS.need (decide_eq_true (by simp only [maxRow];show (w.acts.length + 1) * _ <= _;omega)) ?_)
 refine zG zE (NS.fin (ts:=[]) rfl (weak_hd [(160,192)] rfl trivial ⟨⟨_,rfl,renW _ (w.remove e.time x) e rfl⟩,rfl,ren_row rfl (by show w.acts.length + 1 = (w.acts ++ [_]).length;simp) (fun i hi j hj=>?_),trivial⟩ (Pre_cut (by kernel_rfl)) (by kernel_rfl)) rfl (LeA.refl _))
 have hi:i < w.acts.length + 1:=by have hi:i < (w.acts ++ [_]).length:=hi;simpa using hi
 exact row_snoc (cells:=Mb.Act.cells) (x:=⟨5,x,0,0⟩) rfl i hi j hj
theorem appM_le {s:List Nat} {l:List Jrec} (h:(appM s l).2 = 0):(appM s l).1.length <= 65536:=by
 unfold appM at h ⊢
 split
 ·rename_i q;rw [if_pos q] at h;exact Nat.zero_le _
 ·rename_i q
  rw [if_neg q] at h
  split
  ·rename_i q2;rw [if_pos q2] at h;cases h
  ·rename_i q2
   have:¬ (appJ s l).1.length > 65536:=fun q3=>q2 (decide_eq_true q3)
   show (appJ s l).1.length <= 65536
   omega
theorem wr_sz (n:Nod) (r:Jrec):(wr n r).1.dur.items.length <= n.dur.items.length + (if r.kind = 1 then 1 else 0) /\ (wr n r).1.dur.inbox.length <= n.dur.inbox.length + (if r.kind = 3 then 1 else 0) /\ ((wr n r).1.jour.size <= 65536 \/ (wr n r).1.jour = n.jour) /\ (wr n r).1.ofs = n.ofs:=by
 unfold wr
 split
 ·exact ⟨by simp only;omega,by simp only;omega,.inr rfl,rfl⟩
 ·rename_i h1
  split
  ·exact ⟨by simp only;omega,by simp only;omega,.inr rfl,rfl⟩
  ·rename_i h2
   have h1:(appM (ls n.jour) [r]).2 = 0:=by simpa using h1
   have hw:∀ (l:List Itm) (x:Itm),(withM l x).length <= l.length + 1:=by
    intro l x;unfold withM;split <;> simp
   have hd:(applyM n.dur r).1 = effM n.dur r:=by
    unfold applyM at h2 ⊢
    split
    ·rename_i q;rw [if_pos q] at h2;exact absurd rfl h2
    ·rfl
   refine ⟨?_,?_,.inl ?_,rfl⟩
   ·show (applyM n.dur r).1.items.length <= _
    rw [hd]
    unfold effM
    split
    ·exact hw _ _
    ·split
     ·exact List.length_filter_le _ _
     ·split
      ·exact Nat.le_refl _
      ·split
       ·show (setTick n.dur.items r.id r.ticket).length <= _
        have:=congrArg List.length (show (setTick n.dur.items r.id r.ticket).map Itm.id = n.dur.items.map Itm.id by
         unfold setTick
         split
         ·exact map_modify_id _ _ _
         ·rfl)
        simp only [List.length_map] at this
        omega
       ·exact Nat.le_refl _
   ·show (applyM n.dur r).1.inbox.length <= _
    rw [hd]
    unfold effM
    repeat' split
    all_goals first | exact hw _ _ | exact Nat.le_refl _ | exact Nat.le_add_right _ _ | omega
   ·show (bs _).size <= _
    rw [bs_len]
    exact appM_le h1
def Sz (w:Wst) (a:Nat):Prop:=w.n.dur.items.length <= 200000 /\ w.n.dur.inbox.length <= 200000 /\ w.n.jour.size <= 100000 /\ w.n.ofs.length <= 1000 /\ w.acts.length <= a
theorem Sz.remove {w:Wst} {a:Nat} (h:Sz w a) (t:Int) (x:Itm):Sz (w.remove t x) (a + 1):=by
 obtain ⟨h1,h2,h3,h4,h5⟩:=h
 obtain ⟨k1,k2,k3,k4⟩:=wr_sz w.n ⟨2,.zero,x.id,0,t⟩
 refine ⟨?_,?_,?_,?_,?_⟩
 ·show (wr w.n ⟨2,.zero,x.id,0,t⟩).1.dur.items.length <= _
  have:(wr w.n ⟨2,.zero,x.id,0,t⟩).1.dur.items.length <= w.n.dur.items.length + 0:=k1
  omega
 ·show (wr w.n ⟨2,.zero,x.id,0,t⟩).1.dur.inbox.length <= _
  have:(wr w.n ⟨2,.zero,x.id,0,t⟩).1.dur.inbox.length <= w.n.dur.inbox.length + 0:=k2
  omega
 ·show (wr w.n ⟨2,.zero,x.id,0,t⟩).1.jour.size <= _
  rcases k3 with k3 | k3
  ·omega
  ·rw [k3];exact h3
 ·show (((wr w.n ⟨2,.zero,x.id,0,t⟩).1.ofs.filter _)).length <= _
  rw [k4]
  exact Nat.le_trans (List.length_filter_le _ _) h4
 ·show (w.acts ++ [_]).length <= _
  simp;exact h5
theorem Sz.le {w:Wst} {a b:Nat} (h:Sz w a) (hab:a <= b):Sz w b:=⟨h.1,h.2.1,h.2.2.1,h.2.2.2.1,Nat.le_trans h.2.2.2.2 hab⟩
theorem Sz.settle {w:Wst} {a:Nat} (h:Sz w a) (t:Int) (id:Nid) (s b:Bool):Sz (w.settle t id s b) (a + 1):=by
 unfold Wst.settle
 split
 ·exact h.le (by omega)
 ·split
  ·obtain ⟨h1,h2,h3,h4,h5⟩:=h
   exact ⟨h1,h2,h3,h4,by show (w.acts ++ [_]).length <= _;simp;exact h5⟩
  ·exact h.remove _ _
noncomputable def EST:Env:={ P:=Tryz.prog,eqT:=lookE eqTab,mu:=[179] }
theorem EST_ok:EqOK EST:=eqOK_of eqTab_ok
noncomputable def CST:Cx:={ E:=EST,inl:=[174],ok:=EST_ok }
theorem settle_ok (w:Wst) (e:Evt) (id:Nid) (s a:Bool) (hz:Sz w 1000000):
  FnIn Tryz.prog 177 [.ptr 23 0,.agg id.cells,.bool s,.bool a] (wL 111 .dead w e) 111 (.tup []) (putOs (takeO 111 (wL 111 .dead w e)) [(23,.box (wCells (w.settle e.time id s a) e (.own 120))),(110,.dead),(120,rowAct (w.settle e.time id s a).acts)]):=by
 obtain ⟨h1,h2,h3,h4,h5⟩:=hz
 refine fn_in CST rfl (by kernel_rfl) Tryz.func177 rfl ?_
 refine zG zE (NS.chk (by kernel_rfl) ?_)
 refine zG zE (NS.call (find_ok w.n.dur id (by omega)) rfl ?_)
 refine zG zE (NS.ite (fun q1=>?_) (fun q1=>?_))
 ·have hs:w.settle e.time id s a = w:=if_pos q1
  rw [hs]
  refine zG zE (NS.fin (ts:=[]) rfl ((moveB 23 30 110 120 rfl rfl rfl rfl).weak.trans (weak_hd [] rfl trivial ⟨⟨_,rfl,renW _ w e rfl⟩,rfl,ren_row rfl rfl fun _ _ _ _=>rfl,trivial⟩ (Pre_cut (by kernel_rfl)) (by kernel_rfl))) rfl (LeA.refl _))
 ·refine zG zE (NS.call (decide_ok (findM w.n.dur id).1.custody s a) rfl ?_)
  refine zG zE (NS.ite (fun q2=>?_) (fun q2=>?_))
  ·have hs:w.settle e.time id s a = w.act ⟨4,(findM w.n.dur id).1,0,0⟩:=by unfold Wst.settle;rw [if_neg (by rw [q1];decide),if_pos q2]
   rw [hs]
   refine zG zE (NS.chk (by kernel_rfl) ?_)
   refine zG zE (NS.need (decide_eq_true (by simp only [maxRow];show (w.acts.length + 1) * _ <= _;omega)) ?_)
   refine zG zE (NS.fin (ts:=[]) rfl (weak_hd [(120,157)] rfl trivial ⟨⟨_,rfl,renW _ (w.act ⟨4,(findM w.n.dur id).1,0,0⟩) e rfl⟩,rfl,ren_row rfl (by show w.acts.length + 1 = (w.acts ++ [_]).length;simp) (fun i hi j hj=>?_),trivial⟩ (Pre_cut (by kernel_rfl)) (by kernel_rfl)) rfl (LeA.refl _))
   have hi:i < w.acts.length + 1:=by have hi:i < (w.acts ++ [_]).length:=hi;simpa using hi
   exact row_snoc (cells:=Mb.Act.cells) (x:=⟨4,(findM w.n.dur id).1,0,0⟩) rfl i hi j hj
  ·have hs:w.settle e.time id s a = w.remove e.time (findM w.n.dur id).1:=by unfold Wst.settle;rw [if_neg (by rw [q1];decide),if_neg (by rw [q2];decide)]
   rw [hs]
   refine zG zE (NS.inn (P:=Tryz.prog) (vals:=[.ptr 23 0,.agg (findM w.n.dur id).1.cells]) (objs1:=wL 150 .dead w e) (WeakL.keep 150 [4,23,110] (by kernel_rfl)) (by kernel_rfl) (LeL.refl _) (by kernel_rfl) (remove_ok w e _ (by omega) (by omega) (by omega) (by omega) (by omega)) rfl ?_)
   exact zG zE (NS.fin (ts:=[]) rfl (weak_hd [(120,160)] rfl trivial ⟨⟨_,rfl,renW _ (w.remove e.time (findM w.n.dur id).1) e rfl⟩,rfl,ren_row rfl rfl (fun _ _ _ _=>rfl),trivial⟩ (Pre_cut (by kernel_rfl)) (by kernel_rfl)) rfl (LeA.refl _))
noncomputable def EH:Env:={ P:=Tryz.prog,eqT:=lookE eqTab,mu:=[173,179,177],frz:=[36] }
theorem EH_ok:EqOK EH:=eqOK_of eqTab_ok
noncomputable def CH:Cx:={ E:=EH,inl:=[174],ok:=EH_ok }
def wH (w:Wst) (e:Evt):List Ob:=mkO [(4,zB),(23,.box (wCells w e .nils))] 32 0
def wE (w w':Wst) (e:Evt):List Ob:=putOs (takeO 32 (wH w e)) [(23,.box (wCells w' e (slAct w'.acts)))]
theorem hfin (n:Nat) (w w':Wst) (e:Evt):Weak 32 (hd 32 (wH w e) n [] [(23,.box (wCells w' e (.own 120))),(120,rowAct w'.acts)]) (hd 32 (wH w e) n [] [(23,.box (wCells w' e (slAct w'.acts)))]):=by
 refine (frzXB 23 30 120 121 (by kernel_rfl) rfl (by decide) rfl).weak.trans ?_
 refine weak_hd [] (by simp [hd,length_spread]) trivial ⟨⟨_,rfl,?_⟩,trivial⟩ (Pre_cut (by kernel_rfl)) (by kernel_rfl)
 exact ⟨_,_,rfl,rfl,_,_,rfl,rfl,_,_,rfl,.inl rfl,_,_,rfl,rfl,_,_,rfl,rfl,_,_,rfl,rfl,_,_,rfl,rfl,_,_,rfl,rfl,
  _,_,rfl,rfl,_,_,rfl,rfl,_,_,rfl,rfl,_,_,rfl,rfl,_,_,rfl,rfl,_,_,rfl,rfl,_,_,rfl,rfl,_,_,rfl,rfl,_,_,rfl,rfl,_,_,rfl,rfl,_,_,rfl,rfl,_,_,rfl,.inl rfl,_,_,rfl,rfl,_,_,rfl,rfl,_,_,rfl,rfl,_,_,rfl,rfl,_,_,rfl,rfl,_,_,rfl,rfl,_,_,rfl,rfl,_,_,rfl,rfl,_,_,rfl,.inl rfl,_,_,rfl,rfl,
  _,_,rfl,rfl,_,_,rfl,rfl,rfl⟩
theorem signalM_len (l:List Ofr) (x:Nid) (c:Int):(signalM l x c).1.length <= l.length:=by
 unfold signalM
 repeat' split
 ·exact Nat.zero_le _
 ·exact Nat.le_refl _
 ·exact List.length_filter_le _ _
theorem signalW_ok (w:Wst) (e:Evt) (ha:w.acts = []) (hz:Sz w 0):FnIn Tryz.prog 112 [.ptr 23 0] (wH w e) 32 (.tup []) (wE w (signalW w e) e):=by
 obtain ⟨n,acts,err⟩:=w
 obtain rfl:acts = []:=ha
 obtain ⟨h1,h2,h3,h4,h5⟩:=hz
 refine fn_in CH rfl (by kernel_rfl) Tryz.func112 rfl ?_
 rw [forceSt_eq]
 refine Sat.wk (weak_promoteB 23 30 110 63 14 (rowL Mb.Act.cells []) rfl rfl rfl) ?_
 refine zG zE (NS.chk (by kernel_rfl) ?_)
 refine zG zE (NS.call (signal_ok n.ofs e.id e.contact) rfl ?_)
 refine zG zE (NS.ite (fun q1=>?_) (fun q1=>?_))
 ·rw [show signalW ⟨n,[],err⟩ e = ⟨n,[],err⟩ from if_pos q1]
  refine zG zE (NS.fin (ts:=[]) rfl ((weak_hd (ts:=[]) (os:=[(23,.box (wCells (⟨n,[],err⟩) e (.own 120))),(120,rowAct (⟨n,[],err⟩:Wst).acts)]) (objs0:=wH ⟨n,[],err⟩ e) [(120,110)] rfl trivial ⟨⟨_,rfl,renW _ (⟨n,[],err⟩) e rfl⟩,ren_row rfl rfl fun _ _ _ _=>rfl,trivial⟩ (Pre_cut (by kernel_rfl)) (by kernel_rfl)).trans (hfin _ ⟨n,[],err⟩ (⟨n,[],err⟩) e)) rfl (LeA.refl _))
 ·rw [show signalW ⟨n,[],err⟩ e = Wst.settle _ _ _ _ _ from if_neg (by rw [q1];decide)]
  refine zG zE (NS.chk (by kernel_rfl) ?_)
  refine zG zE (NS.inn (P:=Tryz.prog) (vals:=[.ptr 23 0,.agg e.id.cells,.bool true,.bool e.acc]) (objs1:=wL 111 .dead (Wst.setO ⟨n,[],err⟩ (signalM n.ofs e.id e.contact).1) e) (WeakL.keep 111 [4,23,110] (by kernel_rfl)) (by kernel_rfl) (LeL.cons (LeA.refl _) (LeL.cons (LeA.refl _) (LeL.cons (LeA.kb true) (LeL.refl _)))) (by kernel_rfl) (settle_ok _ e e.id true e.acc ⟨h1,h2,h3,?_,Nat.zero_le _⟩) rfl ?_)
  ·show (signalM n.ofs e.id e.contact).1.length <= 1000
   exact Nat.le_trans (signalM_len _ _ _) h4
  refine zG zE (NS.fin (ts:=[]) rfl ((weak_hd (ts:=[]) (os:=[(23,.box (wCells (Wst.settle (Wst.setO ⟨n,[],err⟩ (signalM n.ofs e.id e.contact).1) e.time e.id true e.acc) e (.own 120))),(120,rowAct (Wst.settle (Wst.setO ⟨n,[],err⟩ (signalM n.ofs e.id e.contact).1) e.time e.id true e.acc:Wst).acts)]) (objs0:=wH ⟨n,[],err⟩ e) [(120,120)] rfl trivial ⟨⟨_,rfl,renW _ (Wst.settle (Wst.setO ⟨n,[],err⟩ (signalM n.ofs e.id e.contact).1) e.time e.id true e.acc) e rfl⟩,ren_row rfl rfl fun _ _ _ _=>rfl,trivial⟩ (Pre_cut (by kernel_rfl)) (by kernel_rfl)).trans (hfin _ ⟨n,[],err⟩ (Wst.settle (Wst.setO ⟨n,[],err⟩ (signalM n.ofs e.id e.contact).1) e.time e.id true e.acc) e)) rfl (LeA.refl _))
theorem dropW_ok (w:Wst) (e:Evt) (ha:w.acts = []) (hz:Sz w 0):FnIn Tryz.prog 115 [.ptr 23 0] (wH w e) 32 (.tup []) (wE w (dropW w e) e):=by
 obtain ⟨n,acts,err⟩:=w
 obtain rfl:acts = []:=ha
 obtain ⟨h1,h2,h3,h4,h5⟩:=hz
 simp only at h1 h2 h3 h4
 refine fn_in CH rfl (by kernel_rfl) Tryz.func115 rfl ?_
 rw [forceSt_eq]
 refine Sat.wk (weak_promoteB 23 30 110 63 14 (rowL Mb.Act.cells []) rfl rfl rfl) ?_
 refine zG zE (NS.chk (by kernel_rfl) ?_)
 refine zG zE (NS.call (find_ok n.dur e.id (by omega)) rfl ?_)
 refine zG zE (NS.ite (fun q1=>?_) (fun q1=>?_))
 ·rw [show dropW ⟨n,[],err⟩ e = Wst.remove ⟨n,[],err⟩ e.time (findM n.dur e.id).1 from if_pos q1]
  refine zG zE (NS.inn (P:=Tryz.prog) (vals:=[.ptr 23 0,.agg ((findM n.dur e.id).1).cells]) (objs1:=wL 150 .dead (⟨n,[],err⟩) e) (WeakL.keep 150 [4,23,110] (by kernel_rfl)) (by kernel_rfl) (LeL.refl _) (by kernel_rfl) (remove_ok (⟨n,[],err⟩) e ((findM n.dur e.id).1) (Nat.le_trans h1 (by decide)) (Nat.le_trans h2 (by decide)) h3 h4 (Nat.zero_le _)) rfl ?_)
  refine zG zE (NS.fin (ts:=[]) rfl ((weak_hd (ts:=[]) (os:=[(23,.box (wCells (Wst.remove ⟨n,[],err⟩ e.time (findM n.dur e.id).1) e (.own 120))),(120,rowAct (Wst.remove ⟨n,[],err⟩ e.time (findM n.dur e.id).1:Wst).acts)]) (objs0:=wH ⟨n,[],err⟩ e) [(120,160)] rfl trivial ⟨⟨_,rfl,renW _ (Wst.remove ⟨n,[],err⟩ e.time (findM n.dur e.id).1) e rfl⟩,ren_row rfl rfl fun _ _ _ _=>rfl,trivial⟩ (Pre_cut (by kernel_rfl)) (by kernel_rfl)).trans (hfin _ ⟨n,[],err⟩ (Wst.remove ⟨n,[],err⟩ e.time (findM n.dur e.id).1) e)) rfl (LeA.refl _))
 ·rw [show dropW ⟨n,[],err⟩ e = ⟨n,[],err⟩ from if_neg (by show ¬ (findM n.dur e.id).2 = true;rw [q1];decide)]
  refine zG zE (NS.fin (ts:=[]) rfl ((weak_hd (ts:=[]) (os:=[(23,.box (wCells (⟨n,[],err⟩) e (.own 120))),(120,rowAct (⟨n,[],err⟩:Wst).acts)]) (objs0:=wH ⟨n,[],err⟩ e) [(120,110)] rfl trivial ⟨⟨_,rfl,renW _ (⟨n,[],err⟩) e rfl⟩,ren_row rfl rfl fun _ _ _ _=>rfl,trivial⟩ (Pre_cut (by kernel_rfl)) (by kernel_rfl)).trans (hfin _ ⟨n,[],err⟩ (⟨n,[],err⟩) e)) rfl (LeA.refl _))
theorem ticketW_ok (w:Wst) (e:Evt) (ha:w.acts = []) (hz:Sz w 0):FnIn Tryz.prog 116 [.ptr 23 0] (wH w e) 32 (.tup []) (wE w (ticketW w e) e):=by
 obtain ⟨n,acts,err⟩:=w
 obtain rfl:acts = []:=ha
 obtain ⟨h1,h2,h3,h4,h5⟩:=hz
 simp only at h1 h2 h3 h4
 refine fn_in CH rfl (by kernel_rfl) Tryz.func116 rfl ?_
 rw [forceSt_eq]
 refine Sat.wk (weak_promoteB 23 30 110 63 14 (rowL Mb.Act.cells []) rfl rfl rfl) ?_
 refine zG zE (NS.chk (by kernel_rfl) ?_)
 refine zG zE (NS.call (find_ok n.dur e.id (by omega)) rfl ?_)
 refine zG zE (NS.ite (fun q1=>?_) (fun q1=>?_))
 ·rw [show ticketW ⟨n,[],err⟩ e = Wst.write ⟨n,[],err⟩ [⟨4,.zero,e.id,e.ticket,e.time⟩] from if_pos q1]
  refine zG zE (NS.chk (by kernel_rfl) ?_)
  refine zG zE (NS.inn (P:=Tryz.prog) (vals:=[.ptr 23 0,slR [⟨4,.zero,e.id,e.ticket,e.time⟩]]) (objs1:=wL 165 .dead ⟨n,[],err⟩ e) (WeakL.keep 165 [4,23,110] (by kernel_rfl)) (by kernel_rfl) (LeL.cons (LeA.refl _) (LeL.cons (LeA.sl rfl (row_one rfl)) LeL.nil)) (by kernel_rfl) (writeD_ok ⟨n,[],err⟩ e [⟨4,.zero,e.id,e.ticket,e.time⟩] (Nat.le_refl 1) (Nat.le_trans h1 (by decide)) (Nat.le_trans h2 (by decide)) h3) rfl ?_)
  refine zG zE (NS.fin (ts:=[]) rfl ((weak_hd (ts:=[]) (os:=[(23,.box (wCells (Wst.write ⟨n,[],err⟩ [⟨4,.zero,e.id,e.ticket,e.time⟩]) e (.own 120))),(120,rowAct (Wst.write ⟨n,[],err⟩ [⟨4,.zero,e.id,e.ticket,e.time⟩]:Wst).acts)]) (objs0:=wH ⟨n,[],err⟩ e) [(120,110)] rfl trivial ⟨⟨_,rfl,renW _ (Wst.write ⟨n,[],err⟩ [⟨4,.zero,e.id,e.ticket,e.time⟩]) e rfl⟩,ren_row rfl rfl fun _ _ _ _=>rfl,trivial⟩ (Pre_cut (by kernel_rfl)) (by kernel_rfl)).trans (hfin _ ⟨n,[],err⟩ (Wst.write ⟨n,[],err⟩ [⟨4,.zero,e.id,e.ticket,e.time⟩]) e)) rfl (LeA.refl _))
 ·rw [show ticketW ⟨n,[],err⟩ e = ⟨n,[],err⟩ from if_neg (by show ¬ (findM n.dur e.id).2 = true;rw [q1];decide)]
  refine zG zE (NS.fin (ts:=[]) rfl ((weak_hd (ts:=[]) (os:=[(23,.box (wCells (⟨n,[],err⟩) e (.own 120))),(120,rowAct (⟨n,[],err⟩:Wst).acts)]) (objs0:=wH ⟨n,[],err⟩ e) [(120,110)] rfl trivial ⟨⟨_,rfl,renW _ (⟨n,[],err⟩) e rfl⟩,ren_row rfl rfl fun _ _ _ _=>rfl,trivial⟩ (Pre_cut (by kernel_rfl)) (by kernel_rfl)).trans (hfin _ ⟨n,[],err⟩ (⟨n,[],err⟩) e)) rfl (LeA.refl _))
theorem sendW_ok (w:Wst) (e:Evt) (ha:w.acts = []) (hz:Sz w 0):FnIn Tryz.prog 111 [.ptr 23 0] (wH w e) 32 (.tup []) (wE w (sendW w e) e):=by
 obtain ⟨n,acts,err⟩:=w
 obtain rfl:acts = []:=ha
 obtain ⟨h1,h2,h3,h4,h5⟩:=hz
 simp only at h1 h2 h3 h4
 refine fn_in CH rfl (by kernel_rfl) Tryz.func111 rfl ?_
 rw [forceSt_eq]
 refine Sat.wk (weak_promoteB 23 30 110 63 14 (rowL Mb.Act.cells []) rfl rfl rfl) ?_
 refine zG zE (NS.chk (by kernel_rfl) ?_)
 refine zG zE (NS.call (find_ok n.dur e.id (by omega)) rfl ?_)
 refine zG zE (NS.ite (fun q1=>?_) (fun q1=>?_))
 ·rw [show sendW ⟨n,[],err⟩ e = ⟨n,[],err⟩ from if_pos q1]
  refine zG zE (NS.fin (ts:=[]) rfl ((weak_hd (ts:=[]) (os:=[(23,.box (wCells (⟨n,[],err⟩) e (.own 120))),(120,rowAct (⟨n,[],err⟩:Wst).acts)]) (objs0:=wH ⟨n,[],err⟩ e) [(120,110)] rfl trivial ⟨⟨_,rfl,renW _ (⟨n,[],err⟩) e rfl⟩,ren_row rfl rfl fun _ _ _ _=>rfl,trivial⟩ (Pre_cut (by kernel_rfl)) (by kernel_rfl)).trans (hfin _ ⟨n,[],err⟩ (⟨n,[],err⟩) e)) rfl (LeA.refl _))
 rw [show sendW ⟨n,[],err⟩ e = if (beginM n.ofs e.id e.contact e.due).2 == 0 then _ else _ from if_neg (by rw [q1];decide)]
 refine zG zE (NS.chk (by kernel_rfl) ?_)
 refine zG zE (NS.call (begin_ok n.ofs e.id e.contact e.due) rfl ?_)
 refine zG zE (NS.ite (fun q2=>?_) (fun q2=>?_))
 ·rw [if_pos q2]
  refine zG zE (NS.chk (by kernel_rfl) ?_)
  refine zG zE (NS.chk (by kernel_rfl) ?_)
  refine zG zE (NS.need (rfl) ?_)
  refine zG zE (NS.fin (ts:=[]) rfl ((weak_hd (ts:=[]) (os:=[(23,.box (wCells (Wst.act (Wst.setO ⟨n,[],err⟩ (beginM n.ofs e.id e.contact e.due).1) ⟨1,(findM n.dur e.id).1,e.contact,0⟩) e (.own 120))),(120,rowAct (Wst.act (Wst.setO ⟨n,[],err⟩ (beginM n.ofs e.id e.contact e.due).1) ⟨1,(findM n.dur e.id).1,e.contact,0⟩:Wst).acts)]) (objs0:=wH ⟨n,[],err⟩ e) [(120,122)] rfl trivial ⟨⟨_,rfl,renW _ (Wst.act (Wst.setO ⟨n,[],err⟩ (beginM n.ofs e.id e.contact e.due).1) ⟨1,(findM n.dur e.id).1,e.contact,0⟩) e rfl⟩,ren_row rfl rfl (fun i hi j hj=>row_snoc (cells:=Mb.Act.cells) (l:=[]) (x:=⟨1,(findM n.dur e.id).1,e.contact,0⟩) rfl i hi j hj),trivial⟩ (Pre_cut (by kernel_rfl)) (by kernel_rfl)).trans (hfin _ ⟨n,[],err⟩ (Wst.act (Wst.setO ⟨n,[],err⟩ (beginM n.ofs e.id e.contact e.due).1) ⟨1,(findM n.dur e.id).1,e.contact,0⟩) e)) rfl (LeA.refl _))
 rw [if_neg (by rw [q2];decide)]
 refine zG zE (NS.ite (fun q3=>?_) (fun q3=>?_))
 ·rw [if_pos q3]
  refine zG zE (NS.fin (ts:=[]) rfl ((weak_hd (ts:=[]) (os:=[(23,.box (wCells (⟨n,[],err⟩) e (.own 120))),(120,rowAct (⟨n,[],err⟩:Wst).acts)]) (objs0:=wH ⟨n,[],err⟩ e) [(120,110)] rfl trivial ⟨⟨_,rfl,renW _ (⟨n,[],err⟩) e rfl⟩,ren_row rfl rfl fun _ _ _ _=>rfl,trivial⟩ (Pre_cut (by kernel_rfl)) (by kernel_rfl)).trans (hfin _ ⟨n,[],err⟩ (⟨n,[],err⟩) e)) rfl (LeA.refl _))
 ·rw [if_neg (by rw [q3];decide)]
  refine zG zE (NS.fin (ts:=[]) rfl ((weak_hd (ts:=[]) (os:=[(23,.box (wCells (⟨n,[],(beginM n.ofs e.id e.contact e.due).2⟩) e (.own 120))),(120,rowAct (⟨n,[],(beginM n.ofs e.id e.contact e.due).2⟩:Wst).acts)]) (objs0:=wH ⟨n,[],err⟩ e) [(120,110)] rfl trivial ⟨⟨_,rfl,renW _ (⟨n,[],(beginM n.ofs e.id e.contact e.due).2⟩) e rfl⟩,ren_row rfl rfl fun _ _ _ _=>rfl,trivial⟩ (Pre_cut (by kernel_rfl)) (by kernel_rfl)).trans (hfin _ ⟨n,[],err⟩ (⟨n,[],(beginM n.ofs e.id e.contact e.due).2⟩) e)) rfl (LeA.refl _))
theorem dueM_len (l:List Ofr) (t:Int):(dueM l t).1.length <= l.length /\ (dueM l t).2.1.length <= l.length:=by
 unfold dueM
 split
 ·exact ⟨Nat.zero_le _,Nat.zero_le _⟩
 ·exact ⟨List.length_filter_le _ _,List.length_filter_le _ _⟩
theorem Sz.tmN {w:Wst} (h:Sz w 0) (l:List Ofr) (t:Int):∀ k,Sz (tmN l t w k) k
 | 0=>h
 | k + 1=>by
  unfold Go.Proofs.YtggjngbighkdgaaGreat.tmN
  split
  ·exact (Sz.tmN h l t k).settle _ _ _ _
  ·exact (Sz.tmN h l t k).le (by omega)
theorem timerW_ok (w:Wst) (e:Evt) (ha:w.acts = []) (hz:Sz w 0):FnIn Tryz.prog 113 [.ptr 23 0] (wH w e) 32 (.tup []) (wE w (timerW w e) e):=by
 obtain ⟨n,acts,err⟩:=w
 obtain rfl:acts = []:=ha
 refine fn_in CH rfl (by kernel_rfl) Tryz.func113 rfl ?_
 rw [forceSt_eq]
 refine Sat.wk (weak_promoteB 23 30 110 63 14 (rowL Mb.Act.cells []) rfl rfl rfl) ?_
 refine zG zE (NS.chk (by kernel_rfl) ?_)
 refine zG zE (NS.call (due_ok n.ofs e.time) rfl ?_)
 obtain ⟨d1,d2⟩:=dueM_len n.ofs e.time
 obtain ⟨h1,h2,h3,h4,h5⟩:=hz
 simp only at h4
 have hs0:Sz (Wst.setO ⟨n,[],err⟩ (dueM n.ofs e.time).2.1) 0:=⟨h1,h2,h3,Nat.le_trans d2 h4,h5⟩
 have hsz:=Sz.tmN hs0 (dueM n.ofs e.time).1 e.time
 show Sat _ (RetIn _ _ _ _ (wE ⟨n,[],err⟩ (tmN (dueM n.ofs e.time).1 e.time (Wst.setO ⟨n,[],err⟩ (dueM n.ofs e.time).2.1) (dueM n.ofs e.time).1.length) e)) _ _ _
 obtain ⟨l,hl⟩:∃ l,l = (dueM n.ofs e.time).1:=⟨_,rfl⟩
 rw [<- hl] at d1 hsz
 rw [<- hl]
 refine zG zE ?_
 refine NS.loop (σ:={ k:Nat // k <= l.length }) (fun k=>[(0,.ptr 23 0),(2,slOfr l),(27,slOfr l),(28,.int .i64 l.length),(29,.int .i64 k.1)]) (fun k=>[(23,.box (wCells (tmN l e.time (Wst.setO ⟨n,[],err⟩ (dueM n.ofs e.time).2.1) k.1) e (.own 110))),(110,rowAct (tmN l e.time (Wst.setO ⟨n,[],err⟩ (dueM n.ofs e.time).2.1) k.1).acts)]) (fun k=>l.length - k.1) ⟨0,Nat.zero_le _⟩ ?_ ?_
 ·exact weak_hd [] rfl ⟨rfl,rfl,rfl,rfl,rfl,trivial⟩ ⟨⟨_,rfl,renW _ (Wst.setO ⟨n,[],err⟩ (dueM n.ofs e.time).2.1) e rfl⟩,ren_row rfl rfl (fun _ _ _ _=>rfl),trivial⟩ (Pre_cut (by kernel_rfl)) (by kernel_rfl)
 rintro ⟨k,hk⟩
 have hk:k <= l.length:=hk
 refine zG zE (NS.ite (fun h=>?_) (fun h=>?_))
 ·have h:k < l.length:=by simpa using h
  have hz:=hsz k
  have hset:tmN l e.time (Wst.setO ⟨n,[],err⟩ (dueM n.ofs e.time).2.1) (k + 1) = if k == 0 || !((l.getD (k - 1) default).id.eqv (l.getD k default).id) then (tmN l e.time (Wst.setO ⟨n,[],err⟩ (dueM n.ofs e.time).2.1) k).settle e.time (l.getD k default).id false false else tmN l e.time (Wst.setO ⟨n,[],err⟩ (dueM n.ofs e.time).2.1) k:=rfl
  obtain ⟨v,hv⟩:∃ v,v = tmN l e.time (Wst.setO ⟨n,[],err⟩ (dueM n.ofs e.time).2.1) k:=⟨_,rfl⟩
  rw [<- hv] at hz hset
  refine zG zE (NS.need (by simp;omega) ?_)
  show Sat _ _ _ _ _
  simp only [<- hv]
  refine zG zE (NS.chk (by kernel_rfl) ?_)
  rcases Nat.eq_zero_or_pos k with hk0 | hk0
  ·have hnx:tmN l e.time (Wst.setO ⟨n,[],err⟩ (dueM n.ofs e.time).2.1) (k + 1) = v.settle e.time (l.getD k default).id false false:=by rw [hset,show (k == 0) = true from by rw [hk0];rfl];rfl
   refine zG zE (NS.yes (decide_eq_true (by show ((k:Nat):Int) = 0;omega)) ?_)
   refine zG zE (NS.inn (P:=Tryz.prog) (vals:=[.ptr 23 0,.agg (l.getD k default).id.cells,.bool false,.bool false]) (objs1:=wL 111 .dead v e) (WeakL.keep 111 [4,23,110] (by kernel_rfl)) (by kernel_rfl) (LeL.cons (LeA.refl _) (LeL.cons (LeA.refl _) (LeL.cons (LeA.kb false) (LeL.cons (LeA.kb false) LeL.nil)))) (by kernel_rfl) (settle_ok v e (l.getD k default).id false false (hz.le (by omega))) rfl ?_)
   refine zG zE (NS.next ⟨k + 1,by omega⟩ (by simp;omega) ?_)
   exact weak_hd [(110,120)] rfl ⟨rfl,rfl,rfl,rfl,ren_int rfl (i64_k (k:=k) (by omega) (by omega)),trivial⟩ ⟨⟨_,rfl,renW2 _ (v.settle e.time (l.getD k default).id false false) e hnx rfl⟩,ren_row rfl (congrArg (fun z:Wst=>z.acts.length) hnx.symm) (fun i hi j hj=>congrArg (fun z:Wst=>rowL Mb.Act.cells z.acts i j) hnx.symm),trivial⟩ (Pre_cut (by kernel_rfl)) (by kernel_rfl)
  ·obtain ⟨j,rfl⟩:∃ j,k = j + 1:=⟨k - 1,by omega⟩
   have e1:IntKind.i64.wrap (((j + 1:Nat):Int) - 1) = (j:Int):=by rw [wrap_i64 (by omega) (by omega)];omega
   refine zG zE (NS.no (decide_eq_false (by show ¬ ((j + 1:Nat):Int) = 0;omega)) ?_)
   refine zG zE (NS.need (by rw [e1];simp;omega) ?_)
   refine zG zE (NS.ite (fun hq=>?_) (fun hq=>?_))
   ·have hq:(!((l.getD (IntKind.i64.wrap (((j + 1:Nat):Int) - 1)).toNat default).id.eqv (l.getD (j + 1) default).id)) = true:=hq
    rw [e1] at hq
    have hnx:tmN l e.time (Wst.setO ⟨n,[],err⟩ (dueM n.ofs e.time).2.1) (j + 1 + 1) = v.settle e.time (l.getD (j + 1) default).id false false:=by rw [hset,if_pos (by rw [Bool.or_eq_true];exact .inr hq)]
    refine zG zE (NS.inn (P:=Tryz.prog) (vals:=[.ptr 23 0,.agg (l.getD (j + 1) default).id.cells,.bool false,.bool false]) (objs1:=wL 111 .dead v e) (WeakL.keep 111 [4,23,110] (by kernel_rfl)) (by kernel_rfl) (LeL.cons (LeA.refl _) (LeL.cons (LeA.refl _) (LeL.cons (LeA.kb false) (LeL.cons (LeA.kb false) LeL.nil)))) (by kernel_rfl) (settle_ok v e (l.getD (j + 1) default).id false false (hz.le (by omega))) rfl ?_)
    refine zG zE (NS.next ⟨(j + 1) + 1,by omega⟩ (by simp;omega) ?_)
    exact weak_hd [(110,120)] rfl ⟨rfl,rfl,rfl,rfl,ren_int rfl (i64_k (k:=(j + 1)) (by omega) (by omega)),trivial⟩ ⟨⟨_,rfl,renW2 _ (v.settle e.time (l.getD (j + 1) default).id false false) e hnx rfl⟩,ren_row rfl (congrArg (fun z:Wst=>z.acts.length) hnx.symm) (fun i hi j hj=>congrArg (fun z:Wst=>rowL Mb.Act.cells z.acts i j) hnx.symm),trivial⟩ (Pre_cut (by kernel_rfl)) (by kernel_rfl)
   ·have hq:(!((l.getD (IntKind.i64.wrap (((j + 1:Nat):Int) - 1)).toNat default).id.eqv (l.getD (j + 1) default).id)) = false:=hq
    rw [e1] at hq
    have hnx:tmN l e.time (Wst.setO ⟨n,[],err⟩ (dueM n.ofs e.time).2.1) (j + 1 + 1) = v:=by rw [hset,if_neg (by rw [Bool.or_eq_true];rintro (q | q);exact absurd q (by simp);rw [show j + 1 - 1 = j from rfl] at q;rw [show ((l.getD (j:Int).toNat default).id) = (l.getD j default).id from rfl] at hq;rw [hq] at q;cases q)]
    refine zG zE (NS.next ⟨j + 1 + 1,by omega⟩ (by simp;omega) ?_)
    exact weak_hd [] rfl ⟨rfl,rfl,rfl,rfl,ren_int rfl (i64_k (k:=j + 1) (by omega) (by omega)),trivial⟩ ⟨⟨_,rfl,renW2 _ v e hnx rfl⟩,ren_row rfl (congrArg (fun z:Wst=>z.acts.length) hnx.symm) (fun i hi j hj=>congrArg (fun z:Wst=>rowL Mb.Act.cells z.acts i j) hnx.symm),trivial⟩ (Pre_cut (by kernel_rfl)) (by kernel_rfl)
 ·have h:¬ k < l.length:=by simpa using h
  obtain rfl:k = l.length:=by omega
  refine zG zE (NS.leave rfl zE ?_)
  refine zG zE (NS.fin (ts:=[]) rfl ((weak_hd (ts:=[]) (os:=[(23,.box (wCells (tmN l e.time (Wst.setO ⟨n,[],err⟩ (dueM n.ofs e.time).2.1) l.length) e (.own 120))),(120,rowAct (tmN l e.time (Wst.setO ⟨n,[],err⟩ (dueM n.ofs e.time).2.1) l.length:Wst).acts)]) (objs0:=wH ⟨n,[],err⟩ e) [(120,110)] rfl trivial ⟨⟨_,rfl,renW _ (tmN l e.time (Wst.setO ⟨n,[],err⟩ (dueM n.ofs e.time).2.1) l.length) e rfl⟩,ren_row rfl rfl fun _ _ _ _=>rfl,trivial⟩ (Pre_cut (by kernel_rfl)) (by kernel_rfl)).trans (hfin _ ⟨n,[],err⟩ (tmN l e.time (Wst.setO ⟨n,[],err⟩ (dueM n.ofs e.time).2.1) l.length) e)) rfl (LeA.refl _))
theorem Sz.exN {w:Wst} (h:Sz w 0) (l:List Jrec) (t:Int):∀ k,Sz (exN l t w k) k
 | 0=>h
 | k + 1=>by
  unfold Go.Proofs.YtggjngbighkdgaaGreat.exN
  split
  ·exact (Sz.exN h l t k).remove _ _
  ·exact (Sz.exN h l t k).le (by omega)
theorem expireW_ok (w:Wst) (e:Evt) (ha:w.acts = []) (hz:Sz w 0):FnIn Tryz.prog 114 [.ptr 23 0] (wH w e) 32 (.tup []) (wE w (expireW w e) e):=by
 obtain ⟨n,acts,err⟩:=w
 obtain rfl:acts = []:=ha
 have hsz:=hz.exN (expireM n.dur e.time).1 e.time
 obtain ⟨h1,h2,h3,h4,h5⟩:=hz
 simp only at h1 h2 h3 h4
 have d1:=expireM_len n.dur e.time
 refine fn_in CH rfl (by kernel_rfl) Tryz.func114 rfl ?_
 rw [forceSt_eq]
 refine Sat.wk (weak_promoteB 23 30 110 63 14 (rowL Mb.Act.cells []) rfl rfl rfl) ?_
 refine zG zE (NS.chk (by kernel_rfl) ?_)
 refine zG zE (NS.call (expire_ok n.dur e.time (by omega) (by omega)) rfl ?_)
 refine zG zE (NS.ite (fun q1=>?_) (fun q1=>?_))
 ·rw [show expireW ⟨n,[],err⟩ e = ⟨n,[],(expireM n.dur e.time).2⟩ from if_pos q1]
  refine zG zE (NS.fin (ts:=[]) rfl ((weak_hd (ts:=[]) (os:=[(23,.box (wCells (⟨n,[],(expireM n.dur e.time).2⟩) e (.own 120))),(120,rowAct (⟨n,[],(expireM n.dur e.time).2⟩:Wst).acts)]) (objs0:=wH ⟨n,[],err⟩ e) [(120,110)] rfl trivial ⟨⟨_,rfl,renW _ (⟨n,[],(expireM n.dur e.time).2⟩) e rfl⟩,ren_row rfl rfl fun _ _ _ _=>rfl,trivial⟩ (Pre_cut (by kernel_rfl)) (by kernel_rfl)).trans (hfin _ ⟨n,[],err⟩ (⟨n,[],(expireM n.dur e.time).2⟩) e)) rfl (LeA.refl _))
 rw [show expireW ⟨n,[],err⟩ e = exN (expireM n.dur e.time).1 e.time ⟨n,[],err⟩ (expireM n.dur e.time).1.length from if_neg (by rw [q1];decide)]
 obtain ⟨l,hl⟩:∃ l,l = (expireM n.dur e.time).1:=⟨_,rfl⟩
 rw [<- hl] at d1 hsz
 rw [<- hl]
 refine zG zE ?_
 refine NS.loop (σ:={ k:Nat // k <= l.length }) (fun k=>[(0,.ptr 23 0),(28,slR l),(29,.int .i64 l.length),(30,.int .i64 k.1)]) (fun k=>[(23,.box (wCells (exN l e.time ⟨n,[],err⟩ k.1) e (.own 110))),(110,rowAct (exN l e.time ⟨n,[],err⟩ k.1).acts)]) (fun k=>l.length - k.1) ⟨0,Nat.zero_le _⟩ ?_ ?_
 ·exact weak_hd [] rfl ⟨rfl,rfl,rfl,rfl,trivial⟩ ⟨⟨_,rfl,renW _ ⟨n,[],err⟩ e rfl⟩,ren_row rfl rfl (fun _ _ _ _=>rfl),trivial⟩ (Pre_cut (by kernel_rfl)) (by kernel_rfl)
 rintro ⟨k,hk⟩
 have hk:k <= l.length:=hk
 refine zG zE (NS.ite (fun h=>?_) (fun h=>?_))
 ·have h:k < l.length:=by simpa using h
  have hz:=hsz k
  have hset:exN l e.time ⟨n,[],err⟩ (k + 1) = if (findM (exN l e.time ⟨n,[],err⟩ k).n.dur (l.getD k default).id).2 then (exN l e.time ⟨n,[],err⟩ k).remove e.time (findM (exN l e.time ⟨n,[],err⟩ k).n.dur (l.getD k default).id).1 else exN l e.time ⟨n,[],err⟩ k:=rfl
  obtain ⟨v,hv⟩:∃ v,v = exN l e.time ⟨n,[],err⟩ k:=⟨_,rfl⟩
  rw [<- hv] at hz hset
  refine zG zE (NS.need (by simp;omega) ?_)
  show Sat _ _ _ _ _
  simp only [<- hv]
  refine zG zE (NS.chk (by kernel_rfl) ?_)
  obtain ⟨z1,z2,z3,z4,z5⟩:=hz
  refine zG zE (NS.call (find_ok v.n.dur (l.getD k default).id (by omega)) rfl ?_)
  refine zG zE (NS.ite (fun q2=>?_) (fun q2=>?_))
  ·have hnx:exN l e.time ⟨n,[],err⟩ (k + 1) = v.remove e.time (findM v.n.dur (l.getD k default).id).1:=by rw [hset,if_pos q2]
   refine zG zE (NS.inn (P:=Tryz.prog) (vals:=[.ptr 23 0,.agg ((findM v.n.dur (l.getD k default).id).1).cells]) (objs1:=wL 150 .dead (v) e) (WeakL.keep 150 [4,23,110] (by kernel_rfl)) (by kernel_rfl) (LeL.refl _) (by kernel_rfl) (remove_ok (v) e ((findM v.n.dur (l.getD k default).id).1) (by omega) (by omega) (by omega) (by omega) (by omega)) rfl ?_)
   refine zG zE (NS.next ⟨k + 1,by omega⟩ (by simp;omega) ?_)
   exact weak_hd [(110,160)] rfl ⟨rfl,rfl,rfl,ren_int rfl (i64_k (k:=k) (by omega) (by omega)),trivial⟩ ⟨⟨_,rfl,renW2 _ (v.remove e.time (findM v.n.dur (l.getD k default).id).1) e hnx rfl⟩,ren_row rfl (congrArg (fun z:Wst=>z.acts.length) hnx.symm) (fun i hi j hj=>congrArg (fun z:Wst=>rowL Mb.Act.cells z.acts i j) hnx.symm),trivial⟩ (Pre_cut (by kernel_rfl)) (by kernel_rfl)
  ·have hnx:exN l e.time ⟨n,[],err⟩ (k + 1) = v:=by rw [hset,if_neg (by rw [show (findM v.n.dur (l.getD k default).id).2 = false from q2];decide)]
   refine zG zE (NS.next ⟨k + 1,by omega⟩ (by simp;omega) ?_)
   exact weak_hd [] rfl ⟨rfl,rfl,rfl,ren_int rfl (i64_k (k:=k) (by omega) (by omega)),trivial⟩ ⟨⟨_,rfl,renW2 _ v e hnx rfl⟩,ren_row rfl (congrArg (fun z:Wst=>z.acts.length) hnx.symm) (fun i hi j hj=>congrArg (fun z:Wst=>rowL Mb.Act.cells z.acts i j) hnx.symm),trivial⟩ (Pre_cut (by kernel_rfl)) (by kernel_rfl)
 ·have h:¬ k < l.length:=by simpa using h
  obtain rfl:k = l.length:=by omega
  refine zG zE (NS.leave rfl zE ?_)
  refine zG zE (NS.fin (ts:=[]) rfl ((weak_hd (ts:=[]) (os:=[(23,.box (wCells (exN l e.time ⟨n,[],err⟩ l.length) e (.own 120))),(120,rowAct (exN l e.time ⟨n,[],err⟩ l.length:Wst).acts)]) (objs0:=wH ⟨n,[],err⟩ e) [(120,110)] rfl trivial ⟨⟨_,rfl,renW _ (exN l e.time ⟨n,[],err⟩ l.length) e rfl⟩,ren_row rfl rfl fun _ _ _ _=>rfl,trivial⟩ (Pre_cut (by kernel_rfl)) (by kernel_rfl)).trans (hfin _ ⟨n,[],err⟩ (exN l e.time ⟨n,[],err⟩ l.length) e)) rfl (LeA.refl _))
theorem put1_ok (w:Wst) (e:Evt) (a:A) (o:Ofr):FnOK Tryz.prog 172 [.agg o.cells,.ip 1 (getA [.ip 32 (getA (wCells w e a))])] (.bool (ofId e.item.id o),none):=by
 refine fn_ok CF rfl (by kernel_rfl) Tryz.func172 rfl ?_
 refine zG zE (NS.chk (by kernel_rfl) ?_)
 exact zG zE (NS.ret rfl rfl (LeA.refl _))
theorem putW_ok (w:Wst) (e:Evt) (ha:w.acts = []) (hz:Sz w 0):FnIn Tryz.prog 110 [.ptr 23 0] (wH w e) 32 (.tup []) (wE w (putW w e) e):=by
 obtain ⟨n,acts,err⟩:=w
 obtain rfl:acts = []:=ha
 obtain ⟨h1,h2,h3,h4,h5⟩:=hz
 simp only at h1 h2 h3 h4
 have c:=put_ok n.dur n.self n.quota e.item e.time (by omega) (by omega)
 have hl:=putM_len n.dur n.self n.quota e.item e.time
 have hw:putW ⟨n,[],err⟩ e = if (putM n.dur n.self n.quota e.item e.time).2.2 != 0 then ⟨n,[],(putM n.dur n.self n.quota e.item e.time).2.2⟩
  else (Wst.write ⟨n,[],err⟩ (putM n.dur n.self n.quota e.item e.time).1).act ⟨kindP ⟨n,[],err⟩ e (putM n.dur n.self n.quota e.item e.time).2.1,e.item,0,(putM n.dur n.self n.quota e.item e.time).2.1⟩:=rfl
 rw [hw]
 clear hw
 generalize putM n.dur n.self n.quota e.item e.time = p at *
 refine fn_in CH rfl (by kernel_rfl) Tryz.func110 rfl ?_
 rw [forceSt_eq]
 refine Sat.wk (weak_promoteB 23 30 110 63 14 (rowL Mb.Act.cells []) rfl rfl rfl) ?_
 refine zG zE (NS.chk (by kernel_rfl) ?_)
 refine zG zE (NS.call (c) rfl ?_)
 refine zG zE (NS.ite (fun q1=>?_) (fun q1=>?_))
 ·rw [if_pos q1]
  refine zG zE (NS.fin (ts:=[]) rfl ((weak_hd (ts:=[]) (os:=[(23,.box (wCells (⟨n,[],p.2.2⟩) e (.own 120))),(120,rowAct (⟨n,[],p.2.2⟩:Wst).acts)]) (objs0:=wH ⟨n,[],err⟩ e) [(120,110)] rfl trivial ⟨⟨_,rfl,renW _ (⟨n,[],p.2.2⟩) e rfl⟩,ren_row rfl rfl fun _ _ _ _=>rfl,trivial⟩ (Pre_cut (by kernel_rfl)) (by kernel_rfl)).trans (hfin _ ⟨n,[],err⟩ (⟨n,[],p.2.2⟩) e)) rfl (LeA.refl _))
 rw [if_neg (by rw [q1];decide)]
 refine zG zE (NS.call (contO_ok n.ofs (by omega) 172 1 (getA [.ip 32 (getA (wCells ⟨n,[],err⟩ e (.sl 14 0 (rowL Mb.Act.cells []))))]) (ofId e.item.id) (put1_ok _ e _)) rfl ?_)
 refine zG zE (NS.ite (fun a1=>?_) (fun a1=>?_))
 ·rw [show kindP ⟨n,[],err⟩ e p.2.1 = 3 by unfold kindP;simp [show (p.2.1 == 4) = true from a1]]
  refine zG zE (NS.inn (P:=Tryz.prog) (vals:=[.ptr 23 0,slR p.1]) (objs1:=wL 165 (.box [.ptr 23 0]) ⟨n,[],err⟩ e) (WeakL.keep 165 [4,23,33,110] (by kernel_rfl)) (by kernel_rfl) (LeL.refl _) (by kernel_rfl) (writeP_ok ⟨n,[],err⟩ e p.1 hl (Nat.le_trans h1 (by decide)) (Nat.le_trans h2 (by decide)) h3) rfl ?_)
  refine zG zE (NS.chk (by kernel_rfl) ?_)
  refine zG zE (NS.chk (by kernel_rfl) ?_)
  refine zG zE (NS.need (decide_eq_true (by show (0 + 1) * (119 + 1 + 1) <= maxRow;decide)) ?_)
  have hwa:(Wst.write ⟨n,[],err⟩ p.1).acts = []:=by cases p.1 <;> rfl
  refine zG zE (NS.fin (ts:=[]) rfl ((weak_hd (ts:=[]) (os:=[(23,.box (wCells (Wst.act (Wst.write ⟨n,[],err⟩ p.1) ⟨3,e.item,0,p.2.1⟩) e (.own 120))),(120,rowAct (Wst.act (Wst.write ⟨n,[],err⟩ p.1) ⟨3,e.item,0,p.2.1⟩:Wst).acts)]) (objs0:=wH ⟨n,[],err⟩ e) [(120,176)] rfl trivial ⟨⟨_,rfl,renW _ (Wst.act (Wst.write ⟨n,[],err⟩ p.1) ⟨3,e.item,0,p.2.1⟩) e rfl⟩,ren_row rfl (by show 0 + 1 = ((Wst.write ⟨n,[],err⟩ p.1).acts ++ [_]).length;rw [hwa];rfl) (fun i hi j hj=>by show _ = rowL Mb.Act.cells ((Wst.write ⟨n,[],err⟩ p.1).acts ++ [_]) i j;rw [hwa];exact row_snoc (cells:=Mb.Act.cells) (l:=[]) (x:=⟨3,e.item,0,p.2.1⟩) rfl i (by have hi:i < ((Wst.write ⟨n,[],err⟩ p.1).acts ++ [_]).length:=hi;rw [hwa] at hi;exact hi) j hj),trivial⟩ (Pre_cut (by kernel_rfl)) (by kernel_rfl)).trans (hfin _ ⟨n,[],err⟩ (Wst.act (Wst.write ⟨n,[],err⟩ p.1) ⟨3,e.item,0,p.2.1⟩) e)) rfl (LeA.refl _))
 refine zG zE (NS.ite (fun a2=>?_) (fun a2=>?_))
 ·rw [show kindP ⟨n,[],err⟩ e p.2.1 = 3 by unfold kindP;simp [show (p.2.1 == 5) = true from a2]]
  refine zG zE (NS.inn (P:=Tryz.prog) (vals:=[.ptr 23 0,slR p.1]) (objs1:=wL 165 (.box [.ptr 23 0]) ⟨n,[],err⟩ e) (WeakL.keep 165 [4,23,33,110] (by kernel_rfl)) (by kernel_rfl) (LeL.refl _) (by kernel_rfl) (writeP_ok ⟨n,[],err⟩ e p.1 hl (Nat.le_trans h1 (by decide)) (Nat.le_trans h2 (by decide)) h3) rfl ?_)
  refine zG zE (NS.chk (by kernel_rfl) ?_)
  refine zG zE (NS.chk (by kernel_rfl) ?_)
  refine zG zE (NS.need (decide_eq_true (by show (0 + 1) * (119 + 1 + 1) <= maxRow;decide)) ?_)
  have hwa:(Wst.write ⟨n,[],err⟩ p.1).acts = []:=by cases p.1 <;> rfl
  refine zG zE (NS.fin (ts:=[]) rfl ((weak_hd (ts:=[]) (os:=[(23,.box (wCells (Wst.act (Wst.write ⟨n,[],err⟩ p.1) ⟨3,e.item,0,p.2.1⟩) e (.own 120))),(120,rowAct (Wst.act (Wst.write ⟨n,[],err⟩ p.1) ⟨3,e.item,0,p.2.1⟩:Wst).acts)]) (objs0:=wH ⟨n,[],err⟩ e) [(120,176)] rfl trivial ⟨⟨_,rfl,renW _ (Wst.act (Wst.write ⟨n,[],err⟩ p.1) ⟨3,e.item,0,p.2.1⟩) e rfl⟩,ren_row rfl (by show 0 + 1 = ((Wst.write ⟨n,[],err⟩ p.1).acts ++ [_]).length;rw [hwa];rfl) (fun i hi j hj=>by show _ = rowL Mb.Act.cells ((Wst.write ⟨n,[],err⟩ p.1).acts ++ [_]) i j;rw [hwa];exact row_snoc (cells:=Mb.Act.cells) (l:=[]) (x:=⟨3,e.item,0,p.2.1⟩) rfl i (by have hi:i < ((Wst.write ⟨n,[],err⟩ p.1).acts ++ [_]).length:=hi;rw [hwa] at hi;exact hi) j hj),trivial⟩ (Pre_cut (by kernel_rfl)) (by kernel_rfl)).trans (hfin _ ⟨n,[],err⟩ (Wst.act (Wst.write ⟨n,[],err⟩ p.1) ⟨3,e.item,0,p.2.1⟩) e)) rfl (LeA.refl _))
 refine zG zE (NS.ite (fun a3=>?_) (fun a3=>?_))
 ·refine zG zE (NS.ite (fun a4=>?_) (fun a4=>?_))
  ·rw [show kindP ⟨n,[],err⟩ e p.2.1 = 3 by unfold kindP;simp [show (p.2.1 == 3) = true from a3,show n.ofs.any (ofId e.item.id) = true from a4]]
   refine zG zE (NS.inn (P:=Tryz.prog) (vals:=[.ptr 23 0,slR p.1]) (objs1:=wL 165 (.box [.ptr 23 0]) ⟨n,[],err⟩ e) (WeakL.keep 165 [4,23,33,110] (by kernel_rfl)) (by kernel_rfl) (LeL.refl _) (by kernel_rfl) (writeP_ok ⟨n,[],err⟩ e p.1 hl (Nat.le_trans h1 (by decide)) (Nat.le_trans h2 (by decide)) h3) rfl ?_)
   refine zG zE (NS.chk (by kernel_rfl) ?_)
   refine zG zE (NS.chk (by kernel_rfl) ?_)
   refine zG zE (NS.need (decide_eq_true (by show (0 + 1) * (119 + 1 + 1) <= maxRow;decide)) ?_)
   have hwa:(Wst.write ⟨n,[],err⟩ p.1).acts = []:=by cases p.1 <;> rfl
   refine zG zE (NS.fin (ts:=[]) rfl ((weak_hd (ts:=[]) (os:=[(23,.box (wCells (Wst.act (Wst.write ⟨n,[],err⟩ p.1) ⟨3,e.item,0,p.2.1⟩) e (.own 120))),(120,rowAct (Wst.act (Wst.write ⟨n,[],err⟩ p.1) ⟨3,e.item,0,p.2.1⟩:Wst).acts)]) (objs0:=wH ⟨n,[],err⟩ e) [(120,176)] rfl trivial ⟨⟨_,rfl,renW _ (Wst.act (Wst.write ⟨n,[],err⟩ p.1) ⟨3,e.item,0,p.2.1⟩) e rfl⟩,ren_row rfl (by show 0 + 1 = ((Wst.write ⟨n,[],err⟩ p.1).acts ++ [_]).length;rw [hwa];rfl) (fun i hi j hj=>by show _ = rowL Mb.Act.cells ((Wst.write ⟨n,[],err⟩ p.1).acts ++ [_]) i j;rw [hwa];exact row_snoc (cells:=Mb.Act.cells) (l:=[]) (x:=⟨3,e.item,0,p.2.1⟩) rfl i (by have hi:i < ((Wst.write ⟨n,[],err⟩ p.1).acts ++ [_]).length:=hi;rw [hwa] at hi;exact hi) j hj),trivial⟩ (Pre_cut (by kernel_rfl)) (by kernel_rfl)).trans (hfin _ ⟨n,[],err⟩ (Wst.act (Wst.write ⟨n,[],err⟩ p.1) ⟨3,e.item,0,p.2.1⟩) e)) rfl (LeA.refl _))
  ·rw [show kindP ⟨n,[],err⟩ e p.2.1 = 2 by unfold kindP;simp [show (p.2.1 == 4) = false from a1,show (p.2.1 == 5) = false from a2,show (p.2.1 == 3) = true from a3,show n.ofs.any (ofId e.item.id) = false from a4]]
   refine zG zE (NS.inn (P:=Tryz.prog) (vals:=[.ptr 23 0,slR p.1]) (objs1:=wL 165 (.box [.ptr 23 0]) ⟨n,[],err⟩ e) (WeakL.keep 165 [4,23,33,110] (by kernel_rfl)) (by kernel_rfl) (LeL.refl _) (by kernel_rfl) (writeP_ok ⟨n,[],err⟩ e p.1 hl (Nat.le_trans h1 (by decide)) (Nat.le_trans h2 (by decide)) h3) rfl ?_)
   refine zG zE (NS.chk (by kernel_rfl) ?_)
   refine zG zE (NS.chk (by kernel_rfl) ?_)
   refine zG zE (NS.need (decide_eq_true (by show (0 + 1) * (119 + 1 + 1) <= maxRow;decide)) ?_)
   have hwa:(Wst.write ⟨n,[],err⟩ p.1).acts = []:=by cases p.1 <;> rfl
   refine zG zE (NS.fin (ts:=[]) rfl ((weak_hd (ts:=[]) (os:=[(23,.box (wCells (Wst.act (Wst.write ⟨n,[],err⟩ p.1) ⟨2,e.item,0,p.2.1⟩) e (.own 120))),(120,rowAct (Wst.act (Wst.write ⟨n,[],err⟩ p.1) ⟨2,e.item,0,p.2.1⟩:Wst).acts)]) (objs0:=wH ⟨n,[],err⟩ e) [(120,176)] rfl trivial ⟨⟨_,rfl,renW _ (Wst.act (Wst.write ⟨n,[],err⟩ p.1) ⟨2,e.item,0,p.2.1⟩) e rfl⟩,ren_row rfl (by show 0 + 1 = ((Wst.write ⟨n,[],err⟩ p.1).acts ++ [_]).length;rw [hwa];rfl) (fun i hi j hj=>by show _ = rowL Mb.Act.cells ((Wst.write ⟨n,[],err⟩ p.1).acts ++ [_]) i j;rw [hwa];exact row_snoc (cells:=Mb.Act.cells) (l:=[]) (x:=⟨2,e.item,0,p.2.1⟩) rfl i (by have hi:i < ((Wst.write ⟨n,[],err⟩ p.1).acts ++ [_]).length:=hi;rw [hwa] at hi;exact hi) j hj),trivial⟩ (Pre_cut (by kernel_rfl)) (by kernel_rfl)).trans (hfin _ ⟨n,[],err⟩ (Wst.act (Wst.write ⟨n,[],err⟩ p.1) ⟨2,e.item,0,p.2.1⟩) e)) rfl (LeA.refl _))
 ·rw [show kindP ⟨n,[],err⟩ e p.2.1 = 2 by unfold kindP;simp [show (p.2.1 == 4) = false from a1,show (p.2.1 == 5) = false from a2,show (p.2.1 == 3) = false from a3]]
  refine zG zE (NS.inn (P:=Tryz.prog) (vals:=[.ptr 23 0,slR p.1]) (objs1:=wL 165 (.box [.ptr 23 0]) ⟨n,[],err⟩ e) (WeakL.keep 165 [4,23,33,110] (by kernel_rfl)) (by kernel_rfl) (LeL.refl _) (by kernel_rfl) (writeP_ok ⟨n,[],err⟩ e p.1 hl (Nat.le_trans h1 (by decide)) (Nat.le_trans h2 (by decide)) h3) rfl ?_)
  refine zG zE (NS.chk (by kernel_rfl) ?_)
  refine zG zE (NS.chk (by kernel_rfl) ?_)
  refine zG zE (NS.need (decide_eq_true (by show (0 + 1) * (119 + 1 + 1) <= maxRow;decide)) ?_)
  have hwa:(Wst.write ⟨n,[],err⟩ p.1).acts = []:=by cases p.1 <;> rfl
  refine zG zE (NS.fin (ts:=[]) rfl ((weak_hd (ts:=[]) (os:=[(23,.box (wCells (Wst.act (Wst.write ⟨n,[],err⟩ p.1) ⟨2,e.item,0,p.2.1⟩) e (.own 120))),(120,rowAct (Wst.act (Wst.write ⟨n,[],err⟩ p.1) ⟨2,e.item,0,p.2.1⟩:Wst).acts)]) (objs0:=wH ⟨n,[],err⟩ e) [(120,176)] rfl trivial ⟨⟨_,rfl,renW _ (Wst.act (Wst.write ⟨n,[],err⟩ p.1) ⟨2,e.item,0,p.2.1⟩) e rfl⟩,ren_row rfl (by show 0 + 1 = ((Wst.write ⟨n,[],err⟩ p.1).acts ++ [_]).length;rw [hwa];rfl) (fun i hi j hj=>by show _ = rowL Mb.Act.cells ((Wst.write ⟨n,[],err⟩ p.1).acts ++ [_]) i j;rw [hwa];exact row_snoc (cells:=Mb.Act.cells) (l:=[]) (x:=⟨2,e.item,0,p.2.1⟩) rfl i (by have hi:i < ((Wst.write ⟨n,[],err⟩ p.1).acts ++ [_]).length:=hi;rw [hwa] at hi;exact hi) j hj),trivial⟩ (Pre_cut (by kernel_rfl)) (by kernel_rfl)).trans (hfin _ ⟨n,[],err⟩ (Wst.act (Wst.write ⟨n,[],err⟩ p.1) ⟨2,e.item,0,p.2.1⟩) e)) rfl (LeA.refl _))
theorem rdJN_len:∀ (k:Nat) (l:List Nat),(rdJN k l).1.length <= k
 | 0,_=>Nat.le_refl _
 | k + 1,l=>by
  unfold rdJN
  split
  ·exact Nat.zero_le _
  ·rename_i r n _
   have:=rdJN_len k (l.drop n)
   simp only [List.length_cons];omega
theorem rdJA_len (l:List Nat):(rdJA l).1.length <= 65536:=by
 unfold rdJA
 split
 ·exact Nat.zero_le _
 ·rename_i h
  have h:¬ (l.length:Int) > 65536:=fun q=>h (decide_eq_true q)
  have:=rdJN_len l.length l
  show (rdJN l.length l).1.length <= _
  omega
def jrnD (n:Nod):Dur × Int:=foldM (rdJA (ls n.jour)).1
theorem jrnD_len (n:Nod):(jrnD n).1.items.length <= 65536 /\ (jrnD n).1.inbox.length <= 65536:=by
 have h:=foldM_len (rdJA (ls n.jour)).1
 have h2:=rdJA_len (ls n.jour)
 exact ⟨Nat.le_trans h.1 h2,Nat.le_trans h.2 h2⟩
def storedM (n:Nod):Bool:=
 (rdJA (ls n.jour)).2.2 == 0 && (((rdJA (ls n.jour)).2.1:Nat):Int) == (n.jour.size:Int) && (jrnD n).2 == 0 && sameBy Itm.eqv (jrnD n).1.items n.dur.items && sameBy Itm.eqv (jrnD n).1.inbox n.dur.inbox && checkQ (jrnD n).1 n.quota == 0 && chkO n.ofs == 0 && !n.ofs.any fun o=>!(findM (jrnD n).1 o.id).2
def emptyN (n:Nod):Bool:=IntKind.i64.wrap (IntKind.i64.wrap ((n.dur.items.length:Int) + (n.dur.inbox.length:Int)) + (n.ofs.length:Int)) == 0
def chkN (n:Nod):Int:=
 if !inR n.self 0 15 || !inR n.quota 0 1073741824 || !inR n.last 0 (n.jour.size:Int) then 2
 else if decide ((n.jour.size:Int) > 65536) || (n.up && !storedM n) || (!n.up && !emptyN n) then 1 else 0
theorem nWithin_ok (n lo hi:Int):FnOK Tryz.prog 65 [.int .i64 n,.int .i64 lo,.int .i64 hi] (.bool (inR n lo hi),none):=by
 unfold inR
 refine fn_ok CF rfl (by kernel_rfl) Tryz.func65 rfl ?_
 repeat' (first | (refine zG zE (NS.ite (fun h=>?_) (fun h=>?_))) | (refine zG zE (NS.chk (by kernel_rfl) ?_)) | (exact zG zE (NS.ret rfl rfl (LeA.of (congrArg A.bool (by first | (symm;rw [decide_eq_false_iff_not];simp only [decide_eq_false_iff_not] at *;omega) | (simp only [decide_eq_true_eq] at *;rw [decide_eq_decide];omega)))))))
theorem equalI_ok (l m:List Itm) (hl:l.length <= 1000000):FnOK Tryz.prog 99 [slItm l,slItm m] (.bool (sameBy Itm.eqv l m),none):=by
 refine fn_ok CF rfl (by kernel_rfl) Tryz.func99 rfl ?_
 refine zG zE (NS.ite (fun h0=>?_) (fun h0=>?_))
 ·exact zG zE (NS.ret rfl rfl (LeA.of (congrArg A.bool ((sameBy_len (fun _ _=>Itm.eqv_iff) (by intro e;rw [e] at h0;simp at h0)).symm))))
 have hlm:l.length = m.length:=by simp only [bne_eq_false_iff_eq] at h0;omega
 refine zG zE ?_
 refine NS.loop (σ:={ k:Nat // k <= l.length /\ ∀ i,i < k -> Itm.eqv (l.getD i default) (m.getD i default) = true }) (fun k=>[(0,slItm l),(1,slItm m),(12,.int .i64 l.length),(13,.int .i64 k.1)]) (fun _=>[]) (fun k=>l.length - k.1) ⟨0,Nat.zero_le _,fun i hi=>by omega⟩ ?_ ?_
 ·exact weak_hd [] rfl ⟨rfl,rfl,rfl,rfl,trivial⟩ trivial trivial (by kernel_rfl)
 rintro ⟨k,hk,hn⟩
 refine zG zE (NS.ite (fun h=>?_) (fun h=>?_))
 ·have h:k < l.length:=by simpa using h
  repeat' (first | (refine zG zE (NS.chk (by kernel_rfl) ?_)) | (refine zG zE (NS.need (by simp;omega) ?_)))
  refine zG zE (NS.ite (fun h2=>?_) (fun h2=>?_))
  ·exact zG zE (NS.leaveOut rfl zE (NS.ret rfl rfl (LeA.of (congrArg A.bool ((sameBy_f (k:=k) (fun _ _=>Itm.eqv_iff) (not_t h2)).symm)))))
  ·refine zG zE (NS.next ⟨k + 1,by omega,fun i hi=>?_⟩ (by simp;omega) ?_)
   ·by_cases hik:i = k
    ·subst hik;exact not_f h2
    ·exact hn i (by omega)
   ·exact weak_hd [] rfl ⟨rfl,rfl,rfl,ren_int rfl (i64_k (by omega) (by omega)),trivial⟩ trivial trivial (by kernel_rfl)
 ·have h:¬ k < l.length:=by simpa using h
  refine zG zE (NS.leave rfl zE ?_)
  exact zG zE (NS.ret rfl rfl (LeA.of (congrArg A.bool ((sameBy_t (fun _ _=>Itm.eqv_iff) hlm fun i hi=>hn i (by omega)).symm))))
theorem stored1_ok (d:Dur) (h:d.items.length <= 1000000) (o:Ofr):FnOK Tryz.prog 102 [.agg o.cells,.ip 2 (getA d.cells)] (.bool (!(findM d o.id).2),none):=by
 refine fn_ok CF rfl (by kernel_rfl) Tryz.func102 rfl ?_
 refine zG zE (NS.call (find_ok d o.id h) rfl ?_)
 exact zG zE (NS.ret rfl rfl (LeA.refl _))
theorem stored_ok (n:Nod) (h1:n.dur.items.length <= 1000000) (h2:n.dur.inbox.length <= 1000000):FnOK Tryz.prog 67 [.agg n.cells] (.bool (storedM n),none):=by
 obtain ⟨hj1,hj2⟩:=jrnD_len n
 have hl:=rdJA_len (ls n.jour)
 have cf:=fold_ok (rdJA (ls n.jour)).1 (by omega)
 have c1:=equalI_ok (jrnD n).1.items n.dur.items (by omega)
 have c2:=equalI_ok (jrnD n).1.inbox n.dur.inbox (by omega)
 have c3:=check_ok (jrnD n).1 n.quota (by omega) (by omega)
 change FnOK _ _ _ (durA (jrnD n),none) at cf
 refine fn_ok CF rfl (by kernel_rfl) Tryz.func67 rfl ?_
 refine zG zE (NS.call (read_ok n.jour) rfl ?_)
 refine zG zE (NS.ite (fun a1=>?_) (fun a1=>?_))
 ·exact zG zE (NS.ret rfl rfl (LeA.of (congrArg A.bool (by simp_all [storedM]))))
 refine zG zE (NS.ite (fun a2=>?_) (fun a2=>?_))
 ·exact zG zE (NS.ret rfl rfl (LeA.of (congrArg A.bool (by simp_all [storedM]))))
 refine zG zE (NS.call (cf) rfl ?_)
 refine zG zE (NS.ite (fun a3=>?_) (fun a3=>?_))
 ·exact zG zE (NS.ret rfl rfl (LeA.of (congrArg A.bool (by simp_all [storedM]))))
 refine zG zE (NS.call (c1) rfl ?_)
 refine zG zE (NS.ite (fun a4=>?_) (fun a4=>?_))
 ·exact zG zE (NS.ret rfl rfl (LeA.of (congrArg A.bool (by simp_all [storedM]))))
 refine zG zE (NS.call (c2) rfl ?_)
 refine zG zE (NS.ite (fun a5=>?_) (fun a5=>?_))
 ·exact zG zE (NS.ret rfl rfl (LeA.of (congrArg A.bool (by simp_all [storedM]))))
 refine zG zE (NS.call (c3) rfl ?_)
 refine zG zE (NS.ite (fun a6=>?_) (fun a6=>?_))
 ·exact zG zE (NS.ret rfl rfl (LeA.of (congrArg A.bool (by simp_all [storedM]))))
 refine zG zE (NS.call (cCheck_ok n.ofs) rfl ?_)
 refine zG zE (NS.ite (fun a7=>?_) (fun a7=>?_))
 ·exact zG zE (NS.ret rfl rfl (LeA.of (congrArg A.bool (by simp_all [storedM]))))
 refine Sat.wk (weak_freezeP 6 6 2 rfl rfl rfl rfl) ?_
 have hlo:n.ofs.length <= 64:=chkO_len (by simpa using a7)
 refine zG zE (NS.call (contO_ok n.ofs (by omega) 102 2 (getA (jrnD n).1.cells) (fun o=>!(findM (jrnD n).1 o.id).2) (stored1_ok _ (by omega))) rfl ?_)
 exact zG zE (NS.ret rfl rfl (LeA.of (congrArg A.bool (by simp_all [storedM]))))
theorem nCheck_ok (n:Nod) (h1:n.dur.items.length <= 1000000) (h2:n.dur.inbox.length <= 1000000) (h3:n.ofs.length <= 1000000):FnOK Tryz.prog 20 [.agg n.cells] (.int .i64 (chkN n),none):=by
 refine fn_ok CF rfl (by kernel_rfl) Tryz.func20 rfl ?_
 refine zG zE (NS.call (nWithin_ok n.self 0 15) rfl ?_)
 refine zG zE (NS.ite (fun a1=>?_) (fun a1=>?_))
 ·exact zG zE (NS.ret rfl rfl (LeA.of (congrArg (A.int .i64) (by simp_all [chkN]))))
 refine zG zE (NS.call (nWithin_ok n.quota 0 1073741824) rfl ?_)
 refine zG zE (NS.ite (fun a2=>?_) (fun a2=>?_))
 ·exact zG zE (NS.ret rfl rfl (LeA.of (congrArg (A.int .i64) (by simp_all [chkN]))))
 refine zG zE (NS.call (nWithin_ok n.last 0 (n.jour.size:Int)) rfl ?_)
 refine zG zE (NS.ite (fun a3=>?_) (fun a3=>?_))
 ·exact zG zE (NS.ret rfl rfl (LeA.of (congrArg (A.int .i64) (by simp_all [chkN]))))
 refine zG zE (NS.ite (fun a4=>?_) (fun a4=>?_))
 ·exact zG zE (NS.ret rfl rfl (LeA.of (congrArg (A.int .i64) (by simp_all [chkN]))))
 refine zG zE (NS.ite (fun a5=>?_) (fun a5=>?_))
 ·refine zG zE (NS.call (stored_ok n h1 h2) rfl ?_)
  refine zG zE (NS.ite (fun a6=>?_) (fun a6=>?_))
  ·exact zG zE (NS.ret rfl rfl (LeA.of (congrArg (A.int .i64) (by simp_all [chkN]))))
  ·refine zG zE (NS.no (by rw [show n.up = true from a5];rfl) ?_)
   exact zG zE (NS.ret rfl rfl (LeA.of (congrArg (A.int .i64) (by simp_all [chkN]))))
 ·refine zG zE (NS.yes (by rw [show n.up = false from a5];rfl) ?_)
  refine zG zE (NS.ite (fun a7=>?_) (fun a7=>?_))
  ·exact zG zE (NS.ret rfl rfl (LeA.of (congrArg (A.int .i64) (by simp_all [chkN,emptyN]))))
  ·exact zG zE (NS.ret rfl rfl (LeA.of (congrArg (A.int .i64) (by simp_all [chkN,emptyN]))))
def newN (self quota:Int):Nod × Int:=if !inR self 0 15 || !inR quota 0 1073741824 then (zeroN,2) else (⟨self,quota,true,.empty,0,⟨[],[]⟩,[]⟩,0)
theorem zeroN_le {a:List A} (h:a = [.int .i64 0,.int .i64 0,.bool false,.str .empty,.int .i64 0,.nils,.nils,.nils]):LeA (.agg a) (.agg zeroN.cells):=by
 subst h
 exact LeA.agg (LeL.cons (LeA.refl _) (LeL.cons (LeA.refl _) (LeL.cons (LeA.refl _) (LeL.cons (LeA.refl _) (LeL.cons (LeA.refl _) (LeL.cons (LeA.nil' rfl) (LeL.cons (LeA.nil' rfl) (LeL.cons (LeA.nil' rfl) LeL.nil))))))))
theorem nNew_ok (self quota:Int):FnOK Tryz.prog 17 [.int .i64 self,.int .i64 quota] (.tup [.agg (newN self quota).1.cells,.int .i64 (newN self quota).2],none):=by
 refine fn_ok CF rfl (by kernel_rfl) Tryz.func17 rfl ?_
 refine zG zE (NS.call (nWithin_ok self 0 15) rfl ?_)
 refine zG zE (NS.ite (fun a1=>?_) (fun a1=>?_))
 ·rw [show newN self quota = (zeroN,2) by unfold newN;rw [if_pos (by rw [a1];rfl)]]
  exact zG zE (NS.ret rfl rfl (LeA.tup2 (zeroN_le rfl) (LeA.refl _)))
 refine zG zE (NS.call (nWithin_ok quota 0 1073741824) rfl ?_)
 refine zG zE (NS.ite (fun a2=>?_) (fun a2=>?_))
 ·rw [show newN self quota = (zeroN,2) by unfold newN;rw [if_pos (by rw [a2,Bool.or_true])]]
  exact zG zE (NS.ret rfl rfl (LeA.tup2 (zeroN_le rfl) (LeA.refl _)))
 rw [show newN self quota = (⟨self,quota,true,.empty,0,⟨[],[]⟩,[]⟩,0) by unfold newN;rw [if_neg (by rw [a1,a2];decide)]]
 exact zG zE (NS.ret rfl rfl (LeA.tup2 (LeA.agg (LeL.cons (LeA.refl _) (LeL.cons (LeA.refl _) (LeL.cons (LeA.refl _) (LeL.cons (LeA.refl _) (LeL.cons (LeA.refl _) (LeL.cons (LeA.nil' rfl) (LeL.cons (LeA.nil' rfl) (LeL.cons (LeA.nil' rfl) LeL.nil))))))))) (LeA.refl _)))
theorem recErr_id (x:Nid):(recErr ⟨2,.zero,x,0,0⟩ == 0) = vId x:=by
 rw [vId_valid]
 unfold recErr
 have h1:inR 2 1 4 = true:=rfl
 have h2:inR 0 0 1099511627776 = true:=rfl
 simp [h1,h2,Itm.eqv]
 cases validId x <;> rfl
theorem recErr_id' (x:Nid):recErr ⟨2,.zero,x,0,0⟩ = 0 ↔ vId x = true:=by rw [<- recErr_id];simp
theorem recErr_st' (x:Itm):recErr ⟨1,x,.zero,0,0⟩ = 0 ↔ okItem x = true:=by rw [<- recErr_store];simp
theorem checkEvent_ok (e:Evt):FnOK Tryz.prog 109 [.agg e.cells] (.int .i64 (evE e),none):=by
 refine fn_ok CF rfl (by kernel_rfl) Tryz.func109 rfl ?_
 refine zG zE (NS.call (nWithin_ok e.kind 1 7) rfl ?_)
 refine zG zE (NS.ite (fun a1=>?_) (fun a1=>?_))
 ·exact zG zE (NS.ret rfl rfl (LeA.of (congrArg (A.int .i64) (by simp_all [evE]))))
 refine zG zE (NS.call (jCheck_ok ⟨2,.zero,e.id,0,0⟩) rfl ?_)
 refine zG zE (NS.call (nWithin_ok e.contact 0 63) rfl ?_)
 refine zG zE (NS.call (nWithin_ok e.time 0 1099511627776) rfl ?_)
 repeat' (first | (refine zG zE (NS.ite (fun h=>?_) (fun h=>?_))) | (refine zG zE (NS.chk (by kernel_rfl) ?_)) | (refine zG zE (NS.call (jCheck_ok ⟨1,e.item,.zero,0,0⟩) rfl ?_)) | (refine zG zE (NS.call (nWithin_ok e.due 0 1099511627777) rfl ?_)) | (refine zG zE (NS.call (nWithin_ok e.ticket 0 1152921504606846976) rfl ?_)) | (exact zG zE (NS.ret rfl rfl (LeA.of (congrArg (A.int .i64) (by simp_all [evE,recErr_id',recErr_st']))))))
theorem mapOKG:MapTab Tryz.prog [(139,false,1)]:=by
 intro p hp
 simp only [List.mem_cons,List.not_mem_nil,or_false] at hp
 subst hp
 exact ⟨3,1,by kernel_rfl,mapLaw_int (by kernel_rfl)⟩
noncomputable def EG:Env:={ P:=Tryz.prog,eqT:=lookE eqTab,mps:=lookMp [(139,false,1)],mu:=[110,111,112,113,114,115,116] }
theorem EG_ok:EqOK EG:=eqOK_mp eqTab_ok mapOKG
noncomputable def CG:Cx:={ E:=EG,inl:=[],ok:=EG_ok }
def nodA (r:Nod × List Mb.Act × Int):A:=.tup [.agg r.1.cells,slAct r.2.1,.int .i64 r.2.2]
theorem evE_kind {e:Evt} (h:evE e = 0):1 <= e.kind /\ e.kind <= 7:=by
 unfold evE at h
 split at h
 ·cases h
 ·rename_i q
  have q:inR e.kind 1 7 = true:=by simpa using q
  exact inR_iff.1 q
theorem handle_ok (n:Nod) (e:Evt) (h1:n.dur.items.length <= 200000) (h2:n.dur.inbox.length <= 200000) (h3:n.jour.size <= 100000) (h4:n.ofs.length <= 1000):FnOK Tryz.prog 74 [.agg n.cells,.agg e.cells] (nodA (goM n e),none):=by
 have hz:Sz (startW n) 0:=⟨h1,h2,h3,h4,Nat.le_refl _⟩
 refine fn_ok CG rfl (by kernel_rfl) Tryz.func74 rfl ?_
 refine zG zE (NS.call (checkEvent_ok e) rfl ?_)
 refine zG zE (NS.ite (fun a1=>?_) (fun a1=>?_))
 ·rw [show goM n e = (zeroN,[],evE e) from if_pos a1]
  exact zG zE (NS.ret rfl rfl (LeA.tup3 (zeroN_le rfl) (LeA.nil' rfl) (LeA.refl _)))
 have hk:=evE_kind (by simpa using a1)
 refine zG zE (NS.ite (fun a2=>?_) (fun a2=>?_))
 ·rw [show goM n e = (zeroN,[],29) by unfold goM;rw [if_neg (by rw [a1];decide),if_pos a2]]
  exact zG zE (NS.ret rfl rfl (LeA.tup3 (zeroN_le rfl) (LeA.nil' rfl) (LeA.refl _)))
 rw [show goM n e = if (kindW (startW n) e).err != 0 then _ else _ by unfold goM;rw [if_neg (by rw [a1];decide),if_neg (by rw [a2];decide)]]
 clear a1
 obtain ⟨kind,time,item,id,contact,due,acc,ticket⟩:=e
 simp only at hk
 have hk7:kind = 1 \/ kind = 2 \/ kind = 3 \/ kind = 4 \/ kind = 5 \/ kind = 6 \/ kind = 7:=by omega
 rcases hk7 with rfl | rfl | rfl | rfl | rfl | rfl | rfl
 ·refine zG zE (NS.no (rfl) ?_)
  refine zG zE (NS.no (rfl) ?_)
  refine zG zE (NS.no (rfl) ?_)
  refine zG zE (NS.no (rfl) ?_)
  refine zG zE (NS.no (rfl) ?_)
  refine zG zE (NS.no (rfl) ?_)
  refine zG zE (NS.yes (rfl) ?_)
  rw [show kindW (startW n) ⟨1,time,item,id,contact,due,acc,ticket⟩ = putW (startW n) ⟨1,time,item,id,contact,due,acc,ticket⟩ from rfl]
  refine zG zE (NS.inn (P:=Tryz.prog) (vals:=[.ptr 23 0]) (objs1:=wH (startW n) ⟨1,time,item,id,contact,due,acc,ticket⟩) (WeakL.keep 32 [4,23] (by kernel_rfl)) (by kernel_rfl) (LeL.refl _) (by kernel_rfl) (putW_ok (startW n) ⟨1,time,item,id,contact,due,acc,ticket⟩ rfl hz) rfl ?_)
  refine zG zE (NS.ite (fun b1=>?_) (fun b1=>?_))
  ·rw [if_pos b1]
   refine zG zE (NS.chk (by kernel_rfl) ?_)
   exact zG zE (NS.ret rfl rfl (LeA.tup3 (zeroN_le rfl) (LeA.nil' rfl) (LeA.refl _)))
  ·rw [if_neg (by rw [b1];decide)]
   refine zG zE (NS.chk (by kernel_rfl) ?_)
   exact zG zE (NS.ret rfl rfl (LeA.refl _))
 ·refine zG zE (NS.no (rfl) ?_)
  refine zG zE (NS.no (rfl) ?_)
  refine zG zE (NS.no (rfl) ?_)
  refine zG zE (NS.no (rfl) ?_)
  refine zG zE (NS.no (rfl) ?_)
  refine zG zE (NS.yes (rfl) ?_)
  rw [show kindW (startW n) ⟨2,time,item,id,contact,due,acc,ticket⟩ = sendW (startW n) ⟨2,time,item,id,contact,due,acc,ticket⟩ from rfl]
  refine zG zE (NS.inn (P:=Tryz.prog) (vals:=[.ptr 23 0]) (objs1:=wH (startW n) ⟨2,time,item,id,contact,due,acc,ticket⟩) (WeakL.keep 32 [4,23] (by kernel_rfl)) (by kernel_rfl) (LeL.refl _) (by kernel_rfl) (sendW_ok (startW n) ⟨2,time,item,id,contact,due,acc,ticket⟩ rfl hz) rfl ?_)
  refine zG zE (NS.ite (fun b1=>?_) (fun b1=>?_))
  ·rw [if_pos b1]
   refine zG zE (NS.chk (by kernel_rfl) ?_)
   exact zG zE (NS.ret rfl rfl (LeA.tup3 (zeroN_le rfl) (LeA.nil' rfl) (LeA.refl _)))
  ·rw [if_neg (by rw [b1];decide)]
   refine zG zE (NS.chk (by kernel_rfl) ?_)
   exact zG zE (NS.ret rfl rfl (LeA.refl _))
 ·refine zG zE (NS.no (rfl) ?_)
  refine zG zE (NS.no (rfl) ?_)
  refine zG zE (NS.no (rfl) ?_)
  refine zG zE (NS.no (rfl) ?_)
  refine zG zE (NS.yes (rfl) ?_)
  rw [show kindW (startW n) ⟨3,time,item,id,contact,due,acc,ticket⟩ = signalW (startW n) ⟨3,time,item,id,contact,due,acc,ticket⟩ from rfl]
  refine zG zE (NS.inn (P:=Tryz.prog) (vals:=[.ptr 23 0]) (objs1:=wH (startW n) ⟨3,time,item,id,contact,due,acc,ticket⟩) (WeakL.keep 32 [4,23] (by kernel_rfl)) (by kernel_rfl) (LeL.refl _) (by kernel_rfl) (signalW_ok (startW n) ⟨3,time,item,id,contact,due,acc,ticket⟩ rfl hz) rfl ?_)
  refine zG zE (NS.ite (fun b1=>?_) (fun b1=>?_))
  ·rw [if_pos b1]
   refine zG zE (NS.chk (by kernel_rfl) ?_)
   exact zG zE (NS.ret rfl rfl (LeA.tup3 (zeroN_le rfl) (LeA.nil' rfl) (LeA.refl _)))
  ·rw [if_neg (by rw [b1];decide)]
   refine zG zE (NS.chk (by kernel_rfl) ?_)
   exact zG zE (NS.ret rfl rfl (LeA.refl _))
 ·refine zG zE (NS.no (rfl) ?_)
  refine zG zE (NS.no (rfl) ?_)
  refine zG zE (NS.no (rfl) ?_)
  refine zG zE (NS.yes (rfl) ?_)
  rw [show kindW (startW n) ⟨4,time,item,id,contact,due,acc,ticket⟩ = timerW (startW n) ⟨4,time,item,id,contact,due,acc,ticket⟩ from rfl]
  refine zG zE (NS.inn (P:=Tryz.prog) (vals:=[.ptr 23 0]) (objs1:=wH (startW n) ⟨4,time,item,id,contact,due,acc,ticket⟩) (WeakL.keep 32 [4,23] (by kernel_rfl)) (by kernel_rfl) (LeL.refl _) (by kernel_rfl) (timerW_ok (startW n) ⟨4,time,item,id,contact,due,acc,ticket⟩ rfl hz) rfl ?_)
  refine zG zE (NS.ite (fun b1=>?_) (fun b1=>?_))
  ·rw [if_pos b1]
   refine zG zE (NS.chk (by kernel_rfl) ?_)
   exact zG zE (NS.ret rfl rfl (LeA.tup3 (zeroN_le rfl) (LeA.nil' rfl) (LeA.refl _)))
  ·rw [if_neg (by rw [b1];decide)]
   refine zG zE (NS.chk (by kernel_rfl) ?_)
   exact zG zE (NS.ret rfl rfl (LeA.refl _))
 ·refine zG zE (NS.no (rfl) ?_)
  refine zG zE (NS.no (rfl) ?_)
  refine zG zE (NS.yes (rfl) ?_)
  rw [show kindW (startW n) ⟨5,time,item,id,contact,due,acc,ticket⟩ = expireW (startW n) ⟨5,time,item,id,contact,due,acc,ticket⟩ from rfl]
  refine zG zE (NS.inn (P:=Tryz.prog) (vals:=[.ptr 23 0]) (objs1:=wH (startW n) ⟨5,time,item,id,contact,due,acc,ticket⟩) (WeakL.keep 32 [4,23] (by kernel_rfl)) (by kernel_rfl) (LeL.refl _) (by kernel_rfl) (expireW_ok (startW n) ⟨5,time,item,id,contact,due,acc,ticket⟩ rfl hz) rfl ?_)
  refine zG zE (NS.ite (fun b1=>?_) (fun b1=>?_))
  ·rw [if_pos b1]
   refine zG zE (NS.chk (by kernel_rfl) ?_)
   exact zG zE (NS.ret rfl rfl (LeA.tup3 (zeroN_le rfl) (LeA.nil' rfl) (LeA.refl _)))
  ·rw [if_neg (by rw [b1];decide)]
   refine zG zE (NS.chk (by kernel_rfl) ?_)
   exact zG zE (NS.ret rfl rfl (LeA.refl _))
 ·refine zG zE (NS.no (rfl) ?_)
  refine zG zE (NS.yes (rfl) ?_)
  rw [show kindW (startW n) ⟨6,time,item,id,contact,due,acc,ticket⟩ = dropW (startW n) ⟨6,time,item,id,contact,due,acc,ticket⟩ from rfl]
  refine zG zE (NS.inn (P:=Tryz.prog) (vals:=[.ptr 23 0]) (objs1:=wH (startW n) ⟨6,time,item,id,contact,due,acc,ticket⟩) (WeakL.keep 32 [4,23] (by kernel_rfl)) (by kernel_rfl) (LeL.refl _) (by kernel_rfl) (dropW_ok (startW n) ⟨6,time,item,id,contact,due,acc,ticket⟩ rfl hz) rfl ?_)
  refine zG zE (NS.ite (fun b1=>?_) (fun b1=>?_))
  ·rw [if_pos b1]
   refine zG zE (NS.chk (by kernel_rfl) ?_)
   exact zG zE (NS.ret rfl rfl (LeA.tup3 (zeroN_le rfl) (LeA.nil' rfl) (LeA.refl _)))
  ·rw [if_neg (by rw [b1];decide)]
   refine zG zE (NS.chk (by kernel_rfl) ?_)
   exact zG zE (NS.ret rfl rfl (LeA.refl _))
 ·refine zG zE (NS.yes (rfl) ?_)
  rw [show kindW (startW n) ⟨7,time,item,id,contact,due,acc,ticket⟩ = ticketW (startW n) ⟨7,time,item,id,contact,due,acc,ticket⟩ from rfl]
  refine zG zE (NS.inn (P:=Tryz.prog) (vals:=[.ptr 23 0]) (objs1:=wH (startW n) ⟨7,time,item,id,contact,due,acc,ticket⟩) (WeakL.keep 32 [4,23] (by kernel_rfl)) (by kernel_rfl) (LeL.refl _) (by kernel_rfl) (ticketW_ok (startW n) ⟨7,time,item,id,contact,due,acc,ticket⟩ rfl hz) rfl ?_)
  refine zG zE (NS.ite (fun b1=>?_) (fun b1=>?_))
  ·rw [if_pos b1]
   refine zG zE (NS.chk (by kernel_rfl) ?_)
   exact zG zE (NS.ret rfl rfl (LeA.tup3 (zeroN_le rfl) (LeA.nil' rfl) (LeA.refl _)))
  ·rw [if_neg (by rw [b1];decide)]
   refine zG zE (NS.chk (by kernel_rfl) ?_)
   exact zG zE (NS.ret rfl rfl (LeA.refl _))
def Grw (n m:Nod) (i b o:Nat):Prop:=m.dur.items.length <= n.dur.items.length + i /\ m.dur.inbox.length <= n.dur.inbox.length + b /\ (m.jour.size <= 65536 \/ m.jour = n.jour) /\ m.ofs.length <= n.ofs.length + o
theorem Grw.refl (n:Nod):Grw n n 0 0 0:=⟨Nat.le_refl _,Nat.le_refl _,.inr rfl,Nat.le_refl _⟩
theorem Grw.trans {a b c:Nod} {i j k i' j' k':Nat} (h:Grw a b i j k) (h':Grw b c i' j' k'):Grw a c (i + i') (j + j') (k + k'):=by
 obtain ⟨h1,h2,h3,h4⟩:=h
 obtain ⟨g1,g2,g3,g4⟩:=h'
 refine ⟨by omega,by omega,?_,by omega⟩
 rcases g3 with g3 | g3
 ·exact .inl g3
 ·rcases h3 with h3 | h3
  ·exact .inl (by rw [g3];exact h3)
  ·exact .inr (g3.trans h3)
theorem Grw.le {a b:Nod} {i j k i' j' k':Nat} (h:Grw a b i j k) (h1:i <= i') (h2:j <= j') (h3:k <= k'):Grw a b i' j' k':=by
 obtain ⟨g1,g2,g3,g4⟩:=h
 exact ⟨by omega,by omega,g3,by omega⟩
theorem grw_wr (n:Nod) (r:Jrec):Grw n (wr n r).1 (if r.kind = 1 then 1 else 0) (if r.kind = 3 then 1 else 0) 0:=by
 obtain ⟨h1,h2,h3,h4⟩:=wr_sz n r
 exact ⟨h1,h2,h3,by rw [h4];exact Nat.le_refl _⟩
theorem grw_remove (w:Wst) (t:Int) (x:Itm):Grw w.n (w.remove t x).n 0 0 0:=by
 have h:Grw w.n (wr w.n ⟨2,.zero,x.id,0,t⟩).1 0 0 0:=grw_wr w.n ⟨2,.zero,x.id,0,t⟩
 exact ⟨h.1,h.2.1,h.2.2.1,Nat.le_trans (List.length_filter_le _ _) h.2.2.2⟩
theorem grw_settle (w:Wst) (t:Int) (id:Nid) (s a:Bool):Grw w.n (w.settle t id s a).n 0 0 0:=by
 unfold Wst.settle
 split
 ·exact .refl _
 ·split
  ·exact .refl _
  ·exact grw_remove _ _ _
theorem grw_tm (l:List Ofr) (t:Int) (w:Wst):∀ k,Grw w.n (tmN l t w k).n 0 0 0
 | 0=>.refl _
 | k + 1=>by
  unfold tmN
  split
  ·exact (grw_tm l t w k).trans (grw_settle _ _ _ _ _)
  ·exact grw_tm l t w k
theorem grw_ex (l:List Jrec) (t:Int) (w:Wst):∀ k,Grw w.n (exN l t w k).n 0 0 0
 | 0=>.refl _
 | k + 1=>by
  unfold exN
  split
  ·exact (grw_ex l t w k).trans (grw_remove _ _ _)
  ·exact grw_ex l t w k
theorem grw_write (w:Wst) (l:List Jrec):Grw w.n (w.write l).n 1 1 0:=by
 cases l with
 | nil=>exact (Grw.refl _).le (by omega) (by omega) (by omega)
 | cons r l=>exact (grw_wr w.n r).le (by split <;> omega) (by split <;> omega) (by omega)
theorem filt_two {α:Type} (p:α -> Bool) (l:List α):(l.filter p).length + (l.filter (nt p)).length = l.length:=by
 induction l with
 | nil=>rfl
 | cons x l ih=>
  rw [List.filter_cons,List.filter_cons]
  cases h:p x
  ·rw [if_neg (by decide),if_pos (by unfold nt;rw [h];rfl)]
   simp only [List.length_cons];omega
  ·rw [if_pos rfl,if_neg (by unfold nt;rw [h];decide)]
   simp only [List.length_cons];omega
theorem beginM_len (l:List Ofr) (x:Nid) (c d:Int):(beginM l x c d).1.length <= l.length + 1:=by
 unfold beginM
 simp only
 repeat' split
 all_goals try (simp;done)
 have h:=filt_two (fun p=>ltO p ⟨x,c,d,((l.filter (ofId x)).length:Int)⟩) l
 simp only [List.length_append,List.length_singleton]
 omega
theorem grw_kind (w:Wst) (e:Evt):Grw w.n (kindW w e).n 1 1 1:=by
 unfold kindW
 split
 ·unfold putW
  split
  ·exact (Grw.refl _).le (by omega) (by omega) (by omega)
  ·exact (grw_write w _).le (by omega) (by omega) (by omega)
 split
 ·unfold sendW
  split
  ·exact (Grw.refl _).le (by omega) (by omega) (by omega)
  ·split
   ·exact ⟨Nat.le_add_right _ _,Nat.le_add_right _ _,.inr rfl,beginM_len _ _ _ _⟩
   ·split
    ·exact (Grw.refl _).le (by omega) (by omega) (by omega)
    ·exact (Grw.refl _).le (by omega) (by omega) (by omega)
 split
 ·unfold signalW
  split
  ·exact (Grw.refl _).le (by omega) (by omega) (by omega)
  ·have h:Grw w.n (w.setO (signalM w.n.ofs e.id e.contact).1).n 0 0 0:=⟨Nat.le_refl _,Nat.le_refl _,.inr rfl,signalM_len _ _ _⟩
   exact (h.trans (grw_settle _ _ _ _ _)).le (by omega) (by omega) (by omega)
 split
 ·have h:Grw w.n (w.setO (dueM w.n.ofs e.time).2.1).n 0 0 0:=⟨Nat.le_refl _,Nat.le_refl _,.inr rfl,(dueM_len _ _).2⟩
  exact (h.trans (grw_tm _ _ _ _)).le (by omega) (by omega) (by omega)
 split
 ·unfold expireW
  split
  ·exact (Grw.refl _).le (by omega) (by omega) (by omega)
  ·exact (grw_ex _ _ _ _).le (by omega) (by omega) (by omega)
 split
 ·unfold dropW
  split
  ·exact (grw_remove _ _ _).le (by omega) (by omega) (by omega)
  ·exact (Grw.refl _).le (by omega) (by omega) (by omega)
 ·unfold ticketW
  split
  ·exact (grw_write _ _).le (by omega) (by omega) (by omega)
  ·exact (Grw.refl _).le (by omega) (by omega) (by omega)
theorem acts_kind (w:Wst) (e:Evt) (hz:Sz w 0):(kindW w e).acts.length <= 200000:=by
 have h0:w.acts.length = 0:=by have:=hz.2.2.2.2;omega
 have hw:∀ l,(w.write l).acts = w.acts:=fun l=>by cases l <;> rfl
 unfold kindW
 split
 ·unfold putW
  split
  ·show w.acts.length <= _;omega
  ·show ((w.write _).acts ++ [_]).length <= _;rw [hw];simp;omega
 split
 ·unfold sendW
  split
  ·omega
  ·split
   ·show (w.acts ++ [_]).length <= _;simp;omega
   ·split
    ·omega
    ·show w.acts.length <= _;omega
 split
 ·unfold signalW
  split
  ·omega
  ·have h:Sz (w.setO (signalM w.n.ofs e.id e.contact).1) 0:=⟨hz.1,hz.2.1,hz.2.2.1,Nat.le_trans (signalM_len _ _ _) hz.2.2.2.1,hz.2.2.2.2⟩
   have:=(h.settle e.time e.id true e.acc).2.2.2.2
   omega
 split
 ·have h:Sz (w.setO (dueM w.n.ofs e.time).2.1) 0:=⟨hz.1,hz.2.1,hz.2.2.1,Nat.le_trans (dueM_len _ _).2 hz.2.2.2.1,hz.2.2.2.2⟩
  have:=(h.tmN (dueM w.n.ofs e.time).1 e.time (dueM w.n.ofs e.time).1.length).2.2.2.2
  have h2:=(dueM_len w.n.ofs e.time).1
  have h3:=hz.2.2.2.1
  show (tmN _ _ _ _).acts.length <= _
  omega
 split
 ·unfold expireW
  split
  ·show w.acts.length <= _;omega
  ·have:=(hz.exN (expireM w.n.dur e.time).1 e.time (expireM w.n.dur e.time).1.length).2.2.2.2
   have h2:=expireM_len w.n.dur e.time
   have h3:=hz.1
   omega
 split
 ·unfold dropW
  split
  ·have:=(hz.remove e.time (findM w.n.dur e.id).1).2.2.2.2
   omega
  ·omega
 ·unfold ticketW
  split
  ·rw [hw];omega
  ·omega
def Szn (n:Nod) (k:Nat):Prop:=n.dur.items.length <= 100000 + k /\ n.dur.inbox.length <= 100000 + k /\ n.jour.size <= 100000 /\ n.ofs.length <= 500 + k
theorem Szn.le {n:Nod} {a b:Nat} (h:Szn n a) (hab:a <= b):Szn n b:=⟨by have:=h.1;omega,by have:=h.2.1;omega,h.2.2.1,by have:=h.2.2.2;omega⟩
theorem szn_zero (k:Nat):Szn zeroN k:=⟨Nat.zero_le _,Nat.zero_le _,by decide,Nat.zero_le _⟩
theorem Szn.go {n:Nod} {k:Nat} (h:Szn n k) (hk:k <= 400) (e:Evt):Szn (goM n e).1 (k + 1) /\ (goM n e).2.1.length <= 200000:=by
 obtain ⟨h1,h2,h3,h4⟩:=h
 have hz:Sz (startW n) 0:=⟨show n.dur.items.length <= _ by omega,show n.dur.inbox.length <= _ by omega,h3,show n.ofs.length <= _ by omega,Nat.le_refl _⟩
 unfold goM
 split
 ·exact ⟨szn_zero _,Nat.zero_le _⟩
 split
 ·exact ⟨szn_zero _,Nat.zero_le _⟩
 split
 ·exact ⟨szn_zero _,Nat.zero_le _⟩
 ·obtain ⟨g1,g2,g3,g4⟩:=grw_kind (startW n) e
  have g1:(kindW (startW n) e).n.dur.items.length <= n.dur.items.length + 1:=g1
  have g2:(kindW (startW n) e).n.dur.inbox.length <= n.dur.inbox.length + 1:=g2
  have g4:(kindW (startW n) e).n.ofs.length <= n.ofs.length + 1:=g4
  have g3:(kindW (startW n) e).n.jour.size <= 65536 \/ (kindW (startW n) e).n.jour = n.jour:=g3
  refine ⟨⟨?_,?_,?_,?_⟩,acts_kind _ _ hz⟩
  ·show (kindW (startW n) e).n.dur.items.length <= _;omega
  ·show (kindW (startW n) e).n.dur.inbox.length <= _;omega
  ·show (kindW (startW n) e).n.jour.size <= _
   rcases g3 with g3 | g3
   ·omega
   ·rw [g3];exact h3
  ·show (kindW (startW n) e).n.ofs.length <= _;omega
def handM (n:Nod) (e:Evt):Nod × List Mb.Act × Int:=if chkN n != 0 then (zeroN,[],1) else goM n e
theorem nHandle_ok (n:Nod) (e:Evt) (h:Szn n 100):FnOK Tryz.prog 27 [.agg n.cells,.agg e.cells] (nodA (handM n e),none):=by
 obtain ⟨h1,h2,h3,h4⟩:=h
 unfold handM
 refine fn_ok CF rfl (by kernel_rfl) Tryz.func27 rfl ?_
 refine zG zE (NS.call (nCheck_ok n (by omega) (by omega) (by omega)) rfl ?_)
 refine zG zE (NS.ite (fun a1=>?_) (fun a1=>?_))
 ·rw [if_pos a1]
  exact zG zE (NS.ret rfl rfl (LeA.tup3 (zeroN_le rfl) (LeA.nil' rfl) (LeA.refl _)))
 rw [if_neg (by rw [a1];decide)]
 refine zG zE (NS.call (handle_ok n e (by omega) (by omega) (by omega) (by omega)) rfl ?_)
 exact zG zE (NS.ret rfl rfl (LeA.refl _))
set_option maxHeartbeats 2000000
theorem rNums_ok (l:List Int) (hl:l.length <= 1000) (hi:∀ x ∈ l,inI x = true):FnOK Tryz.prog 202 [slN l] (.str (bs (encL l)),none):=by
 refine fn_ok VN rfl (by kernel_rfl) Tryz.func202 rfl ?_
 refine zG zE ?_
 refine NS.loop (σ:={ k:Nat // k <= l.length }) (fun k=>[(0,slN l),(3,.str (bs (encL (l.take k.1)))),(4,.int .i64 k.1)]) (fun k=>[]) (fun k=>l.length - k.1) ⟨0,Nat.zero_le _⟩ ?_ ?_
 ·exact weak_hd [] rfl ⟨rfl,ren_str rfl (by simp [encL];rfl),rfl,trivial⟩ trivial trivial (by kernel_rfl)
 rintro ⟨k,hk⟩
 have hel:=encL_len (l:=l.take k) fun x hx=>hi x (List.mem_of_mem_take hx)
 simp only [List.length_take] at hel
 refine zG zE (NS.ite (fun h=>?_) (fun h=>?_))
 ·have h:k < l.length:=by simpa using h
  refine zG zE (NS.need (by simp;omega) ?_)
  have c2:=rInt_ok (l.getD k default)
  have hx:inI (l.getD k default) = true:=hi _ (by rw [getD_lt h];exact List.getElem_mem h)
  rw [intM_ok hx] at c2
  have hxl:=encI_len hx
  refine zG zE (NS.call (c2) rfl ?_)
  refine zG zE (NS.need (decide_eq_true (by rw [bs_len,bs_len];show (encL (l.take k)).length + _ <= _;omega)) ?_)
  refine zG zE (NS.next ⟨k + 1,by omega⟩ (by simp;omega) ?_)
  refine weak_hd [] rfl ⟨rfl,ren_str rfl ?_,ren_int rfl (i64_k (k:=k) (n:=l.length) (by omega) (by omega)),trivial⟩ trivial trivial (by kernel_rfl)
  show bs (encL (l.take k)) ++ bs (encI (l.getD k default)) = bs (encL (l.take (k + 1)))
  rw [<- bs_append,encL_snoc l k h]
 ·have hk':¬ k < l.length:=by simpa using h
  obtain rfl:k = l.length:=by omega
  refine zG zE (NS.leave rfl zE ?_)
  rw [show l.take l.length = l from List.take_length]
  exact zG zE (NS.ret rfl rfl (LeA.refl _))
theorem rBit_ok (b:Bool):FnOK Tryz.prog 164 [.bool b] (.int .i64 (cuI b),none):=by
 cases b
 ·refine fn_ok CN rfl (by kernel_rfl) Tryz.func164 rfl ?_
  refine zG zE (NS.no (rfl) ?_)
  exact zG zE (NS.ret rfl rfl (LeA.refl _))
 ·refine fn_ok CN rfl (by kernel_rfl) Tryz.func164 rfl ?_
  refine zG zE (NS.yes (rfl) ?_)
  exact zG zE (NS.ret rfl rfl (LeA.refl _))
theorem rIdNums_ok (x:Nid) (hi:∀ y ∈ idI x,inI y = true):FnOK Tryz.prog 203 [.agg x.cells] (.str (bs (encL (idI x))),none):=by
 refine fn_ok CN rfl (by kernel_rfl) Tryz.func203 rfl ?_
 refine zG zE (NS.call ((rNums_ok (idI x) (by show 5 <= 1000;decide) hi).le (LeL.cons (LeA.sl rfl fun i hi j hj=>?_) LeL.nil)) rfl ?_)
 ·have hj:j < 1:=hj
  obtain rfl:j = 0:=by omega
  have hi:i < 5:=hi
  rcases (by omega:i = 0 \/ i = 1 \/ i = 2 \/ i = 3 \/ i = 4) with rfl | rfl | rfl | rfl | rfl <;> rfl
 exact zG zE (NS.ret rfl rfl (LeA.refl _))
theorem rEnc_ok (r:Jrec):FnOK Tryz.prog 148 [.agg r.cells] (encA (encRM r),none):=by
 have c:=rCheck_ok r
 unfold encRM encA
 by_cases h:(recErr r != 0) = true
 ·rw [if_pos h]
  refine fn_ok CN rfl (by kernel_rfl) Tryz.func148 rfl ?_
  refine zG zE (NS.call (c) rfl ?_)
  refine zG zE (NS.yes (h) ?_)
  exact zG zE (NS.ret rfl rfl (LeA.refl _))
 rw [if_neg h]
 have h:recErr r = 0:=by simpa using h
 have hin:=conI_in h
 rw [h] at c
 rcases recErr_zero.1 h with g | g
 ·have hs:stoK r.kind = true:=by unfold stoK;rcases g.kind with e | e <;> rw [e] <;> rfl
  have hsz:r.item.data.size <= 65536:=by have:=itemErr_zero g.item;have:=this.2.2.2.2.2;rw [inR_iff] at this;omega
  have hi:conI r = [r.kind,r.time] ++ ([r.item.ticket] ++ idI r.item.id ++ [r.item.dest,r.item.expires,r.item.prio,cuI r.item.custody]):=if_pos hs
  rw [hi] at hin
  have hin1:∀ y ∈ [r.kind,r.time],inI y = true:=fun y hy=>hin y (List.mem_append_left _ hy)
  have hin2:∀ y ∈ [r.item.ticket],inI y = true:=fun y hy=>hin y (List.mem_append_right _ (List.mem_append_left _ (List.mem_append_left _ hy)))
  have hin3:∀ y ∈ idI r.item.id,inI y = true:=fun y hy=>hin y (List.mem_append_right _ (List.mem_append_left _ (List.mem_append_right _ hy)))
  have hin4:∀ y ∈ [r.item.dest,r.item.expires,r.item.prio,cuI r.item.custody],inI y = true:=fun y hy=>hin y (List.mem_append_right _ (List.mem_append_right _ hy))
  have c1:=rNums_ok [r.kind,r.time] (by show 2 <= 1000;decide) hin1
  have c2:=rNums_ok [r.item.ticket] (by show 1 <= 1000;decide) hin2
  have c3:=rIdNums_ok r.item.id hin3
  have c4:=rNums_ok [r.item.dest,r.item.expires,r.item.prio,cuI r.item.custody] (by show 4 <= 1000;decide) hin4
  have b1:=bsn_len hin1 (by show 2 <= 20;decide)
  have b2:=bsn_len hin2 (by show 1 <= 20;decide)
  have b3:=bsn_len hin3 (by show 5 <= 20;decide)
  have b4:=bsn_len hin4 (by show 4 <= 20;decide)
  have ct:FnOK Tryz.prog 204 [.str r.item.data] (.tup [.str (bs (txtL r.item.data)),.int .i64 0],none):=by
   have c0:=rText_ok r.item.data
   rw [textN_ok hsz] at c0
   exact c0
  have hl:ls (bs (encL [r.kind,r.time]) ++ bs (encL [r.item.ticket]) ++ bs (encL (idI r.item.id)) ++ bs (encL [r.item.dest,r.item.expires,r.item.prio,cuI r.item.custody]) ++ bs (txtL r.item.data)) = conL r:=by
   rw [ls_append,ls_append,ls_append,ls_append,ls_bs (encL_lt2 _),ls_bs (encL_lt2 _),ls_bs (encL_lt2 _),ls_bs (encL_lt2 _),ls_bs (fun x hx=>by
    rcases List.mem_append.1 hx with h | h
    ·exact encZ_mem h
    ·exact ls_lt _ x h)]
   unfold conL
   rw [if_pos hs,hi]
   simp only [encL,List.flatMap_append,List.append_assoc]
  have htl:(bs (txtL r.item.data)).size <= 65600:=by
   have:=encI_len (inI_nat (n:=r.item.data.size) (by omega))
   rw [bs_len,txtL,List.length_append,ls_len];omega
  refine fn_ok CN rfl (by kernel_rfl) Tryz.func148 rfl ?_
  refine zG zE (NS.call (c) rfl ?_)
  refine zG zE (NS.no (rfl) ?_)
  refine zG zE (NS.call (c1.le (LeL.cons (LeA.sl rfl fun i hi j hj=>?_) LeL.nil)) rfl ?_)
  ·have hj:j < 1:=hj
   obtain rfl:j = 0:=by omega
   have hi:i < 2:=hi
   rcases (by omega:i = 0 \/ i = 1) with rfl | rfl <;> rfl
  refine zG zE (NS.no (by rcases g.kind with hk | hk <;> rw [hk] <;> rfl) ?_)
  refine zG zE (NS.no (by rcases g.kind with hk | hk <;> rw [hk] <;> rfl) ?_)
  refine zG zE (NS.chk (by kernel_rfl) ?_)
  refine zG zE (NS.call (c2.le (LeL.cons (LeA.sl rfl fun i hi j hj=>?_) LeL.nil)) rfl ?_)
  ·have hj:j < 1:=hj
   obtain rfl:j = 0:=by omega
   have hi:i < 1:=hi
   obtain rfl:i = 0:=by omega
   rfl
  refine zG zE (NS.need (decide_eq_true (by omega)) ?_)
  refine zG zE (NS.call (c3) rfl ?_)
  refine zG zE (NS.need (decide_eq_true (by rw [ByteArray.size_append];omega)) ?_)
  refine zG zE (NS.call (rBit_ok r.item.custody) rfl ?_)
  refine zG zE (NS.call (c4.le (LeL.cons (LeA.sl rfl fun i hi j hj=>?_) LeL.nil)) rfl ?_)
  ·have hj:j < 1:=hj
   obtain rfl:j = 0:=by omega
   have hi:i < 4:=hi
   rcases (by omega:i = 0 \/ i = 1 \/ i = 2 \/ i = 3) with rfl | rfl | rfl | rfl <;> rfl
  refine zG zE (NS.need (decide_eq_true (by rw [ByteArray.size_append,ByteArray.size_append];omega)) ?_)
  refine zG zE (NS.call (ct) rfl ?_)
  refine zG zE (NS.need (decide_eq_true (by rw [ByteArray.size_append,ByteArray.size_append,ByteArray.size_append];omega)) ?_)
  have cse:=rSeal_ok (bs (encL [r.kind,r.time]) ++ bs (encL [r.item.ticket]) ++ bs (encL (idI r.item.id)) ++ bs (encL [r.item.dest,r.item.expires,r.item.prio,cuI r.item.custody]) ++ bs (txtL r.item.data))
  rw [sealN (l:=conL r) hl] at cse
  by_cases hb:(conL r).length > 65536
  ·rw [if_pos (decide_eq_true hb)] at cse
   rw [if_pos (decide_eq_true hb)]
   refine zG zE (NS.call (cse) rfl ?_)
   exact zG zE (NS.ret rfl rfl (LeA.refl _))
  ·rw [if_neg (by simpa using hb)] at cse
   rw [if_neg (by simpa using hb)]
   refine zG zE (NS.call (cse) rfl ?_)
   exact zG zE (NS.ret rfl rfl (LeA.refl _))
 ·have hs:¬ stoK r.kind = true:=by unfold stoK;rcases g.kind with e | e <;> rw [e] <;> decide
  have hi:conI r = [r.kind,r.time] ++ (idI r.id ++ if r.kind == 4 then [r.ticket] else []):=if_neg hs
  rw [hi] at hin
  have hin1:∀ y ∈ [r.kind,r.time],inI y = true:=fun y hy=>hin y (List.mem_append_left _ hy)
  have hin2:∀ y ∈ idI r.id,inI y = true:=fun y hy=>hin y (List.mem_append_right _ (List.mem_append_left _ hy))
  have c1:=rNums_ok [r.kind,r.time] (by show 2 <= 1000;decide) hin1
  have c2:=rIdNums_ok r.id hin2
  have b1:=bsn_len hin1 (by show 2 <= 20;decide)
  have b2:=bsn_len hin2 (by show 5 <= 20;decide)
  refine fn_ok CN rfl (by kernel_rfl) Tryz.func148 rfl ?_
  refine zG zE (NS.call (c) rfl ?_)
  refine zG zE (NS.no (rfl) ?_)
  refine zG zE (NS.call (c1.le (LeL.cons (LeA.sl rfl fun i hi j hj=>?_) LeL.nil)) rfl ?_)
  ·have hj:j < 1:=hj
   obtain rfl:j = 0:=by omega
   have hi:i < 2:=hi
   rcases (by omega:i = 0 \/ i = 1) with rfl | rfl <;> rfl
  rcases g.kind with hk | hk
  ·have hl:ls (bs (encL [r.kind,r.time]) ++ bs (encL (idI r.id))) = conL r:=by
    rw [ls_append,ls_bs (encL_lt2 _),ls_bs (encL_lt2 _)]
    unfold conL
    rw [if_neg hs,hi,if_neg (by rw [hk];decide)]
    simp only [encL,List.flatMap_append,List.append_nil]
   refine zG zE (NS.yes (by rw [hk];rfl) ?_)
   refine zG zE (NS.call (c2) rfl ?_)
   refine zG zE (NS.need (decide_eq_true (by omega)) ?_)
   have cse:=rSeal_ok (bs (encL [r.kind,r.time]) ++ bs (encL (idI r.id)))
   rw [sealN (l:=conL r) hl] at cse
   by_cases hb:(conL r).length > 65536
   ·rw [if_pos (decide_eq_true hb)] at cse
    rw [if_pos (decide_eq_true hb)]
    refine zG zE (NS.call (cse) rfl ?_)
    exact zG zE (NS.ret rfl rfl (LeA.refl _))
   ·rw [if_neg (by simpa using hb)] at cse
    rw [if_neg (by simpa using hb)]
    refine zG zE (NS.call (cse) rfl ?_)
    exact zG zE (NS.ret rfl rfl (LeA.refl _))
  ·have hin3:∀ y ∈ [r.ticket],inI y = true:=fun y hy=>hin y (List.mem_append_right _ (List.mem_append_right _ (by rw [if_pos (by rw [hk];rfl)];exact hy)))
   have c3:=rNums_ok [r.ticket] (by show 1 <= 1000;decide) hin3
   have b3:=bsn_len hin3 (by show 1 <= 20;decide)
   have hl:ls (bs (encL [r.kind,r.time]) ++ bs (encL (idI r.id)) ++ bs (encL [r.ticket])) = conL r:=by
    rw [ls_append,ls_append,ls_bs (encL_lt2 _),ls_bs (encL_lt2 _),ls_bs (encL_lt2 _)]
    unfold conL
    rw [if_neg hs,hi,if_pos (by rw [hk];rfl)]
    simp only [encL,List.flatMap_append,List.append_nil,List.append_assoc]
   refine zG zE (NS.no (by rw [hk];rfl) ?_)
   refine zG zE (NS.yes (by rw [hk];rfl) ?_)
   refine zG zE (NS.chk (by kernel_rfl) ?_)
   refine zG zE (NS.call (c2) rfl ?_)
   refine zG zE (NS.need (decide_eq_true (by omega)) ?_)
   refine zG zE (NS.call (c3.le (LeL.cons (LeA.sl rfl fun i hi j hj=>?_) LeL.nil)) rfl ?_)
   ·have hj:j < 1:=hj
    obtain rfl:j = 0:=by omega
    have hi:i < 1:=hi
    obtain rfl:i = 0:=by omega
    rfl
   refine zG zE (NS.need (decide_eq_true (by rw [ByteArray.size_append];omega)) ?_)
   have cse:=rSeal_ok (bs (encL [r.kind,r.time]) ++ bs (encL (idI r.id)) ++ bs (encL [r.ticket]))
   rw [sealN (l:=conL r) hl] at cse
   by_cases hb:(conL r).length > 65536
   ·rw [if_pos (decide_eq_true hb)] at cse
    rw [if_pos (decide_eq_true hb)]
    refine zG zE (NS.call (cse) rfl ?_)
    exact zG zE (NS.ret rfl rfl (LeA.refl _))
   ·rw [if_neg (by simpa using hb)] at cse
    rw [if_neg (by simpa using hb)]
    refine zG zE (NS.call (cse) rfl ?_)
    exact zG zE (NS.ret rfl rfl (LeA.refl _))
end Go.Proofs.YtggjngbighkdgaaGreat
namespace Go.Mb
open Go.Sy
structure IntsAt (n:Nat) (L:List Nat) (k:Nat) (m:List Int) (T:List Nat):Prop where
 le:k <= n
 ln:m.length = k
 lt:∀ x ∈ T,x < 256
 res:rdNs n L = (rdNs (n - k) T).map fun p=>(m ++ p.1,p.2)
theorem IntsAt.start {n:Nat} {L:List Nat} (h:∀ x ∈ L,x < 256):IntsAt n L 0 [] L:=⟨Nat.zero_le _,rfl,h,by rw [Nat.sub_zero];cases rdNs n L <;> rfl⟩
theorem IntsAt.next {n k:Nat} {L T:List Nat} {m:List Int} (h:IntsAt n L k m T) (hk:k < n) {a:Int} {b:Nat} (hr:rdI T = (a,b,0)):IntsAt n L (k + 1) (m ++ [a]) (T.drop b):=by
 refine ⟨hk,by simp [h.ln],fun x hx=>h.lt x (List.mem_of_mem_drop hx),?_⟩
 rw [h.res,show n - k = (n - (k + 1)) + 1 by omega,rdNs,hr]
 rw [if_neg (by simp)]
 cases rdNs (n - (k + 1)) (T.drop b) with
 | none=>rfl
 | some p=>simp
theorem IntsAt.err {n k:Nat} {L T:List Nat} {m:List Int} (h:IntsAt n L k m T) (hk:k < n) (hr:(rdI T).2.2 ≠ 0):rdNs n L = none:=by
 rw [h.res,show n - k = (n - (k + 1)) + 1 by omega,rdNs,if_pos (by simpa using hr)];rfl
theorem IntsAt.fin {n:Nat} {L T:List Nat} {m:List Int} (h:IntsAt n L n m T):rdNs n L = some (m,T):=by
 rw [h.res,Nat.sub_self,rdNs];simp
theorem exB {T:List Nat} (hT:∀ x ∈ T,x < 256) (b:Nat) (hb:b <= T.length):(bs T).extract (Int.toNat ((b:Nat):Int)) (Int.toNat (((bs T).size:Nat):Int)) = bs (T.drop b):=by
 rw [<- bs_ls ((bs T).extract _ _),ls_extract,ls_bs hT]
 show bs ((T.take (bs T).size).drop b) = _
 rw [bs_len,List.take_length]
def intsA:Option (List Int × List Nat) -> A
 | none=>.tup [.junk,.str .empty,.bool false]
 | some (m,r)=>.tup [slN m,.str (bs r),.bool true]
end Go.Mb
namespace Go.Proofs.YtggjngbighkdgaaGreat
open Go.Sy Go.Mb
set_option maxRecDepth 100000
set_option maxHeartbeats 2000000
theorem rAppend_ok (s:ByteArray) (l:List Jrec) (hs:s.size <= 100000) (hl:l.length <= 100000):FnOK Tryz.prog 94 [.str s,slR l] (encA (appM (ls s) l),none):=by
 unfold appM
 refine fn_ok CN rfl (by kernel_rfl) Tryz.func94 rfl ?_
 refine zG zE ?_
 refine NS.loop (σ:={ k:Nat // k <= l.length /\ ∀ i,i < k -> (encRM (l.getD i default)).2 = 0 }) (fun k=>[(0,.str (bs (accJ (ls s) (l.take k.1)))),(1,slR l),(6,.int .i64 k.1)]) (fun k=>[]) (fun k=>l.length - k.1) ⟨0,Nat.zero_le _,fun i hi=>absurd hi (Nat.not_lt_zero _)⟩ ?_ ?_
 ·exact weak_hd [] rfl ⟨ren_str rfl (by simp [accJ,bs_ls]),rfl,rfl,trivial⟩ trivial trivial (by kernel_rfl)
 rintro ⟨k,hk,hI⟩
 have hal:(bs (accJ (ls s) (l.take k))).size <= 10000000000:=by
  have:=accJ_len (ls s) (l.take k)
  rw [ls_len,List.length_take] at this
  rw [bs_len];omega
 refine zG zE (NS.ite (fun h=>?_) (fun h=>?_))
 ·have h:k < l.length:=by simpa using h
  refine zG zE (NS.need (by simp;omega) ?_)
  refine zG zE (NS.call (rEnc_ok (l.getD k default)) rfl ?_)
  by_cases he:(encRM (l.getD k default)).2 = 0
  ·refine zG zE (NS.no (by show ((encRM (l.getD k default)).2 != 0) = false;rw [he];rfl) ?_)
   have hrl:=encRM_len (l.getD k default)
   refine zG zE (NS.need (decide_eq_true (by rw [bs_len (encRM _).1];show (bs (accJ (ls s) (l.take k))).size + _ <= _;omega)) ?_)
   refine zG zE (NS.next ⟨k + 1,by omega,fun i hi=>by rcases (by omega:i < k \/ i = k) with a | rfl;exact hI i a;exact he⟩ (by simp;omega) ?_)
   refine weak_hd [] rfl ⟨ren_str rfl ?_,rfl,ren_int rfl (i64_k (k:=k) (n:=l.length) (by omega) (by omega)),trivial⟩ trivial trivial (by kernel_rfl)
   show bs (accJ (ls s) (l.take k)) ++ bs (encRM (l.getD k default)).1 = bs (accJ (ls s) (l.take (k + 1)))
   rw [take_snoc h,accJ_snoc,bs_append]
  ·refine zG zE (NS.yes (by show ((encRM (l.getD k default)).2 != 0) = true;simpa using he) ?_)
   have e:=appJ_at h hI he (s:=ls s)
   rw [e]
   rw [if_pos (by simpa using he)]
   exact zG zE (NS.leaveOut rfl zE (NS.ret rfl rfl (LeA.refl _)))
 ·have hk':¬ k < l.length:=by simpa using h
  obtain rfl:k = l.length:=by omega
  rw [show l.take l.length = l from List.take_length] at hal
  have e:=appJ_all hI (s:=ls s)
  rw [e,if_neg (by simp)]
  have e2:(((bs (accJ (ls s) l)).size:Nat):Int) = ((accJ (ls s) l).length:Nat):=by rw [bs_len]
  refine zG zE (NS.leave rfl zE ?_)
  rw [show l.take l.length = l from List.take_length]
  by_cases hb:(accJ (ls s) l).length > 65536
  ·rw [if_pos (by simpa using hb)]
   refine zG zE (NS.yes (decide_eq_true (by rw [e2];omega)) ?_)
   exact zG zE (NS.ret rfl rfl (LeA.refl _))
  ·rw [if_neg (by simpa using hb)]
   refine zG zE (NS.no (decide_eq_false (by rw [e2];omega)) ?_)
   exact zG zE (NS.ret rfl rfl (LeA.refl _))
theorem rInts_ok (L:List Nat) (hL:∀ x ∈ L,x < 256) (n:Nat) (hn:n <= 20):FnOK Tryz.prog 163 [.str (bs L),.int .i64 (n:Nat)] (intsA (rdNs n L),none):=by
 refine fn_ok CN rfl (by kernel_rfl) Tryz.func163 rfl ?_
 refine zG zE ?_
 refine NS.loop (σ:={ p:Nat × List Int × List Nat // IntsAt n L p.1 p.2.1 p.2.2 }) (fun p=>[(0,.str (bs p.1.2.2)),(1,.int .i64 (n:Nat)),(7,.own 7),(8,.int .i64 p.1.1)]) (fun p=>[(7,.row 3 1 p.1.2.1.length (rowL nC p.1.2.1))]) (fun p=>n - p.1.1) ⟨(0,[],L),IntsAt.start hL⟩ ?_ ?_
 ·exact weak_hd [(7,12)] rfl ⟨rfl,rfl,rfl,rfl,trivial⟩ ⟨ren_row rfl rfl fun i hi=>absurd hi (Nat.not_lt_zero i),trivial⟩ trivial (by kernel_rfl)
 rintro ⟨⟨k,m,T⟩,u⟩
 have u:IntsAt n L k m T:=u
 have hk:=u.le
 have hm:=u.ln
 have c2:=rReadInt_ok (bs T)
 rw [ls_bs u.lt] at c2
 refine zG zE (NS.ite (fun h=>?_) (fun h=>?_))
 ·have h:(k:Int) < (n:Int):=of_decide_eq_true h
  have h:k < n:=by omega
  rcases rdI_cases T with ⟨a,b,hr⟩ | ⟨e,he,hr⟩
  ·have hb:=(rdI_ok u.lt hr).2.2.1
   rw [hr] at c2
   refine zG zE (NS.call (c2) rfl ?_)
   refine zG zE (NS.no (rfl) ?_)
   refine zG zE (NS.need (decide_eq_true (by show (m.length + 1) * _ <= _;simp only [maxRow];omega)) ?_)
   refine zG zE (NS.need (decide_eq_true ⟨Int.natCast_nonneg b,by rw [bs_len];show (b:Int) <= (T.length:Int);omega,Int.le_refl _⟩) ?_)
   refine zG zE (NS.next ⟨(k + 1,m ++ [a],T.drop b),u.next h hr⟩ (by simp only;omega) ?_)
   exact weak_hd [(7,30)] rfl ⟨ren_str rfl (exB u.lt b hb),rfl,rfl,ren_int rfl (i64_k (k:=k) (n:=100000) (by omega) (by omega)),trivial⟩ ⟨ren_row rfl (by simp) (fun i hi j hj=>row_snoc (cells:=nC) (x:=a) rfl i (by simpa using hi) j hj),trivial⟩ trivial (by kernel_rfl)
  ·rw [hr] at c2
   rw [u.err h (by rw [hr];simpa using he)]
   refine zG zE (NS.call (c2) rfl ?_)
   refine zG zE (NS.yes (by simpa using he) ?_)
   exact zG zE (NS.leaveOut rfl zE (NS.ret rfl rfl (LeA.tup3 (LeA.junk _) (LeA.refl _) (LeA.refl _))))
 ·have h:¬ (k:Int) < (n:Int):=of_decide_eq_false h
  obtain rfl:k = n:=by omega
  rw [u.fin]
  refine zG zE (NS.leave rfl zE ?_)
  exact zG zE (NS.ret rfl rfl (LeA.refl _))
end Go.Proofs.YtggjngbighkdgaaGreat
namespace Go.Mb
open Go.Sy
theorem rdNs_lt:∀ {n:Nat} {l:List Nat} {m:List Int} {r:List Nat},rdNs n l = some (m,r) -> (∀ x ∈ l,x < 256) -> (∀ x ∈ r,x < 256) /\ r.length <= l.length
 | 0,l,m,r,h,hl=>by simp only [rdNs,Option.some.injEq,Prod.mk.injEq] at h;rw [<- h.2];exact ⟨hl,Nat.le_refl _⟩
 | n + 1,l,m,r,h,hl=>by
  rw [rdNs] at h
  split at h
  ·cases h
  ·split at h
   ·cases h
   ·rename_i m' r' e
    simp only [Option.some.injEq,Prod.mk.injEq] at h
    obtain ⟨_,rfl⟩:=h
    have:=rdNs_lt e (fun x hx=>hl x (List.mem_of_mem_drop hx))
    rw [List.length_drop] at this
    exact ⟨this.1,by omega⟩
end Go.Mb
namespace Go.Proofs.YtggjngbighkdgaaGreat
open Go.Sy Go.Mb
set_option maxRecDepth 100000
set_option maxHeartbeats 2000000
theorem rIdOf_ok (m:List Int) (h:5 <= m.length):FnOK Tryz.prog 165 [slN m] (.agg (nidOf m).cells,none):=by
 refine fn_ok CN rfl (by kernel_rfl) Tryz.func165 rfl ?_
 refine zG zE (NS.chk (by kernel_rfl) ?_)
 repeat' (first | (refine zG zE (NS.need (decide_eq_true (by show _ /\ _ < (m.length:Int);omega)) ?_)))
 exact zG zE (NS.ret rfl rfl (LeA.refl _))
theorem rParse_ok (L:List Nat) (hL:∀ x ∈ L,x < 256) (hs:L.length <= 100000):∃ r:Jrec,FnOK Tryz.prog 104 [.str (bs L)] (.tup [.agg r.cells,.bool (parR L).isSome],none) /\ ∀ x,parR L = some x -> r = x:=by
 have c1:=rInts_ok L hL 2 (by omega)
 cases h1:rdNs 2 L with
 | none=>
  rw [h1] at c1
  have e:parR L = none:=by unfold parR;rw [h1]
  refine ⟨.zero,?_,fun x hx=>by rw [e] at hx;cases hx⟩
  rw [e]
  refine fn_ok CN rfl (by kernel_rfl) Tryz.func104 rfl ?_
  refine zG zE (NS.call (c1) rfl ?_)
  refine zG zE (NS.yes (rfl) ?_)
  exact zG zE (NS.ret rfl rfl (LeA.refl _))
 | some p=>
  obtain ⟨m,M⟩:=p
  rw [h1] at c1
  have hm:=rdNs_len h1
  have hM:=rdNs_lt h1 hL
  obtain ⟨k,t,rfl⟩:∃ k t,m = [k,t]:=by
   match m,hm with
   | [k,t],_=>exact ⟨k,t,rfl⟩
  by_cases hk2:k = 2
  ·subst hk2
   have hP:parR L = parI 2 t M:=parR_I h1 rfl rfl
   have c2:=rInts_ok M hM.1 5 (by omega)
   cases h2:rdNs 5 M with
   | none=>
    have e:parR L = none:=by rw [hP];unfold parI;rw [show (if ((2:Int) == 4) = true then 6 else 5) = 5 from rfl,h2]
    rw [h2] at c2
    refine ⟨.zero,?_,fun x hx=>by rw [e] at hx;cases hx⟩
    rw [e]
    refine fn_ok CN rfl (by kernel_rfl) Tryz.func104 rfl ?_
    refine zG zE (NS.call (c1) rfl ?_)
    refine zG zE (NS.no (rfl) ?_)
    refine zG zE (NS.chk (by kernel_rfl) ?_)
    refine zG zE (NS.need (decide_eq_true (by show _ /\ (0:Int) < ((2:Nat):Int);omega)) ?_)
    refine zG zE (NS.need (decide_eq_true (by show _ /\ (1:Int) < ((2:Nat):Int);omega)) ?_)
    refine zG zE (NS.yes (rfl) ?_)
    refine zG zE (NS.call (rBit_ok (2 == (4:Int))) rfl ?_)
    refine zG zE (NS.call (c2) rfl ?_)
    refine zG zE (NS.yes (rfl) ?_)
    exact zG zE (NS.ret rfl rfl (LeA.refl _))
   | some p=>
    obtain ⟨m2,R⟩:=p
    rw [h2] at c2
    have hm2:=rdNs_len h2
    have hR:=rdNs_lt h2 hM.1
    by_cases hz:R = []
    ·have ecs:=rIdOf_ok m2 (by omega)
     obtain ⟨rec,hrec⟩:∃ rec:Jrec,(⟨2,.zero,nidOf m2,0,t⟩:Jrec) = rec:=⟨_,rfl⟩
     have e:parR L = okR rec:=by rw [hP,<- hrec];unfold parI;rw [show (if ((2:Int) == 4) = true then 6 else 5) = 5 from rfl,h2];simp only;rw [if_pos (by rw [hz];rfl)];rfl
     have e2:(parR L).isSome = (recErr rec == 0):=by
      rw [e];unfold okR;cases h:recErr rec == 0 <;> rfl
     refine ⟨rec,?_,fun x hx=>by rw [e] at hx;unfold okR at hx;split at hx;exact (Option.some.inj hx);cases hx⟩
     rw [e2]
     have hcl:[A.int .i64 2,.int .i64 0,.int .i64 0,.int .i64 0,.int .i64 0,.int .i64 0,.int .i64 0,.int .i64 0,.int .i64 0,.int .i64 0,.bool false,.str .empty] ++ (nidOf m2).cells ++ [.int .i64 0,.int .i64 t] = rec.cells:=by rw [<- hrec];rfl
     refine fn_ok CN rfl (by kernel_rfl) Tryz.func104 rfl ?_
     refine zG zE (NS.call (c1) rfl ?_)
     refine zG zE (NS.no (rfl) ?_)
     refine zG zE (NS.chk (by kernel_rfl) ?_)
     refine zG zE (NS.need (decide_eq_true (by show _ /\ (0:Int) < ((2:Nat):Int);omega)) ?_)
     refine zG zE (NS.need (decide_eq_true (by show _ /\ (1:Int) < ((2:Nat):Int);omega)) ?_)
     refine zG zE (NS.yes (rfl) ?_)
     refine zG zE (NS.call (rBit_ok (2 == (4:Int))) rfl ?_)
     refine zG zE (NS.call (c2) rfl ?_)
     refine zG zE (NS.no (rfl) ?_)
     refine zG zE (NS.no (by show (!((bs R).toList == (⟨#[]⟩:ByteArray).toList)) = false;exact emp_f hz) ?_)
     refine zG zE (NS.call (ecs) rfl ?_)
     refine zG zE (NS.no (rfl) ?_)
     refine zG zE (NS.chk (by kernel_rfl) ?_)
     refine zG zE (NS.call ((rCheck_ok rec).le (LeL.cons (LeA.of (congrArg A.agg hcl)) LeL.nil)) rfl ?_)
     exact zG zE (NS.ret rfl rfl (LeA.tup2 (LeA.of (congrArg A.agg hcl)) (LeA.refl _)))
    ·have e:parR L = none:=by rw [hP];unfold parI;rw [show (if ((2:Int) == 4) = true then 6 else 5) = 5 from rfl,h2];simp only;rw [if_neg (by intro h;exact hz (List.isEmpty_iff.1 h))]
     refine ⟨.zero,?_,fun x hx=>by rw [e] at hx;cases hx⟩
     rw [e]
     refine fn_ok CN rfl (by kernel_rfl) Tryz.func104 rfl ?_
     refine zG zE (NS.call (c1) rfl ?_)
     refine zG zE (NS.no (rfl) ?_)
     refine zG zE (NS.chk (by kernel_rfl) ?_)
     refine zG zE (NS.need (decide_eq_true (by show _ /\ (0:Int) < ((2:Nat):Int);omega)) ?_)
     refine zG zE (NS.need (decide_eq_true (by show _ /\ (1:Int) < ((2:Nat):Int);omega)) ?_)
     refine zG zE (NS.yes (rfl) ?_)
     refine zG zE (NS.call (rBit_ok (2 == (4:Int))) rfl ?_)
     refine zG zE (NS.call (c2) rfl ?_)
     refine zG zE (NS.no (rfl) ?_)
     refine zG zE (NS.yes (by show (!((bs R).toList == (⟨#[]⟩:ByteArray).toList)) = true;exact emp_t hz) ?_)
     exact zG zE (NS.ret rfl rfl (LeA.refl _))
  by_cases hk4:k = 4
  ·subst hk4
   have hP:parR L = parI 4 t M:=parR_I h1 rfl rfl
   have c2:=rInts_ok M hM.1 6 (by omega)
   cases h2:rdNs 6 M with
   | none=>
    have e:parR L = none:=by rw [hP];unfold parI;rw [show (if ((4:Int) == 4) = true then 6 else 5) = 6 from rfl,h2]
    rw [h2] at c2
    refine ⟨.zero,?_,fun x hx=>by rw [e] at hx;cases hx⟩
    rw [e]
    refine fn_ok CN rfl (by kernel_rfl) Tryz.func104 rfl ?_
    refine zG zE (NS.call (c1) rfl ?_)
    refine zG zE (NS.no (rfl) ?_)
    refine zG zE (NS.chk (by kernel_rfl) ?_)
    refine zG zE (NS.need (decide_eq_true (by show _ /\ (0:Int) < ((2:Nat):Int);omega)) ?_)
    refine zG zE (NS.need (decide_eq_true (by show _ /\ (1:Int) < ((2:Nat):Int);omega)) ?_)
    refine zG zE (NS.no (rfl) ?_)
    refine zG zE (NS.yes (rfl) ?_)
    refine zG zE (NS.call (rBit_ok (4 == (4:Int))) rfl ?_)
    refine zG zE (NS.call (c2) rfl ?_)
    refine zG zE (NS.yes (rfl) ?_)
    exact zG zE (NS.ret rfl rfl (LeA.refl _))
   | some p=>
    obtain ⟨m2,R⟩:=p
    rw [h2] at c2
    have hm2:=rdNs_len h2
    have hR:=rdNs_lt h2 hM.1
    by_cases hz:R = []
    ·have ecs:=rIdOf_ok m2 (by omega)
     obtain ⟨rec,hrec⟩:∃ rec:Jrec,(⟨4,.zero,nidOf m2,(m2.getD 5 0),t⟩:Jrec) = rec:=⟨_,rfl⟩
     have e:parR L = okR rec:=by rw [hP,<- hrec];unfold parI;rw [show (if ((4:Int) == 4) = true then 6 else 5) = 6 from rfl,h2];simp only;rw [if_pos (by rw [hz];rfl)];rfl
     have e2:(parR L).isSome = (recErr rec == 0):=by
      rw [e];unfold okR;cases h:recErr rec == 0 <;> rfl
     refine ⟨rec,?_,fun x hx=>by rw [e] at hx;unfold okR at hx;split at hx;exact (Option.some.inj hx);cases hx⟩
     rw [e2]
     have hcl:[A.int .i64 4,.int .i64 0,.int .i64 0,.int .i64 0,.int .i64 0,.int .i64 0,.int .i64 0,.int .i64 0,.int .i64 0,.int .i64 0,.bool false,.str .empty] ++ (nidOf m2).cells ++ [.int .i64 (m2.getD 5 0),.int .i64 t] = rec.cells:=by rw [<- hrec];rfl
     refine fn_ok CN rfl (by kernel_rfl) Tryz.func104 rfl ?_
     refine zG zE (NS.call (c1) rfl ?_)
     refine zG zE (NS.no (rfl) ?_)
     refine zG zE (NS.chk (by kernel_rfl) ?_)
     refine zG zE (NS.need (decide_eq_true (by show _ /\ (0:Int) < ((2:Nat):Int);omega)) ?_)
     refine zG zE (NS.need (decide_eq_true (by show _ /\ (1:Int) < ((2:Nat):Int);omega)) ?_)
     refine zG zE (NS.no (rfl) ?_)
     refine zG zE (NS.yes (rfl) ?_)
     refine zG zE (NS.call (rBit_ok (4 == (4:Int))) rfl ?_)
     refine zG zE (NS.call (c2) rfl ?_)
     refine zG zE (NS.no (rfl) ?_)
     refine zG zE (NS.no (by show (!((bs R).toList == (⟨#[]⟩:ByteArray).toList)) = false;exact emp_f hz) ?_)
     refine zG zE (NS.call (ecs) rfl ?_)
     refine zG zE (NS.yes (rfl) ?_)
     refine zG zE (NS.need (decide_eq_true (by show _ /\ (5:Int) < (m2.length:Int);omega)) ?_)
     refine zG zE (NS.chk (by kernel_rfl) ?_)
     refine zG zE (NS.call ((rCheck_ok rec).le (LeL.cons (LeA.of (congrArg A.agg hcl)) LeL.nil)) rfl ?_)
     exact zG zE (NS.ret rfl rfl (LeA.tup2 (LeA.of (congrArg A.agg hcl)) (LeA.refl _)))
    ·have e:parR L = none:=by rw [hP];unfold parI;rw [show (if ((4:Int) == 4) = true then 6 else 5) = 6 from rfl,h2];simp only;rw [if_neg (by intro h;exact hz (List.isEmpty_iff.1 h))]
     refine ⟨.zero,?_,fun x hx=>by rw [e] at hx;cases hx⟩
     rw [e]
     refine fn_ok CN rfl (by kernel_rfl) Tryz.func104 rfl ?_
     refine zG zE (NS.call (c1) rfl ?_)
     refine zG zE (NS.no (rfl) ?_)
     refine zG zE (NS.chk (by kernel_rfl) ?_)
     refine zG zE (NS.need (decide_eq_true (by show _ /\ (0:Int) < ((2:Nat):Int);omega)) ?_)
     refine zG zE (NS.need (decide_eq_true (by show _ /\ (1:Int) < ((2:Nat):Int);omega)) ?_)
     refine zG zE (NS.no (rfl) ?_)
     refine zG zE (NS.yes (rfl) ?_)
     refine zG zE (NS.call (rBit_ok (4 == (4:Int))) rfl ?_)
     refine zG zE (NS.call (c2) rfl ?_)
     refine zG zE (NS.no (rfl) ?_)
     refine zG zE (NS.yes (by show (!((bs R).toList == (⟨#[]⟩:ByteArray).toList)) = true;exact emp_t hz) ?_)
     exact zG zE (NS.ret rfl rfl (LeA.refl _))
  have hP:parR L = parS k t M:=by
   cases hs:stoK k with
   | true=>exact parR_S h1 hs
   | false=>
    rw [parR_x h1 hs (by show (k == 2 || k == 4) = false;simp [hk2,hk4])]
    simp only [stoK,Bool.or_eq_false_iff,beq_eq_false_iff_ne,ne_eq] at hs
    unfold parS
    split
    ·rfl
    ·split
     ·rfl
     ·rw [okR_none (recErr_kind8 ⟨hs.1,hs.2,hk4⟩ hk2)]
  have c2:=rInts_ok M hM.1 10 (by omega)
  cases h2:rdNs 10 M with
  | none=>
   rw [h2] at c2
   have e:parR L = none:=by rw [hP];unfold parS;rw [h2]
   refine ⟨.zero,?_,fun x hx=>by rw [e] at hx;cases hx⟩
   rw [e]
   refine fn_ok CN rfl (by kernel_rfl) Tryz.func104 rfl ?_
   refine zG zE (NS.call (c1) rfl ?_)
   refine zG zE (NS.no (rfl) ?_)
   refine zG zE (NS.chk (by kernel_rfl) ?_)
   refine zG zE (NS.need (decide_eq_true (by show _ /\ (0:Int) < ((2:Nat):Int);omega)) ?_)
   refine zG zE (NS.need (decide_eq_true (by show _ /\ (1:Int) < ((2:Nat):Int);omega)) ?_)
   refine zG zE (NS.no (by show (k == 2) = false;simpa using hk2) ?_)
   refine zG zE (NS.no (by show (k == 4) = false;simpa using hk4) ?_)
   refine zG zE (NS.call (c2) rfl ?_)
   refine zG zE (NS.yes (rfl) ?_)
   exact zG zE (NS.ret rfl rfl (LeA.refl _))
  | some p=>
   obtain ⟨m2,R⟩:=p
   rw [h2] at c2
   have hm2:=rdNs_len h2
   have hR:=rdNs_lt h2 hM.1
   have cin:=in_ok (m2.getD 9 0) 0 1
   cases hc:inR (m2.getD 9 0) 0 1 with
   | false=>
    have e:parR L = none:=by
     rw [hP];unfold parS;rw [h2]
     simp only
     rw [if_pos]
     have q:(m2.getD 9 0 == 0 || m2.getD 9 0 == 1) = false:=by
      have hc:¬ (0 <= m2.getD 9 0 /\ m2.getD 9 0 <= 1):=fun h=>by rw [inR_iff.2 h] at hc;cases hc
      simp only [Bool.or_eq_false_iff,beq_eq_false_iff_ne,ne_eq]
      omega
     rw [q];simp
    refine ⟨.zero,?_,fun x hx=>by rw [e] at hx;cases hx⟩
    rw [e]
    refine fn_ok CN rfl (by kernel_rfl) Tryz.func104 rfl ?_
    refine zG zE (NS.call (c1) rfl ?_)
    refine zG zE (NS.no (rfl) ?_)
    refine zG zE (NS.chk (by kernel_rfl) ?_)
    refine zG zE (NS.need (decide_eq_true (by show _ /\ (0:Int) < ((2:Nat):Int);omega)) ?_)
    refine zG zE (NS.need (decide_eq_true (by show _ /\ (1:Int) < ((2:Nat):Int);omega)) ?_)
    refine zG zE (NS.no (by show (k == 2) = false;simpa using hk2) ?_)
    refine zG zE (NS.no (by show (k == 4) = false;simpa using hk4) ?_)
    refine zG zE (NS.call (c2) rfl ?_)
    refine zG zE (NS.no (rfl) ?_)
    refine zG zE (NS.need (decide_eq_true (by show _ /\ (9:Int) < (m2.length:Int);omega)) ?_)
    refine zG zE (NS.call (cin) rfl ?_)
    refine zG zE (NS.yes (by rw [hc];rfl) ?_)
    exact zG zE (NS.ret rfl rfl (LeA.refl _))
   | true=>
    have ct:=rReadText_ok (bs R) (by rw [bs_len];have:=hR.2;have:=hM.2;omega)
    rw [ls_bs hR.1] at ct
    have q:(m2.getD 9 0 == 0 || m2.getD 9 0 == 1) = true:=by
     have hc:=inR_iff.1 hc
     simp only [Bool.or_eq_true,beq_iff_eq]
     omega
    by_cases he:(rdT R).2.2 = 0
    ·by_cases hkl:(rdT R).2.1 = R.length
     ·obtain ⟨rec,hrec⟩:∃ rec:Jrec,(⟨k,⟨m2.getD 0 0,nidOf (m2.drop 1),m2.getD 6 0,m2.getD 7 0,m2.getD 8 0,m2.getD 9 0 == 1,bs (rdT R).1⟩,.zero,0,t⟩:Jrec) = rec:=⟨_,rfl⟩
      have e:parR L = okR rec:=by
       rw [hP,<- hrec];unfold parS;rw [h2];simp only
       rw [if_neg (by rw [he,hkl,q];simp)]
      have e2:(parR L).isSome = (recErr rec == 0):=by
       rw [e];unfold okR;cases h:recErr rec == 0 <;> rfl
      refine ⟨rec,?_,fun x hx=>by rw [e] at hx;unfold okR at hx;split at hx;exact (Option.some.inj hx);cases hx⟩
      rw [e2]
      have hcl:[A.int .i64 k,.int .i64 (m2.getD 0 0)] ++ (nidOf (m2.drop 1)).cells ++ [.int .i64 (m2.getD 6 0),.int .i64 (m2.getD 7 0),.int .i64 (m2.getD 8 0),.bool (m2.getD 9 0 == 1),.str (bs (rdT R).1),.int .i64 0,.int .i64 0,.int .i64 0,.int .i64 0,.int .i64 0,.int .i64 0,.int .i64 t] = rec.cells:=by rw [<- hrec];rfl
      have ecs:=rIdOf_ok (m2.drop 1) (by rw [List.length_drop];omega)
      refine fn_ok CN rfl (by kernel_rfl) Tryz.func104 rfl ?_
      refine zG zE (NS.call (c1) rfl ?_)
      refine zG zE (NS.no (rfl) ?_)
      refine zG zE (NS.chk (by kernel_rfl) ?_)
      refine zG zE (NS.need (decide_eq_true (by show _ /\ (0:Int) < ((2:Nat):Int);omega)) ?_)
      refine zG zE (NS.need (decide_eq_true (by show _ /\ (1:Int) < ((2:Nat):Int);omega)) ?_)
      refine zG zE (NS.no (by show (k == 2) = false;simpa using hk2) ?_)
      refine zG zE (NS.no (by show (k == 4) = false;simpa using hk4) ?_)
      refine zG zE (NS.call (c2) rfl ?_)
      refine zG zE (NS.no (rfl) ?_)
      refine zG zE (NS.need (decide_eq_true (by show _ /\ (9:Int) < (m2.length:Int);omega)) ?_)
      refine zG zE (NS.call (cin) rfl ?_)
      refine zG zE (NS.no (by rw [hc];rfl) ?_)
      refine zG zE (NS.call (ct) rfl ?_)
      refine zG zE (NS.no (by show ((rdT R).2.2 != 0) = false;rw [he];rfl) ?_)
      refine zG zE (NS.no (by show ((((rdT R).2.1:Nat):Int) != (((bs R).size:Nat):Int)) = false;rw [hkl,bs_len];simp) ?_)
      refine zG zE (NS.chk (by kernel_rfl) ?_)
      refine zG zE (NS.need (decide_eq_true (by show _ /\ (0:Int) < (m2.length:Int);omega)) ?_)
      refine zG zE (NS.need (decide_eq_true (by show (0:Int) <= 1 /\ (1:Int) <= (m2.length:Int) /\ (m2.length:Int) <= (m2.length:Int);omega)) ?_)
      refine zG zE (NS.call (ecs.le (LeL.cons (LeA.sl ?_ fun i hi j hj=>?_) LeL.nil)) rfl ?_)
      ·show ((m2.length:Int) - 1).toNat = _;rw [List.length_drop];omega
      ·have hj:j < 1:=hj
       obtain rfl:j = 0:=by omega
       show A.int .i64 (m2.getD (1 + i) default) = A.int .i64 ((m2.drop 1).getD i default)
       rw [List.getD_eq_getElem?_getD,List.getD_eq_getElem?_getD,List.getElem?_drop]
      refine zG zE (NS.need (decide_eq_true (by show _ /\ (6:Int) < (m2.length:Int);omega)) ?_)
      refine zG zE (NS.need (decide_eq_true (by show _ /\ (7:Int) < (m2.length:Int);omega)) ?_)
      refine zG zE (NS.need (decide_eq_true (by show _ /\ (8:Int) < (m2.length:Int);omega)) ?_)
      refine zG zE (NS.need (decide_eq_true (by show _ /\ (9:Int) < (m2.length:Int);omega)) ?_)
      refine zG zE (NS.chk (by kernel_rfl) ?_)
      refine zG zE (NS.call ((rCheck_ok rec).le (LeL.cons (LeA.of (congrArg A.agg hcl)) LeL.nil)) rfl ?_)
      exact zG zE (NS.ret rfl rfl (LeA.tup2 (LeA.of (congrArg A.agg hcl)) (LeA.refl _)))
     ·have e:parR L = none:=by
       rw [hP];unfold parS;rw [h2]
       simp only
       rw [if_pos (by rw [he,bne_iff_ne.2 hkl];rfl)]
      refine ⟨.zero,?_,fun x hx=>by rw [e] at hx;cases hx⟩
      rw [e]
      refine fn_ok CN rfl (by kernel_rfl) Tryz.func104 rfl ?_
      refine zG zE (NS.call (c1) rfl ?_)
      refine zG zE (NS.no (rfl) ?_)
      refine zG zE (NS.chk (by kernel_rfl) ?_)
      refine zG zE (NS.need (decide_eq_true (by show _ /\ (0:Int) < ((2:Nat):Int);omega)) ?_)
      refine zG zE (NS.need (decide_eq_true (by show _ /\ (1:Int) < ((2:Nat):Int);omega)) ?_)
      refine zG zE (NS.no (by show (k == 2) = false;simpa using hk2) ?_)
      refine zG zE (NS.no (by show (k == 4) = false;simpa using hk4) ?_)
      refine zG zE (NS.call (c2) rfl ?_)
      refine zG zE (NS.no (rfl) ?_)
      refine zG zE (NS.need (decide_eq_true (by show _ /\ (9:Int) < (m2.length:Int);omega)) ?_)
      refine zG zE (NS.call (cin) rfl ?_)
      refine zG zE (NS.no (by rw [hc];rfl) ?_)
      refine zG zE (NS.call (ct) rfl ?_)
      refine zG zE (NS.no (by show ((rdT R).2.2 != 0) = false;rw [he];rfl) ?_)
      refine zG zE (NS.yes (by show ((((rdT R).2.1:Nat):Int) != (((bs R).size:Nat):Int)) = true;rw [bs_len,bne_iff_ne];intro h;exact hkl (by exact_mod_cast h)) ?_)
      exact zG zE (NS.ret rfl rfl (LeA.refl _))
    ·have e:parR L = none:=by
      rw [hP];unfold parS;rw [h2]
      simp only
      rw [if_pos (by rw [bne_iff_ne.2 he];rfl)]
     refine ⟨.zero,?_,fun x hx=>by rw [e] at hx;cases hx⟩
     rw [e]
     refine fn_ok CN rfl (by kernel_rfl) Tryz.func104 rfl ?_
     refine zG zE (NS.call (c1) rfl ?_)
     refine zG zE (NS.no (rfl) ?_)
     refine zG zE (NS.chk (by kernel_rfl) ?_)
     refine zG zE (NS.need (decide_eq_true (by show _ /\ (0:Int) < ((2:Nat):Int);omega)) ?_)
     refine zG zE (NS.need (decide_eq_true (by show _ /\ (1:Int) < ((2:Nat):Int);omega)) ?_)
     refine zG zE (NS.no (by show (k == 2) = false;simpa using hk2) ?_)
     refine zG zE (NS.no (by show (k == 4) = false;simpa using hk4) ?_)
     refine zG zE (NS.call (c2) rfl ?_)
     refine zG zE (NS.no (rfl) ?_)
     refine zG zE (NS.need (decide_eq_true (by show _ /\ (9:Int) < (m2.length:Int);omega)) ?_)
     refine zG zE (NS.call (cin) rfl ?_)
     refine zG zE (NS.no (by rw [hc];rfl) ?_)
     refine zG zE (NS.call (ct) rfl ?_)
     refine zG zE (NS.yes (by show ((rdT R).2.2 != 0) = true;simpa using he) ?_)
     exact zG zE (NS.ret rfl rfl (LeA.refl _))
theorem rRead_ok (s:ByteArray):FnOK Tryz.prog 68 [.str s] (.tup [slR (rdJA (ls s)).1,.int .i64 ((rdJA (ls s)).2.1:Nat),.int .i64 (rdJA (ls s)).2.2],none):=by
 have hL:=ls_lt s
 have hn:=ls_len s
 by_cases hb:(s.size:Int) > 65536
 ·have e:rdJA (ls s) = ([],0,4):=by unfold rdJA;rw [hn,if_pos (decide_eq_true hb)]
  rw [e]
  refine fn_ok CN rfl (by kernel_rfl) Tryz.func68 rfl ?_
  refine zG zE (NS.yes (decide_eq_true hb) ?_)
  exact zG zE (NS.ret rfl rfl (LeA.tup3 (LeA.sl rfl fun i hi=>absurd hi (Nat.not_lt_zero i)) (LeA.refl _) (LeA.refl _)))
 have e:rdJA (ls s) = ((rdJ (ls s)).1,(rdJ (ls s)).2,0):=by unfold rdJA;rw [hn,if_neg (by simpa using hb)]
 rw [e]
 refine fn_ok CN rfl (by kernel_rfl) Tryz.func68 rfl ?_
 refine zG zE (NS.no (decide_eq_false hb) ?_)
 refine zG zE ?_
 refine NS.loop (σ:={ p:Nat × List Jrec // RdAt (ls s) p.1 p.2 }) (fun p=>[(0,.str s),(5,.own 5),(6,.int .i64 p.1.1)]) (fun p=>[(5,.row 101 19 p.1.2.length (rowL Jrec.cells p.1.2))]) (fun p=>(ls s).length - p.1.1) ⟨(0,[]),RdAt.start _⟩ ?_ ?_
 ·exact weak_hd [(5,12)] rfl ⟨rfl,rfl,rfl,trivial⟩ ⟨ren_row rfl rfl fun i hi=>absurd hi (Nat.not_lt_zero i),trivial⟩ trivial (by kernel_rfl)
 rintro ⟨⟨q,o⟩,hR⟩
 have hR:RdAt (ls s) q o:=hR
 have hle:=hR.le
 have hol:=hR.len
 have hqb:q <= 65536:=by omega
 have hdl:((ls s).drop q).length <= 65536:=by rw [List.length_drop];omega
 have c:=rOpen_ok (s.extract (Int.toNat ((q:Nat):Int)) (Int.toNat ((s.size:Nat):Int))) (by rw [<- ls_len,dropJ s q (by omega)];omega)
 rw [dropJ s q (by omega)] at c
 have hdt:∀ x ∈ (ls s).drop q,x < 256:=fun x hx=>hL x (List.mem_of_mem_drop hx)
 refine zG zE (NS.need (by show decide (0 <= ((q:Nat):Int) /\ ((q:Nat):Int) <= s.size /\ (s.size:Int) <= s.size) = true;rw [decide_eq_true_eq];omega) ?_)
 obtain ⟨T,n,eo,hO⟩:∃ T n eo,opL ((ls s).drop q) = (T,n,eo):=⟨_,_,_,rfl⟩
 rw [hO] at c
 refine zG zE (NS.call (c) rfl ?_)
 by_cases he:eo = 0
 ·refine zG zE (NS.no (by show (eo != 0) = false;rw [he];rfl) ?_)
  subst he
  have hts:=opL_lt hdt
  have htl:=(opL_len ((ls s).drop q)).1
  rw [hO] at hts htl
  have htl:T.length <= ((ls s).drop q).length:=htl
  obtain ⟨r,cp,hr⟩:=rParse_ok T hts (by omega)
  refine zG zE (NS.call (cp) rfl ?_)
  cases hp:parR T with
  | none=>
   have hf:fstJ ((ls s).drop q) = none:=by unfold fstJ;rw [hO];simp only;rw [if_neg (by simp),hp]
   have hfin:=hR.fin hL hf
   rw [hfin]
   refine zG zE (NS.yes (rfl) ?_)
   refine zG zE (NS.leaveOut rfl zE (NS.ret rfl rfl (LeA.refl _)))
  | some x=>
   obtain rfl:=hr x hp
   have hf:fstJ ((ls s).drop q) = some (r,n):=by unfold fstJ;rw [hO];simp only;rw [if_neg (by simp),hp]
   obtain ⟨hN,hn0,hle2⟩:=hR.next hL hf
   refine zG zE (NS.no (rfl) ?_)
   refine zG zE (NS.need (decide_eq_true (by simp only [maxRow];show (o.length + 1) * (159 + 1 + 1) <= _;omega)) ?_)
   refine zG zE (NS.next ⟨(q + n,o ++ [r]),hN⟩ (by show (ls s).length - (q + n) < (ls s).length - q;omega) ?_)
   exact weak_hd [(5,41)] rfl ⟨rfl,rfl,ren_int rfl (show IntKind.i64.wrap ((q:Nat) + (n:Nat):Int) = ((q + n:Nat):Int) by rw [wrap_i64 (by omega) (by omega)];omega),trivial⟩ ⟨ren_row rfl (by simp) (fun i hi j hj=>row_snoc (cells:=Jrec.cells) (x:=r) rfl i (by simpa using hi) j hj),trivial⟩ trivial (by kernel_rfl)
 ·have hf:fstJ ((ls s).drop q) = none:=by unfold fstJ;rw [hO,if_pos (by simpa using he)]
  have hfin:=hR.fin hL hf
  rw [hfin]
  refine zG zE (NS.yes (by show (eo != 0) = true;simpa using he) ?_)
  refine zG zE (NS.leaveOut rfl zE (NS.ret rfl rfl (LeA.refl _)))
set_option maxHeartbeats 4000000
theorem rFind_ok' (d:Dur) (id:Nid) (h1:d.items.length <= 1000000):FnOK Tryz.prog 72 [.agg d.cells,.agg id.cells] (.tup [.agg (findM d id).1.cells,.bool (findM d id).2],none):=by
 have hx:=idx_lt (hasId id) d.items
 refine fn_ok CF rfl (by kernel_rfl) Tryz.func72 rfl ?_
 refine zG zE (NS.call (rIndex_ok d.items id h1) rfl ?_)
 refine zG zE (NS.ite (fun h0=>?_) (fun h0=>?_))
 ·have hn:idx (hasId id) d.items = -1:=by simpa using h0
  rw [show findM d id = (.zero,false) by unfold findM;rw [if_neg (by omega)]]
  exact zG zE (NS.ret rfl rfl (LeA.refl _))
 ·have hn:0 <= idx (hasId id) d.items:=by
   rcases idx_cases (hasId id) d.items with ⟨h2,_⟩ | ⟨k,_,h2,_⟩
   ·rw [h2] at h0;simp at h0
   ·omega
  rw [show findM d id = (d.items.getD (idx (hasId id) d.items).toNat default,true) by unfold findM;rw [if_pos hn]]
  refine zG zE (NS.need (decide_eq_true (by omega)) ?_)
  exact zG zE (NS.ret rfl rfl (LeA.refl _))
theorem sameO_ok (l m:List Ofr) (hl:l.length <= 1000000):FnOK Tryz.prog 66 [slOfr l,slOfr m] (.bool (sameBy Ofr.eqv l m),none):=by
 refine fn_ok CF rfl (by kernel_rfl) Tryz.func66 rfl ?_
 refine zG zE (NS.ite (fun h0=>?_) (fun h0=>?_))
 ·exact zG zE (NS.ret rfl rfl (LeA.of (congrArg A.bool ((sameBy_len (fun _ _=>Ofr.eqv_iff) (by intro e;rw [e] at h0;simp at h0)).symm))))
 have hlm:l.length = m.length:=by simp only [bne_eq_false_iff_eq] at h0;omega
 refine zG zE ?_
 refine NS.loop (σ:={ k:Nat // k <= l.length /\ ∀ i,i < k -> Ofr.eqv (l.getD i default) (m.getD i default) = true }) (fun k=>[(0,slOfr l),(1,slOfr m),(5,.int .i64 k.1)]) (fun _=>[]) (fun k=>l.length - k.1) ⟨0,Nat.zero_le _,fun i hi=>by omega⟩ ?_ ?_
 ·exact weak_hd [] rfl ⟨rfl,rfl,rfl,trivial⟩ trivial trivial (by kernel_rfl)
 rintro ⟨k,hk,hn⟩
 refine zG zE (NS.ite (fun h=>?_) (fun h=>?_))
 ·have h:k < l.length:=by simpa using h
  refine zG zE (NS.chk (by kernel_rfl) ?_)
  refine zG zE (NS.need (by simp;omega) ?_)
  refine zG zE (NS.need (by simp;omega) ?_)
  refine zG zE (NS.ite (fun h2=>?_) (fun h2=>?_))
  ·exact zG zE (NS.leaveOut rfl zE (NS.ret rfl rfl (LeA.of (congrArg A.bool ((sameBy_f (k:=k) (fun _ _=>Ofr.eqv_iff) (not_t h2)).symm)))))
  ·refine zG zE (NS.next ⟨k + 1,by omega,fun i hi=>?_⟩ (by simp;omega) ?_)
   ·by_cases hik:i = k
    ·subst hik;exact not_f h2
    ·exact hn i (by omega)
   ·exact weak_hd [] rfl ⟨rfl,rfl,ren_int rfl (i64_k (by omega) (by omega)),trivial⟩ trivial trivial (by kernel_rfl)
 ·have h:¬ k < l.length:=by simpa using h
  refine zG zE (NS.leave rfl zE ?_)
  exact zG zE (NS.ret rfl rfl (LeA.of (congrArg A.bool ((sameBy_t (fun _ _=>Ofr.eqv_iff) hlm fun i hi=>hn i (by omega)).symm))))
theorem rSameN_ok (n:Nod) (h1:n.dur.items.length <= 1000000) (h2:n.dur.inbox.length <= 1000000) (h3:n.ofs.length <= 1000000):FnOK Tryz.prog 19 [.agg n.cells,.agg n.cells] (.bool true,none):=by
 have c1:=same_ok n.dur n.dur h1 h2
 rw [sameD_iff.2 rfl] at c1
 have c2:=sameO_ok n.ofs n.ofs h3
 rw [(sameBy_iff (fun _ _=>Ofr.eqv_iff)).2 rfl] at c2
 refine fn_ok CF rfl (by kernel_rfl) Tryz.func19 rfl ?_
 refine zG zE (NS.yes (by simp) ?_)
 refine zG zE (NS.yes (by simp) ?_)
 refine zG zE (NS.yes (by simp) ?_)
 refine zG zE (NS.yes (by simp) ?_)
 refine zG zE (NS.yes (by simp) ?_)
 refine zG zE (NS.call (c1) rfl ?_)
 refine zG zE (NS.yes (rfl) ?_)
 refine zG zE (NS.call (c2) rfl ?_)
 exact zG zE (NS.ret rfl rfl (LeA.refl _))
def greatN (n:Nod):Bool:=greatD n.dur || decide ((n.ofs.length:Int) > 12) || decide ((n.jour.size:Int) > 3000)
theorem greatN_ok (n:Nod):FnOK Tryz.prog 15 [.agg n.cells] (.bool (greatN n),none):=by
 refine fn_ok CF rfl (by kernel_rfl) Tryz.func15 rfl ?_
 refine zG zE (NS.call (great_ok n.dur) rfl ?_)
 refine zG zE (NS.ite (fun a1=>?_) (fun a1=>?_))
 ·exact zG zE (NS.ret rfl rfl (LeA.of (congrArg A.bool (by unfold greatN;rw [a1];rfl))))
 refine zG zE (NS.ite (fun a2=>?_) (fun a2=>?_))
 ·exact zG zE (NS.ret rfl rfl (LeA.of (congrArg A.bool (by unfold greatN;rw [a1,show decide ((n.ofs.length:Int) > 12) = true from a2];rfl))))
 exact zG zE (NS.ret rfl rfl (LeA.of (congrArg A.bool (by unfold greatN;rw [a1,show decide ((n.ofs.length:Int) > 12) = false from a2];rfl))))
def rchkN (n:Nod):Int:=
 if !inR n.self 0 15 || !inR n.quota 0 1073741824 || !inR n.last 0 (n.jour.size:Int) then 2
 else if decide ((n.jour.size:Int) > 65536) then 1
 else if !n.up then (if IntKind.i64.wrap (IntKind.i64.wrap ((n.dur.items.length:Int) + (n.dur.inbox.length:Int)) + (n.ofs.length:Int)) > 0 then 1 else 0)
 else if (((rdJA (ls n.jour)).2.1:Nat):Int) != (n.jour.size:Int) then 1
 else if !sameD (jrnD n).1 n.dur then 1
 else if usedM (jrnD n).1.items > n.quota then 1
 else if chkO n.ofs != 0 then 1
 else if n.ofs.any fun o=>!(findM (jrnD n).1 o.id).2 then 1 else 0
theorem rCheckN_ok (n:Nod) (h1:n.dur.items.length <= 1000000) (h2:n.dur.inbox.length <= 1000000):FnOK Tryz.prog 21 [.agg n.cells] (.int .i64 (rchkN n),none):=by
 obtain ⟨hj1,hj2⟩:=jrnD_len n
 have hl:=rdJA_len (ls n.jour)
 have cf:=rFold_ok (rdJA (ls n.jour)).1 (by omega)
 change FnOK _ _ _ (durA (jrnD n),none) at cf
 have c1:=same_ok (jrnD n).1 n.dur (by omega) (by omega)
 have c2:=rUsed_ok (jrnD n).1 (by omega)
 have no:∀ {n lo hi:Int},¬ (lo <= n /\ n <= hi) -> inR n lo hi = false:=fun h=>by rw [<- Bool.not_eq_true,inR_iff];exact h
 have bad:(inR n.self 0 15 = false \/ inR n.quota 0 1073741824 = false \/ inR n.last 0 (n.jour.size:Int) = false) -> rchkN n = 2:=by
  intro h
  unfold rchkN
  rw [if_pos]
  rcases h with h | h | h <;> rw [h] <;> simp
 refine fn_ok CF rfl (by kernel_rfl) Tryz.func21 rfl ?_
 refine zG zE (NS.ite (fun a1=>?_) (fun a1=>?_))
 ·rw [bad (.inl (no (by have:=of_decide_eq_true a1;omega)))]
  exact zG zE (NS.ret rfl rfl (LeA.refl _))
 refine zG zE (NS.ite (fun a2=>?_) (fun a2=>?_))
 ·rw [bad (.inl (no (by have:=of_decide_eq_true a2;omega)))]
  exact zG zE (NS.ret rfl rfl (LeA.refl _))
 refine zG zE (NS.ite (fun a3=>?_) (fun a3=>?_))
 ·rw [bad (.inr (.inl (no (by have:=of_decide_eq_true a3;omega))))]
  exact zG zE (NS.ret rfl rfl (LeA.refl _))
 refine zG zE (NS.ite (fun a4=>?_) (fun a4=>?_))
 ·rw [bad (.inr (.inl (no (by have:=of_decide_eq_true a4;omega))))]
  exact zG zE (NS.ret rfl rfl (LeA.refl _))
 refine zG zE (NS.ite (fun a5=>?_) (fun a5=>?_))
 ·rw [bad (.inr (.inr (no (by have:=of_decide_eq_true a5;omega))))]
  exact zG zE (NS.ret rfl rfl (LeA.refl _))
 refine zG zE (NS.ite (fun a6=>?_) (fun a6=>?_))
 ·rw [bad (.inr (.inr (no (by have:=of_decide_eq_true a6;omega))))]
  exact zG zE (NS.ret rfl rfl (LeA.refl _))
 have b1:=of_decide_eq_false a1
 have b2:=of_decide_eq_false a2
 have b3:=of_decide_eq_false a3
 have b4:=of_decide_eq_false a4
 have b5:=of_decide_eq_false a5
 have b6:=of_decide_eq_false a6
 unfold rchkN
 rw [if_neg (by rw [inR_iff.2 ⟨by omega,by omega⟩,inR_iff.2 ⟨by omega,by omega⟩,inR_iff.2 ⟨by omega,by omega⟩];decide)]
 refine zG zE (NS.ite (fun a7=>?_) (fun a7=>?_))
 ·rw [if_pos a7]
  exact zG zE (NS.ret rfl rfl (LeA.refl _))
 rw [if_neg (by rw [show decide ((n.jour.size:Int) > 65536) = false from a7];decide)]
 refine zG zE (NS.ite (fun a8=>?_) (fun a8=>?_))
 ·rw [if_pos a8]
  refine zG zE (NS.ite (fun a9=>?_) (fun a9=>?_))
  ·rw [if_pos (of_decide_eq_true a9)]
   exact zG zE (NS.ret rfl rfl (LeA.refl _))
  ·rw [if_neg (of_decide_eq_false a9)]
   exact zG zE (NS.ret rfl rfl (LeA.refl _))
 rw [if_neg (by rw [a8];decide)]
 refine zG zE (NS.call (rRead_ok n.jour) rfl ?_)
 refine zG zE (NS.call (cf) rfl ?_)
 refine zG zE (NS.chk (by kernel_rfl) ?_)
 refine zG zE (NS.ite (fun d1=>?_) (fun d1=>?_))
 ·rw [if_pos d1]
  exact zG zE (NS.ret rfl rfl (LeA.refl _))
 rw [if_neg (by rw [d1];decide)]
 refine zG zE (NS.call (c1) rfl ?_)
 refine zG zE (NS.ite (fun d2=>?_) (fun d2=>?_))
 ·rw [if_pos d2]
  exact zG zE (NS.ret rfl rfl (LeA.refl _))
 rw [if_neg (by rw [d2];decide)]
 refine zG zE (NS.call (c2) rfl ?_)
 refine zG zE (NS.ite (fun d3=>?_) (fun d3=>?_))
 ·rw [if_pos (of_decide_eq_true d3)]
  exact zG zE (NS.ret rfl rfl (LeA.refl _))
 rw [if_neg (of_decide_eq_false d3)]
 refine zG zE (NS.call (rcCheck_ok n.ofs) rfl ?_)
 refine zG zE (NS.ite (fun d4=>?_) (fun d4=>?_))
 ·rw [if_pos d4]
  exact zG zE (NS.ret rfl rfl (LeA.refl _))
 rw [if_neg (by rw [d4];decide)]
 have hlo:n.ofs.length <= 64:=chkO_len (by simpa using d4)
 obtain ⟨D,hD⟩:∃ D,D = (jrnD n).1:=⟨_,rfl⟩
 rw [<- hD] at hj1 hj2
 rw [<- hD]
 refine zG zE ?_
 refine NS.loop (σ:={ k:Nat // k <= n.ofs.length /\ ∀ i,i < k -> (!(findM D (n.ofs.getD i default).id).2) = false }) (fun k=>[(1,.ptr 1 0),(6,.ptr 6 0),(8,.int .i64 k.1)]) (fun k=>[(1,.box n.cells),(6,.box D.cells)]) (fun k=>n.ofs.length - k.1) ⟨0,Nat.zero_le _,fun i hi=>by omega⟩ ?_ ?_
 ·exact weak_hd [] rfl ⟨rfl,rfl,rfl,trivial⟩ ⟨⟨_,rfl,renNod _ _⟩,⟨_,rfl,⟨_,_,rfl,rfl,_,_,rfl,rfl,rfl⟩⟩,trivial⟩ trivial (by kernel_rfl)
 rintro ⟨k,hk,hn⟩
 refine zG zE (NS.ite (fun h=>?_) (fun h=>?_))
 ·have h:k < n.ofs.length:=by simpa using h
  refine zG zE (NS.chk (by kernel_rfl) ?_)
  refine zG zE (NS.need (by simp;omega) ?_)
  refine zG zE (NS.call (rFind_ok' D (n.ofs.getD k default).id (by omega)) rfl ?_)
  refine zG zE (NS.ite (fun h2=>?_) (fun h2=>?_))
  ·exact zG zE (NS.leaveOut rfl zE (NS.ret rfl rfl (LeA.of (congrArg (A.int .i64) (by rw [if_pos (any_t (k:=k) h h2)])))))
  ·refine zG zE (NS.next ⟨k + 1,by omega,fun i hi=>?_⟩ (by simp;omega) ?_)
   ·by_cases hik:i = k
    ·subst hik;exact h2
    ·exact hn i (by omega)
   ·exact weak_hd [] rfl ⟨rfl,rfl,ren_int rfl (i64_k (by omega) (by omega)),trivial⟩ ⟨⟨_,rfl,renNod _ _⟩,⟨_,rfl,⟨_,_,rfl,rfl,_,_,rfl,rfl,rfl⟩⟩,trivial⟩ trivial (by kernel_rfl)
 ·have h:¬ k < n.ofs.length:=by simpa using h
  refine zG zE (NS.leave rfl zE ?_)
  exact zG zE (NS.ret rfl rfl (LeA.of (congrArg (A.int .i64) (by rw [if_neg (by rw [any_f fun i hi=>hn i (by omega)];decide)]))))
theorem jrn_ok {n:Nod} (h:(n.jour.size:Int) <= 65536):(rdJA (ls n.jour)).2.2 = 0 /\ (rdJA (ls n.jour)).1 = (rdJ (ls n.jour)).1 /\ (rdJA (ls n.jour)).2.1 = (rdJ (ls n.jour)).2 /\ (jrnD n).2 = 0 /\ (jrnD n).1 = effs (rdJ (ls n.jour)).1 ⟨[],[]⟩ /\ Good (jrnD n).1 /\ ∀ r ∈ (rdJ (ls n.jour)).1,recErr r = 0:=by
 have hl:=ls_len n.jour
 have e:rdJA (ls n.jour) = ((rdJ (ls n.jour)).1,(rdJ (ls n.jour)).2,0):=by
  unfold rdJA
  rw [if_neg (by rw [decide_eq_true_eq];omega)]
 obtain ⟨_,hr⟩:=rdJ_le (ls n.jour).length rfl (ls_lt n.jour)
 have hf:foldM (rdJ (ls n.jour)).1 = (effs (rdJ (ls n.jour)).1 ⟨[],[]⟩,0):=by
  unfold foldM
  rw [if_neg]
  rw [List.any_eq_true]
  rintro ⟨r,hr1,hr2⟩
  unfold badRec at hr2
  rw [hr r hr1] at hr2
  cases hr2
 have hj:jrnD n = (effs (rdJ (ls n.jour)).1 ⟨[],[]⟩,0):=by unfold jrnD;rw [e,hf]
 refine ⟨by rw [e],by rw [e],by rw [e],by rw [hj],by rw [hj],?_,hr⟩
 rw [hj]
 exact good_effs good_nil hr
theorem chk_eq (n:Nod) (h1:n.dur.items.length <= 1000000) (h2:n.dur.inbox.length <= 1000000) (h3:n.ofs.length <= 1000000):rchkN n = chkN n:=by
 unfold rchkN chkN
 split
 ·rfl
 rename_i hr
 have hq:inR n.quota 0 1073741824 = true:=by
  cases h:inR n.quota 0 1073741824
  ·rw [h] at hr;simp at hr
  ·rfl
 by_cases hs:(n.jour.size:Int) > 65536
 ·rw [if_pos (by simpa using hs),if_pos (by simp [hs])]
 rw [if_neg (by simpa using hs)]
 cases hu:n.up with
 | false=>
  unfold emptyN
  rw [wrap_i64 (n:=(n.dur.items.length:Int) + (n.dur.inbox.length:Int)) (by omega) (by omega),wrap_i64 (by omega) (by omega)]
  by_cases hz:(n.dur.items.length:Int) + (n.dur.inbox.length:Int) + (n.ofs.length:Int) = 0
  ·simp [hs,hz]
  ·rw [if_pos (by decide),if_pos (by omega),if_pos]
   simp [hz]
 | true=>
  obtain ⟨j1,j2,j3,j4,j5,j6,j7⟩:=jrn_ok (n:=n) (by omega)
  have hg:=(good_iff _).2 j6
  have hst:storedM n = ((((rdJA (ls n.jour)).2.1:Nat):Int) == (n.jour.size:Int) && sameD (jrnD n).1 n.dur && !decide (usedM (jrnD n).1.items > n.quota) && chkO n.ofs == 0 && !n.ofs.any fun o=>!(findM (jrnD n).1 o.id).2):=by
   unfold storedM sameD
   rw [j1,j4]
   have hc:(checkQ (jrnD n).1 n.quota == 0) = !decide (usedM (jrnD n).1.items > n.quota):=by
    unfold checkQ
    rw [if_pos hq,hg]
    by_cases h:usedM (jrnD n).1.items > n.quota
    ·simp [h]
    ·simp [h]
   rw [hc]
   simp [Bool.and_assoc]
  rw [if_neg (by decide),hst]
  by_cases e1:(((rdJA (ls n.jour)).2.1:Nat):Int) = (n.jour.size:Int)
  ·cases e2:sameD (jrnD n).1 n.dur
   ·simp [e1]
   ·by_cases e3:usedM (jrnD n).1.items > n.quota
    ·simp [e1,e3]
    ·by_cases e4:chkO n.ofs = 0
     ·cases e5:n.ofs.any fun o=>!(findM (jrnD n).1 o.id).2
      ·simp [e1,e3,e4,hs]
      ·simp [e1,e3,e4]
     ·simp [e1,e3,e4]
  ·simp [e1]
structure OkJ (n:Nod):Prop where
 sz:n.jour.size <= 65536
 rd:(rdJ (ls n.jour)).2 = n.jour.size
 du:effs (rdJ (ls n.jour)).1 ⟨[],[]⟩ = n.dur
theorem OkJ.good {n:Nod} (h:OkJ n):Good n.dur:=by
 have hs:=h.sz
 obtain ⟨_,_,_,_,j5,j6,_⟩:=jrn_ok (n:=n) (by omega)
 rw [<- h.du,<- j5];exact j6
structure Val (n:Nod):Prop where
 j:OkJ n
 up:n.up = true
 se:inR n.self 0 15 = true
 qu:inR n.quota 0 1073741824 = true
 la:inR n.last 0 (n.jour.size:Int) = true
 us:usedM n.dur.items <= n.quota
 of:chkO n.ofs = 0
 fd:∀ o ∈ n.ofs,(findM n.dur o.id).2 = true
theorem val_iff (n:Nod):(chkN n = 0 /\ n.up = true) ↔ Val n:=by
 constructor
 ·rintro ⟨h,hu⟩
  unfold chkN at h
  split at h
  ·cases h
  rename_i hr
  split at h
  ·cases h
  rename_i hs
  simp only [Bool.or_eq_true,Bool.not_eq_true',not_or,Bool.not_eq_false] at hr
  obtain ⟨⟨r1,r2⟩,r3⟩:=hr
  rw [hu] at hs
  have hsz:(n.jour.size:Int) <= 65536:=by
   simp only [Bool.or_eq_true,decide_eq_true_eq,not_or] at hs
   omega
  have hst:storedM n = true:=by
   cases q:storedM n
   ·rw [q] at hs;simp at hs
   ·rfl
  obtain ⟨j1,j2,j3,j4,j5,j6,j7⟩:=jrn_ok hsz
  unfold storedM at hst
  simp only [Bool.and_eq_true,beq_iff_eq,Bool.not_eq_true'] at hst
  obtain ⟨⟨⟨⟨⟨⟨⟨a1,a2⟩,a3⟩,a4⟩,a5⟩,a6⟩,a7⟩,a8⟩:=hst
  have hd:(jrnD n).1 = n.dur:=by
   have:=sameD_iff (a:=(jrnD n).1) (b:=n.dur)
   refine this.1 ?_
   unfold sameD
   rw [a4,a5];rfl
  refine ⟨⟨by omega,by rw [<- j3];omega,by rw [<- j5,hd]⟩,hu,r1,r2,r3,?_,a7,fun o ho=>?_⟩
  ·unfold checkQ at a6
   rw [if_pos r2,(good_iff _).2 j6] at a6
   simp only [bne_self_eq_false,Bool.false_eq_true,if_false] at a6
   rw [hd] at a6
   split at a6
   ·cases a6
   ·omega
  ·rw [List.any_eq_false] at a8
   have:=a8 o ho
   rw [hd] at this
   simpa using this
 ·rintro ⟨⟨sz,rd,du⟩,up,se,qu,la,us,of,fd⟩
  refine ⟨?_,up⟩
  obtain ⟨j1,j2,j3,j4,j5,j6,j7⟩:=jrn_ok (n:=n) (by omega)
  have hd:(jrnD n).1 = n.dur:=by rw [j5,du]
  have hst:storedM n = true:=by
   unfold storedM
   rw [j1,j3,rd,j4,hd]
   have e1:sameBy Itm.eqv n.dur.items n.dur.items = true:=(sameBy_iff (fun _ _=>Itm.eqv_iff)).2 rfl
   have e2:sameBy Itm.eqv n.dur.inbox n.dur.inbox = true:=(sameBy_iff (fun _ _=>Itm.eqv_iff)).2 rfl
   have e3:checkQ n.dur n.quota = 0:=by
    unfold checkQ
    rw [if_pos qu,(good_iff _).2 (by rw [<- hd];exact j6),if_neg (by decide),if_neg (by omega)]
   have e4:(n.ofs.any fun o=>!(findM n.dur o.id).2) = false:=by
    rw [List.any_eq_false]
    intro o ho
    rw [fd o ho];decide
   rw [e1,e2,e3,of,e4]
   simp
  unfold chkN
  rw [se,qu,la,up,hst,if_neg (by decide),if_neg]
  simp;omega
theorem OkJ.wr {n:Nod} (h:OkJ n) {r:Jrec} (hr:recErr r = 0):
  wr n r = (n,4) \/ (wr n r = (wrN n r,0) /\ OkJ (wrN n r) /\ (wrN n r).dur = effM n.dur r /\ ls (wrN n r).jour = ls n.jour ++ sealL (conL r) /\ 0 < (sealL (conL r)).length):=by
 have hg:=(good_iff _).2 h.good
 have ha:applyM n.dur r = (effM n.dur r,0):=by unfold applyM;rw [hg,hr];rfl
 unfold Go.Proofs.YtggjngbighkdgaaGreat.wr
 by_cases h1:(appM (ls n.jour) [r]).2 = 0
 ·right
  rw [if_neg (by simp [h1]),if_neg (by rw [ha];simp)]
  have h2:(encRM r).2 = 0:=by
   cases q:decide ((encRM r).2 = 0)
   ·have q:=of_decide_eq_false q
    exfalso
    unfold appM appJ at h1
    simp [q] at h1
   ·exact of_decide_eq_true q
  obtain ⟨_,hl,he⟩:=encRM_ok h2
  have e1:appJ (ls n.jour) [r] = (ls n.jour ++ sealL (conL r),0):=by
   unfold appJ
   rw [if_neg (by simp [h2]),he]
   rfl
  have e2:(ls n.jour ++ sealL (conL r)).length <= 65536:=by
   have:=appM_le h1
   unfold appM at this h1
   rw [e1] at this h1
   simp only [bne_self_eq_false,Bool.false_eq_true,if_false] at this h1
   split at h1
   ·cases h1
   ·rename_i q
    simp only [decide_eq_true_eq] at q
    omega
  have e3:(appM (ls n.jour) [r]).1 = ls n.jour ++ sealL (conL r):=by
   unfold appM
   rw [e1]
   simp only [bne_self_eq_false,Bool.false_eq_true,if_false]
   rw [if_neg (by simp only [decide_eq_true_eq];omega)]
  have e4:ls (wrN n r).jour = ls n.jour ++ sealL (conL r):=by
   show ls (bs (appM (ls n.jour) [r]).1) = _
   rw [e3,ls_bs]
   intro x hx
   rcases List.mem_append.1 hx with hx | hx
   ·exact ls_lt _ x hx
   ·rw [<- he] at hx;exact encRM_lt r x hx
  have e5:=rdJ_snoc (ls n.jour).length rfl (ls_lt n.jour) (by rw [h.rd,ls_len]) hr hl
  refine ⟨rfl,⟨?_,?_,?_⟩,?_,e4,?_⟩
  ·rw [<- ls_len,e4];exact e2
  ·rw [e4,e5,<- ls_len,e4]
  ·rw [e4,e5,effs_snoc,h.du]
   show effM n.dur r = (applyM n.dur r).1
   rw [ha]
  ·show (applyM n.dur r).1 = _
   rw [ha]
  ·have:=fstJ_enc hr hl []
   have h9:=fstJ_ok (l:=sealL (conL r) ++ []) (by
    intro x hx
    rw [List.append_nil,<- he] at hx
    exact encRM_lt r x hx) this
   exact h9.2.1
 ·left
  rw [if_pos (by simpa using h1)]
theorem chkS_zero (l:List Ofr):∀ (n k:Nat),chkS l n k = 0 ↔ ∀ i,k <= i -> i < k + n -> vOf (l.getD i default) = true /\ (0 < i -> ltO (l.getD (i - 1) default) (l.getD i default) = true)
 | 0,k=>by unfold chkS;simp;intro i h1 h2;omega
 | n + 1,k=>by
  unfold chkS
  have ih:=chkS_zero l n (k + 1)
  constructor
  ·intro h i h1 h2
   split at h
   ·cases h
   rename_i a1
   split at h
   ·cases h
   rename_i a2
   rcases Nat.eq_or_lt_of_le h1 with e | e
   ·subst e
    refine ⟨by simpa using a1,fun hk=>?_⟩
    simp only [Bool.and_eq_true,decide_eq_true_eq,Bool.not_eq_true',not_and,Bool.not_eq_false] at a2
    exact a2 hk
   ·exact ih.1 h i e (by omega)
  ·intro h
   obtain ⟨a1,a2⟩:=h k (Nat.le_refl _) (by omega)
   rw [if_neg (by rw [a1];decide),if_neg]
   ·exact ih.2 fun i h1 h2=>h i (by omega) (by omega)
   ·simp only [Bool.and_eq_true,decide_eq_true_eq,Bool.not_eq_true',not_and,Bool.not_eq_false]
    exact a2
def Ofs (l:List Ofr):Prop:=l.length <= 64 /\ (∀ o ∈ l,vOf o = true) /\ l.Pairwise ofLt
theorem ofs_iff (l:List Ofr):chkO l = 0 ↔ Ofs l:=by
 unfold chkO Ofs
 constructor
 ·intro h
  split at h
  ·cases h
  rename_i hl
  have hl:l.length <= 64:=by simp only [decide_eq_true_eq] at hl;omega
  have hs:=(chkS_zero l l.length 0).1 h
  refine ⟨hl,fun o ho=>?_,?_⟩
  ·obtain ⟨i,hi,rfl⟩:=List.getElem_of_mem ho
   have:=(hs i (Nat.zero_le _) (by omega)).1
   rwa [getD_lt hi] at this
  ·rw [List.pairwise_iff_getElem]
   intro i j hi hj hij
   induction j with
   | zero=>omega
   | succ j ih=>
    have h1:=(hs (j + 1) (Nat.zero_le _) (by omega)).2 (by omega)
    rw [show j + 1 - 1 = j from rfl,getD_lt (by omega),getD_lt hj] at h1
    have h1:=ltO_iff.1 h1
    rcases Nat.eq_or_lt_of_le (show i <= j by omega) with e | e
    ·subst e;exact h1
    ·exact ofLt_trans (ih (by omega) e) h1
 ·rintro ⟨hl,hv,hp⟩
  rw [if_neg (by simp only [decide_eq_true_eq];omega)]
  refine (chkS_zero l l.length 0).2 fun i _ hi=>?_
  have hi:i < l.length:=by omega
  rw [getD_lt hi]
  refine ⟨hv _ (List.getElem_mem hi),fun h0=>?_⟩
  rw [getD_lt (by omega)]
  rw [List.pairwise_iff_getElem] at hp
  exact ltO_iff.2 (hp (i - 1) i (by omega) hi (by omega))
theorem Ofs.filter {l:List Ofr} (h:Ofs l) (p:Ofr -> Bool):Ofs (l.filter p):=
 ⟨Nat.le_trans (List.length_filter_le _ _) h.1,fun o ho=>h.2.1 o (List.mem_filter.1 ho).1,h.2.2.sublist List.filter_sublist⟩
theorem find_iff (d:Dur) (id:Nid):(findM d id).2 = true ↔ ∃ x ∈ d.items,x.id = id:=by
 unfold findM
 rcases idx_cases (hasId id) d.items with ⟨h1,h2⟩ | ⟨k,hk,h1,h2,_⟩
 ·rw [if_neg (by omega)]
  constructor
  ·intro h;cases h
  ·rintro ⟨x,hx,rfl⟩
   have:=h2 x hx
   rw [hasId_self] at this;cases this
 ·rw [if_pos (by omega)]
  refine ⟨fun _=>⟨d.items.getD k default,by rw [getD_lt hk];exact List.getElem_mem hk,Nid.eqv_iff.1 h2⟩,fun _=>rfl⟩
theorem find_mem {d:Dur} {id:Nid} (h:(findM d id).2 = true):(findM d id).1 ∈ d.items /\ (findM d id).1.id = id:=by
 unfold findM at h ⊢
 rcases idx_cases (hasId id) d.items with ⟨h1,_⟩ | ⟨k,hk,h1,h2,_⟩
 ·rw [if_neg (by omega)] at h;cases h
 ·rw [if_pos (by omega),h1]
  show d.items.getD k default ∈ _ /\ (d.items.getD k default).id = _
  exact ⟨by rw [getD_lt hk];exact List.getElem_mem hk,Nid.eqv_iff.1 h2⟩
theorem find_eq {d:Dur} (hu:Uniq d.items) {x:Itm} (hx:x ∈ d.items):findM d x.id = (x,true):=by
 have h:(findM d x.id).2 = true:=(find_iff _ _).2 ⟨x,hx,rfl⟩
 obtain ⟨h1,h2⟩:=find_mem h
 have e:(findM d x.id).1 = x:=by
  obtain ⟨i,hi,e1⟩:=List.getElem_of_mem h1
  obtain ⟨j,hj,e2⟩:=List.getElem_of_mem hx
  rw [uniq_get] at hu
  rcases Nat.lt_trichotomy i j with hij | hij | hij
  ·exact absurd (by rw [e1,e2,h2]) (hu i j hi hj hij)
  ·subst hij;rw [<- e1,e2]
  ·exact absurd (by rw [e1,e2,h2]) (hu j i hj hi hij)
 exact Prod.ext e h
structure RecsOK (n:Nod) (e:Evt):Prop where
 put:e.kind = 1 -> ∀ r ∈ (putM n.dur n.self n.quota e.item e.time).1,recErr r = 0
 id:e.kind = 3 \/ e.kind = 6 -> recErr ⟨2,.zero,e.id,0,e.time⟩ = 0
 due:e.kind = 4 -> ∀ o ∈ (dueM n.ofs e.time).1,recErr ⟨2,.zero,o.id,0,e.time⟩ = 0
 exp:e.kind = 5 -> ∀ x ∈ n.dur.items,recErr ⟨2,.zero,x.id,0,e.time⟩ = 0
 tick:e.kind = 7 -> recErr ⟨4,.zero,e.id,e.ticket,e.time⟩ = 0
theorem OkJ.congr {n m:Nod} (h:OkJ n) (h1:m.jour = n.jour) (h2:m.dur = n.dur):OkJ m:=⟨by rw [h1];exact h.sz,by rw [h1];exact h.rd,by rw [h1,h2];exact h.du⟩
theorem items_len {n:Nod} (h:OkJ n):n.dur.items.length <= 65536 /\ n.dur.inbox.length <= 65536:=by
 have hs:=h.sz
 obtain ⟨_,_,_,_,j5,_,_⟩:=jrn_ok (n:=n) (by omega)
 have:=jrnD_len n
 rw [j5,h.du] at this
 exact this
def Agr (w w':Wst) (r:Nod × List Mb.Act × Int):Prop:=
 OkJ w'.n /\ ((w'.err = 4 /\ r.2.2 = 4) \/ (w'.err = 0 /\ r.2.2 = 0 /\ r.1 = w'.n /\ w'.acts = w.acts ++ r.2.1 /\ Val w'.n))
def Fin (w:Wst) (r:Nod × List Mb.Act × Int):Prop:=OkJ w.n /\ ((w.err = 4 /\ r.2.2 = 4) \/ (w.err = 0 /\ r = (w.n,w.acts,0) /\ Val w.n))
theorem Agr.fin {w w':Wst} {r:Nod × List Mb.Act × Int} (h:Agr w w' r) (ha:w.acts = []):Fin w' r:=by
 obtain ⟨h1,h2⟩:=h
 refine ⟨h1,?_⟩
 rcases h2 with h2 | ⟨e1,e2,e3,e4,e5⟩
 ·exact .inl h2
 ·refine .inr ⟨e1,?_,e5⟩
  obtain ⟨a,b,c⟩:=r
  simp only at e2 e3 e4
  rw [e4,ha,e2,e3,List.nil_append]
theorem Val.fin {w:Wst} (h:Val w.n) (ha:w.acts = []) (he:w.err = 0):Fin w (w.n,[],0):=⟨h.j,.inr ⟨he,by rw [ha],h⟩⟩
theorem ofLt_tri {a b:Ofr} (h:¬ ofLt a b) (hk:ofKey b.id b.contact a = false):ofLt b a:=by
 unfold ofLt at h ⊢
 rcases idLt_tri a.id b.id with q | q | q
 ·exact absurd (.inl q) h
 ·exact .inl q
 ·right
  refine ⟨q.symm,?_⟩
  have h1:¬ a.contact < b.contact:=fun r=>h (.inr ⟨q,r⟩)
  have h2:a.contact ≠ b.contact:=by
   intro r
   unfold ofKey at hk
   rw [q,Nid.eqv_iff.2 rfl,r] at hk
   simp at hk
  omega
theorem Ofs.insert {l:List Ofr} (h:Ofs l) {o:Ofr} (hv:vOf o = true) (hn:l.any (ofKey o.id o.contact) = false) (hl:l.length ≠ 64):Ofs (l.filter (fun p=>ltO p o) ++ [o] ++ l.filter (nt fun p=>ltO p o)):=by
 obtain ⟨h1,h2,h3⟩:=h
 have ht:=filt_two (fun p=>ltO p o) l
 refine ⟨by simp only [List.length_append,List.length_singleton];omega,fun p hp=>?_,?_⟩
 ·simp only [List.mem_append,List.mem_singleton] at hp
  rcases hp with (hp | hp) | hp
  ·exact h2 p (List.mem_filter.1 hp).1
  ·rw [hp];exact hv
  ·exact h2 p (List.mem_filter.1 hp).1
 ·have b1:∀ p ∈ l.filter (fun p=>ltO p o),ofLt p o:=fun p hp=>ltO_iff.1 (List.mem_filter.1 hp).2
  have b2:∀ p ∈ l.filter (nt fun p=>ltO p o),ofLt o p:=by
   intro p hp
   obtain ⟨p1,p2⟩:=List.mem_filter.1 hp
   have p2:ltO p o = false:=by unfold nt at p2;simpa using p2
   refine ofLt_tri (fun q=>by rw [ltO_iff.2 q] at p2;cases p2) ?_
   rw [List.any_eq_false] at hn
   simpa using hn p p1
  rw [List.append_assoc,List.pairwise_append]
  refine ⟨h3.sublist List.filter_sublist,?_,?_⟩
  ·rw [List.singleton_append,List.pairwise_cons]
   exact ⟨b2,h3.sublist List.filter_sublist⟩
  ·intro p hp q hq
   rcases List.mem_cons.1 hq with rfl | hq
   ·exact b1 p hp
   ·exact ofLt_trans (b1 p hp) (b2 q hq)
theorem zero3:¬ ((0:Int) != 0) = true:=Bool.false_ne_true
def nod0 (a b:Nat):Nod:=⟨((a % 16:Nat):Int),(b:Int),true,.empty,0,⟨[],[]⟩,[]⟩
theorem val0 (a b:Nat) (hb:b < 256):Val (nod0 a b):=by
 have hls:ls (nod0 a b).jour = []:=rfl
 have hr:rdJ ([]:List Nat) = ([],0):=by
  rw [rdJ_eq (fun x hx=>by cases hx)]
  rfl
 refine ⟨⟨Nat.zero_le _,by rw [hls,hr];rfl,by rw [hls,hr];rfl⟩,rfl,inR_iff.2 ⟨Int.natCast_nonneg _,?_⟩,inR_iff.2 ⟨Int.natCast_nonneg _,?_⟩,by rfl,?_,by rfl,fun o ho=>by cases ho⟩
 ·show ((a % 16:Nat):Int) <= 15
  omega
 ·show ((b:Nat):Int) <= _
  omega
 ·show usedM [] <= ((b:Nat):Int)
  exact Int.natCast_nonneg _
theorem val_szn {n:Nod} (h:Val n):Szn n 0:=by
 obtain ⟨h1,h2⟩:=items_len h.j
 exact ⟨by omega,by omega,Nat.le_trans h.j.sz (by decide),by have:=((ofs_iff _).1 h.of).1;omega⟩
theorem val_chk {n:Nod} (h:Val n):chkN n = 0:=((val_iff n).2 h).1
theorem hand_go {n:Nod} (h:Val n) (e:Evt):handM n e = goM n e:=by
 unfold handM
 rw [if_neg (by rw [val_chk h];exact zero3)]
theorem hand_ok {n:Nod} (h:Val n) (e:Evt):FnOK Tryz.prog 27 [.agg n.cells,.agg e.cells] (nodA (goM n e),none):=by
 rw [<- hand_go h e]
 exact nHandle_ok n e ((val_szn h).le (by omega))
structure Grow (n n':Nod) (r:Jrec):Prop where
 jour:ls n'.jour = ls n.jour ++ sealL (conL r)
 last:n'.last = (n'.jour.size:Int)
 self:n'.self = n.self
 quota:n'.quota = n.quota
 ofs:n'.ofs = n.ofs
inductive PutR (n n':Nod) (x:Itm) (t:Int):Int -> Int -> Prop
 | old:n' = n -> PutR n n' x t 3 5
 | full:n' = n -> PutR n n' x t 3 4
 | dupo:n' = n -> (findM n.dur x.id).2 = true -> PutR n n' x t 3 3
 | dup:n' = n -> (findM n.dur x.id).2 = true \/ n.dur.inbox.any (hasId x.id) = true -> PutR n n' x t 2 3
 | box:n'.dur = ⟨n.dur.items,n.dur.inbox ++ [x]⟩ -> x.dest = n.self -> Grow n n' ⟨3,x,.zero,0,t⟩ -> PutR n n' x t 2 2
 | item:n'.dur = ⟨n.dur.items ++ [x],n.dur.inbox⟩ -> Grow n n' ⟨1,x,.zero,0,t⟩ -> PutR n n' x t 2 1
theorem idx_ge {α:Type} [Inhabited α] (p:α -> Bool) (l:List α):(0 <= idx p l) ↔ l.any p = true:=by
 rw [<- idx_any,decide_eq_true_eq]
structure Rem (n n':Nod) (t:Int) (x:Itm):Prop where
 dur:n'.dur = ⟨n.dur.items.filter (notId x.id),n.dur.inbox⟩
 jour:ls n'.jour = ls n.jour ++ sealL (conL ⟨2,.zero,x.id,0,t⟩)
 self:n'.self = n.self
 quota:n'.quota = n.quota
 last:n'.last = n.last
 ofs:n'.ofs = n.ofs.filter (nt (ofId x.id))
def is5 (c:Mb.Act):Bool:=c.kind == 5
structure Run (P:Itm -> Prop) (n n':Nod) (a:List Mb.Act):Prop where
 self:n'.self = n.self
 quota:n'.quota = n.quota
 last:n'.last = n.last
 box:n'.dur.inbox = n.dur.inbox
 jour:∃ s,ls n'.jour = ls n.jour ++ s
 kinds:∀ c ∈ a,c.kind = 4 \/ c.kind = 5
 gone:∃ G:List Itm,n'.dur.items = n.dur.items.filter (fun x=>!G.any (hasId x.id)) /\ Uniq G /\ (∀ y ∈ G,y ∈ n.dur.items /\ P y) /\ a.filter is5 = G.map (fun y=>⟨5,y,0,0⟩)
theorem Run.same {P:Itm -> Prop} {n n':Nod} (h1:n'.self = n.self) (h2:n'.quota = n.quota) (h3:n'.last = n.last) (h4:n'.dur = n.dur) (h5:n'.jour = n.jour):Run P n n' []:=
 ⟨h1,h2,h3,by rw [h4],⟨[],by rw [h5,List.append_nil]⟩,(fun c hc=>by cases hc),⟨[],by
  rw [h4]
  exact (List.filter_eq_self.2 (fun _ _=>rfl)).symm,List.Pairwise.nil,(fun y hy=>by cases hy),rfl⟩⟩
theorem Run.keep {P:Itm -> Prop} {n n':Nod} {a:List Mb.Act} (h:Run P n n' a) (x:Itm):Run P n n' (a ++ [⟨4,x,0,0⟩]):=by
 refine ⟨h.self,h.quota,h.last,h.box,h.jour,fun c hc=>?_,?_⟩
 ·rcases List.mem_append.1 hc with q | q
  ·exact h.kinds c q
  ·rw [List.mem_singleton.1 q];exact .inl rfl
 ·obtain ⟨G,g1,g2,g3,g4⟩:=h.gone
  refine ⟨G,g1,g2,g3,?_⟩
  rw [List.filter_append,g4]
  simp [is5]
theorem any_id {G:List Itm} {id:Nid}:G.any (hasId id) = true ↔ ∃ y ∈ G,y.id = id:=by
 rw [List.any_eq_true]
 refine exists_congr fun y=>and_congr Iff.rfl ?_
 unfold hasId
 rw [Nid.eqv_iff]
theorem Run.rem {P:Itm -> Prop} {n m n':Nod} {a:List Mb.Act} (h:Run P n m a) {t:Int} {x:Itm} (hx:x ∈ m.dur.items) (hP:P x) (hr:Rem m n' t x):Run P n n' (a ++ [⟨5,x,0,0⟩]):=by
 obtain ⟨s,hs⟩:=h.jour
 refine ⟨hr.self.trans h.self,hr.quota.trans h.quota,hr.last.trans h.last,?_,⟨s ++ sealL (conL ⟨2,.zero,x.id,0,t⟩),by rw [hr.jour,hs,List.append_assoc]⟩,fun c hc=>?_,?_⟩
 ·rw [hr.dur];exact h.box
 ·rcases List.mem_append.1 hc with q | q
  ·exact h.kinds c q
  ·rw [List.mem_singleton.1 q];exact .inr rfl
 ·obtain ⟨G,g1,g2,g3,g4⟩:=h.gone
  rw [g1,List.mem_filter] at hx
  obtain ⟨x1,x2⟩:=hx
  have x2:G.any (hasId x.id) = false:=by simpa using x2
  refine ⟨G ++ [x],?_,?_,?_,?_⟩
  ·rw [hr.dur]
   show m.dur.items.filter _ = _
   rw [g1,List.filter_filter]
   refine List.filter_congr fun y _=>?_
   rw [List.any_append,Bool.not_or,Bool.and_comm]
   congr 1
   unfold notId
   simp only [List.any_cons,List.any_nil,Bool.or_false]
   congr 1
   unfold hasId
   rw [Bool.eq_iff_iff,Nid.eqv_iff,Nid.eqv_iff]
   exact eq_comm
  ·unfold Uniq at g2 ⊢
   rw [List.map_append,List.pairwise_append]
   refine ⟨g2,by simp,?_⟩
   intro i hi j hj
   rw [List.map_singleton,List.mem_singleton] at hj
   obtain ⟨y,hy,rfl⟩:=List.mem_map.1 hi
   rw [hj]
   intro q
   rw [any_id.2 ⟨y,hy,q⟩] at x2
   cases x2
  ·intro y hy
   rcases List.mem_append.1 hy with q | q
   ·exact g3 y q
   ·rw [List.mem_singleton.1 q];exact ⟨x1,hP⟩
  ·rw [List.filter_append,g4,List.map_append]
   simp [is5]
def isNew (c:Mb.Act):Bool:=c.kind == 2 && c.value != 3
structure Step (n n':Nod) (a:List Mb.Act):Prop where
 self:n'.self = n.self
 quota:n'.quota = n.quota
 box:n'.dur.inbox = n.dur.inbox \/ ∃ x:Itm,n'.dur.inbox = n.dur.inbox ++ [x] /\ x.dest = n.self
 jour:∃ s,ls n'.jour = ls n.jour ++ s
 last:n'.last = if a.any isNew then (n'.jour.size:Int) else (n.jour.size:Int)
def durM (s:ByteArray):Dur × Nat × Int:=
 if (rdJA (ls s)).2.2 != 0 then (⟨[],[]⟩,0,(rdJA (ls s)).2.2) else if (foldM (rdJA (ls s)).1).2 != 0 then (⟨[],[]⟩,0,(foldM (rdJA (ls s)).1).2)
 else ((foldM (rdJA (ls s)).1).1,(rdJA (ls s)).2.1,0)
def durA3 (r:Dur × Nat × Int):A:=.tup [.agg r.1.cells,.int .i64 (r.2.1:Nat),.int .i64 r.2.2]
theorem durA3_le {r:Dur × Nat × Int} {d:Dur} {k:Nat} {e:Int} (h:r = (d,k,e)) {x y z:A} (h1:LeA x (.agg d.cells)) (h2:LeA y (.int .i64 (k:Nat))) (h3:LeA z (.int .i64 e)):LeA (.tup [x,y,z]) (durA3 r):=by
 subst h;exact LeA.tup3 h1 h2 h3
theorem zeroD_le {a:List A} (h:a = [.nils,.nils]):LeA (.agg a) (.agg (⟨[],[]⟩:Dur).cells):=by
 subst h;exact LeA.agg (LeL.cons (LeA.nil' rfl) (LeL.cons (LeA.nil' rfl) LeL.nil))
theorem recDur_ok (s:ByteArray):FnOK Tryz.prog 51 [.str s] (durA3 (durM s),none):=by
 have hl:=rdJA_len (ls s)
 have cf:=fold_ok (rdJA (ls s)).1 (by omega)
 refine fn_ok CF rfl (by kernel_rfl) Tryz.func51 rfl ?_
 refine zG zE (NS.call (read_ok s) rfl ?_)
 refine zG zE (NS.ite (fun a1=>?_) (fun a1=>?_))
 ·exact zG zE (NS.ret rfl rfl (durA3_le (if_pos a1) (zeroD_le rfl) (LeA.refl _) (LeA.refl _)))
 refine zG zE (NS.call (cf) rfl ?_)
 refine zG zE (NS.ite (fun a2=>?_) (fun a2=>?_))
 ·exact zG zE (NS.ret rfl rfl (durA3_le ((if_neg (by rw [a1];decide)).trans (if_pos a2)) (zeroD_le rfl) (LeA.refl _) (LeA.refl _)))
 ·exact zG zE (NS.ret rfl rfl (durA3_le ((if_neg (by rw [a1];decide)).trans (if_neg (by rw [a2];decide))) (LeA.refl _) (LeA.refl _) (LeA.refl _)))
theorem durM_ok {s:ByteArray} (h:(s.size:Int) <= 65536):durM s = (effs (rdJ (ls s)).1 ⟨[],[]⟩,(rdJ (ls s)).2,0) /\ (rdJA (ls s)).2.2 = 0 /\ (foldM (rdJA (ls s)).1).2 = 0 /\ Good (effs (rdJ (ls s)).1 ⟨[],[]⟩):=by
 obtain ⟨j1,j2,j3,j4,j5,j6,_⟩:=jrn_ok (n:=⟨0,0,false,s,0,⟨[],[]⟩,[]⟩) h
 have j1:(rdJA (ls s)).2.2 = 0:=j1
 have j3:(rdJA (ls s)).2.1 = (rdJ (ls s)).2:=j3
 have j4:(foldM (rdJA (ls s)).1).2 = 0:=j4
 have j5:(foldM (rdJA (ls s)).1).1 = effs (rdJ (ls s)).1 ⟨[],[]⟩:=j5
 refine ⟨?_,j1,j4,by rw [<- j5];exact j6⟩
 unfold durM
 rw [if_neg (by rw [j1];decide),if_neg (by rw [j4];decide),j5,j3]
theorem refDur_ok (s:ByteArray):FnOK Tryz.prog 52 [.str s] (durA3 (durM s),none):=by
 have hl:=rdJA_len (ls s)
 have cf:=rFold_ok (rdJA (ls s)).1 (by omega)
 by_cases hb:(s.size:Int) > 65536
 ·have e:rdJA (ls s) = ([],0,4):=by unfold rdJA;rw [ls_len,if_pos (decide_eq_true hb)]
  refine fn_ok CF rfl (by kernel_rfl) Tryz.func52 rfl ?_
  refine zG zE (NS.call (rRead_ok s) rfl ?_)
  refine zG zE (NS.yes (by rw [e];rfl) ?_)
  exact zG zE (NS.ret rfl rfl (durA3_le (d:=⟨[],[]⟩) (k:=0) (e:=4) (by unfold durM;rw [e];rfl) (zeroD_le rfl) (LeA.refl _) (LeA.refl _)))
 ·obtain ⟨h1,h2,h3,_⟩:=durM_ok (s:=s) (by omega)
  refine fn_ok CF rfl (by kernel_rfl) Tryz.func52 rfl ?_
  refine zG zE (NS.call (rRead_ok s) rfl ?_)
  refine zG zE (NS.no (by rw [h2];rfl) ?_)
  refine zG zE (NS.call (cf) rfl ?_)
  exact zG zE (NS.ret rfl rfl (durA3_le (by unfold durM;rw [if_neg (by rw [h2];decide),if_neg (by rw [h3];decide)]) (LeA.refl _) (LeA.refl _) (LeA.refl _)))
def keepI (n:Nod) (k:Int):Int:=if (n.jour.size:Int) - n.last < (if (0:Int) > k then 0 else k) then (n.jour.size:Int) - n.last else (if (0:Int) > k then 0 else k)
def crashM (n:Nod) (k:Int):Nod × Int:=
 if chkN n != 0 then (zeroN,1) else if !n.up then (zeroN,29) else (⟨n.self,n.quota,false,n.jour.extract 0 (n.last + keepI n k).toNat,n.last,⟨[],[]⟩,[]⟩,0)
def nodE (r:Nod × Int):A:=.tup [.agg r.1.cells,.int .i64 r.2]
theorem nodE_le {r:Nod × Int} {n:Nod} {e:Int} (h:r = (n,e)) {x y:A} (h1:LeA x (.agg n.cells)) (h2:LeA y (.int .i64 e)):LeA (.tup [x,y]) (nodE r):=by
 subst h;exact LeA.tup2 h1 h2
theorem chkN_last {n:Nod} (h:chkN n = 0):0 <= n.last /\ n.last <= (n.jour.size:Int) /\ (n.jour.size:Int) <= 65536 /\ inR n.self 0 15 = true /\ inR n.quota 0 1073741824 = true:=by
 unfold chkN at h
 split at h
 ·cases h
 rename_i hr
 split at h
 ·cases h
 rename_i hs
 simp only [Bool.or_eq_true,Bool.not_eq_true',not_or,Bool.not_eq_false] at hr
 obtain ⟨⟨r1,r2⟩,r3⟩:=hr
 obtain ⟨r4,r5⟩:=inR_iff.1 r3
 simp only [Bool.or_eq_true,decide_eq_true_eq,not_or] at hs
 exact ⟨r4,r5,by omega,r1,r2⟩
theorem keepI_in {n:Nod} (h:chkN n = 0) (k:Int):0 <= keepI n k /\ keepI n k <= (n.jour.size:Int) - n.last /\ IntKind.i64.wrap ((n.jour.size:Int) - n.last) = (n.jour.size:Int) - n.last /\ IntKind.i64.wrap (n.last + keepI n k) = n.last + keepI n k:=by
 obtain ⟨h1,h2,h3,_⟩:=chkN_last h
 have h4:0 <= keepI n k /\ keepI n k <= (n.jour.size:Int) - n.last:=by
  unfold keepI
  split <;> split <;> omega
 exact ⟨h4.1,h4.2,wrap_i64 (by omega) (by omega),wrap_i64 (by omega) (by omega)⟩
theorem crash_le {a:List A} {n:Nod} {k q:Int} (hq:q = n.last + keepI n k) (h:a = [.int .i64 n.self,.int .i64 n.quota,.bool false,.str (n.jour.extract (Int.toNat 0) (Int.toNat q)),.int .i64 n.last,.nils,.nils,.nils]):LeA (.agg a) (.agg (⟨n.self,n.quota,false,n.jour.extract 0 (n.last + keepI n k).toNat,n.last,⟨[],[]⟩,[]⟩:Nod).cells):=by
 subst h hq
 exact LeA.agg (LeL.cons (LeA.refl _) (LeL.cons (LeA.refl _) (LeL.cons (LeA.refl _) (LeL.cons (LeA.refl _) (LeL.cons (LeA.refl _) (LeL.cons (LeA.nil' rfl) (LeL.cons (LeA.nil' rfl) (LeL.cons (LeA.nil' rfl) LeL.nil))))))))
theorem recCrash_ok (n:Nod) (k:Int) (h1:n.dur.items.length <= 1000000) (h2:n.dur.inbox.length <= 1000000) (h3:n.ofs.length <= 1000000):FnOK Tryz.prog 55 [.agg n.cells,.int .i64 k] (nodE (crashM n k),none):=by
 refine fn_ok CF rfl (by kernel_rfl) Tryz.func55 rfl ?_
 refine zG zE (NS.call (nCheck_ok n h1 h2 h3) rfl ?_)
 refine zG zE (NS.ite (fun a1=>?_) (fun a1=>?_))
 ·exact zG zE (NS.ret rfl rfl (nodE_le (if_pos a1) (zeroN_le rfl) (LeA.refl _)))
 refine zG zE (NS.ite (fun a2=>?_) (fun a2=>?_))
 ·exact zG zE (NS.ret rfl rfl (nodE_le ((if_neg (by rw [a1];decide)).trans (if_pos a2)) (zeroN_le rfl) (LeA.refl _)))
 have hc:chkN n = 0:=by have a1:(chkN n != 0) = false:=a1;simpa using a1
 obtain ⟨k1,k2,k3,k4⟩:=keepI_in hc k
 obtain ⟨r1,r2,r3,_⟩:=chkN_last hc
 have hq:IntKind.i64.wrap (n.last + (if IntKind.i64.wrap ((n.jour.size:Int) - n.last) < (if (0:Int) > k then 0 else k) then IntKind.i64.wrap ((n.jour.size:Int) - n.last) else (if (0:Int) > k then 0 else k))) = n.last + keepI n k:=by rw [k3];exact k4
 refine zG zE (NS.need (decide_eq_true (by show 0 <= (0:Int) /\ 0 <= IntKind.i64.wrap (n.last + (if IntKind.i64.wrap ((n.jour.size:Int) - n.last) < (if (0:Int) > k then 0 else k) then IntKind.i64.wrap ((n.jour.size:Int) - n.last) else (if (0:Int) > k then 0 else k))) /\ IntKind.i64.wrap (n.last + (if IntKind.i64.wrap ((n.jour.size:Int) - n.last) < (if (0:Int) > k then 0 else k) then IntKind.i64.wrap ((n.jour.size:Int) - n.last) else (if (0:Int) > k then 0 else k))) <= (n.jour.size:Int);rw [hq];omega)) ?_)
 exact zG zE (NS.ret rfl rfl (nodE_le ((if_neg (by rw [a1];decide)).trans (if_neg (by rw [show (!n.up) = false from a2];decide))) (crash_le hq rfl) (LeA.refl _)))
theorem refCrash_ok (n:Nod) (k:Int) (h1:n.dur.items.length <= 1000000) (h2:n.dur.inbox.length <= 1000000) (h3:n.ofs.length <= 1000000):FnOK Tryz.prog 57 [.agg n.cells,.int .i64 k] (nodE (crashM n k),none):=by
 have cc:=rCheckN_ok n h1 h2
 rw [chk_eq n h1 h2 h3] at cc
 refine fn_ok CF rfl (by kernel_rfl) Tryz.func57 rfl ?_
 refine zG zE (NS.call (cc) rfl ?_)
 refine zG zE (NS.ite (fun a1=>?_) (fun a1=>?_))
 ·exact zG zE (NS.ret rfl rfl (nodE_le (if_pos a1) (zeroN_le rfl) (LeA.refl _)))
 refine zG zE (NS.ite (fun a2=>?_) (fun a2=>?_))
 ·exact zG zE (NS.ret rfl rfl (nodE_le ((if_neg (by rw [a1];decide)).trans (if_pos a2)) (zeroN_le rfl) (LeA.refl _)))
 have hc:chkN n = 0:=by have a1:(chkN n != 0) = false:=a1;simpa using a1
 obtain ⟨k1,k2,k3,k4⟩:=keepI_in hc k
 obtain ⟨r1,r2,r3,_⟩:=chkN_last hc
 have hq:IntKind.i64.wrap (n.last + (if IntKind.i64.wrap ((n.jour.size:Int) - n.last) < (if (0:Int) > k then 0 else k) then IntKind.i64.wrap ((n.jour.size:Int) - n.last) else (if (0:Int) > k then 0 else k))) = n.last + keepI n k:=by rw [k3];exact k4
 refine zG zE (NS.chk (by kernel_rfl) ?_)
 refine zG zE (NS.need (decide_eq_true (by show 0 <= (0:Int) /\ 0 <= IntKind.i64.wrap (n.last + (if IntKind.i64.wrap ((n.jour.size:Int) - n.last) < (if (0:Int) > k then 0 else k) then IntKind.i64.wrap ((n.jour.size:Int) - n.last) else (if (0:Int) > k then 0 else k))) /\ IntKind.i64.wrap (n.last + (if IntKind.i64.wrap ((n.jour.size:Int) - n.last) < (if (0:Int) > k then 0 else k) then IntKind.i64.wrap ((n.jour.size:Int) - n.last) else (if (0:Int) > k then 0 else k))) <= (n.jour.size:Int);rw [hq];omega)) ?_)
 exact zG zE (NS.ret rfl rfl (nodE_le ((if_neg (by rw [a1];decide)).trans (if_neg (by rw [show (!n.up) = false from a2];decide))) (crash_le hq rfl) (LeA.refl _)))
def itK (l:List Jrec):Nat -> Nid -> Option (Nat × Int)
 | 0,_=>none
 | k + 1,id=>
  if (l.getD k default).kind == 1 then
   if (l.getD k default).item.id = id /\ (itK l k id).isNone = true then some (k,(l.getD k default).item.ticket) else itK l k id
  else if (l.getD k default).kind == 2 then
   if (l.getD k default).id = id then none else itK l k id
  else if (l.getD k default).kind == 4 then
   if (l.getD k default).id = id then (itK l k id).map (fun p=>(p.1,(l.getD k default).ticket)) else itK l k id
  else itK l k id
def inK (l:List Jrec):Nat -> Nid -> Option (Nat × Int)
 | 0,_=>none
 | k + 1,id=>
  if (l.getD k default).kind == 3 then
   if (l.getD k default).item.id = id /\ (inK l k id).isNone = true then some (k,(l.getD k default).item.ticket) else inK l k id
  else inK l k id
def withT (r:Jrec) (t:Int):Jrec:={ r with item:={ r.item with ticket:=t } }
def endK (l:List Jrec) (i:Nat):Option (Nat × Int):=if (l.getD i default).kind == 3 then inK l l.length (l.getD i default).item.id else itK l l.length (l.getD i default).item.id
def keptR (l:List Jrec) (i:Nat):List Jrec:=match endK l i with
 | none=>[]
 | some (j,t)=>if j = i then [withT (l.getD i default) t] else []
def compK (l:List Jrec):Nat -> List Jrec
 | 0=>[]
 | k + 1=>compK l k ++ keptR l k
def compM (l:List Jrec):List Jrec:=compK l l.length
theorem itK_lt {l:List Jrec} {id:Nid}:∀ {k j:Nat} {t:Int},itK l k id = some (j,t) -> j < k
 | 0,j,t,h=>by cases h
 | k + 1,j,t,h=>by
  have ih:∀ {j:Nat} {t:Int},itK l k id = some (j,t) -> j < k:=fun h=>itK_lt h
  unfold itK at h
  split at h
  ·split at h
   ·simp only [Option.some.injEq,Prod.mk.injEq] at h;omega
   ·have:=ih h;omega
  ·split at h
   ·split at h
    ·cases h
    ·have:=ih h;omega
   ·split at h
    ·split at h
     ·cases e:itK l k id with
      | none=>rw [e] at h;cases h
      | some p=>
       rw [e] at h
       simp only [Option.map_some,Option.some.injEq,Prod.mk.injEq] at h
       have:=ih (j:=p.1) (t:=p.2) e
       omega
     ·have:=ih h;omega
    ·have:=ih h;omega
theorem inK_lt {l:List Jrec} {id:Nid}:∀ {k j:Nat} {t:Int},inK l k id = some (j,t) -> j < k
 | 0,j,t,h=>by cases h
 | k + 1,j,t,h=>by
  have ih:∀ {j:Nat} {t:Int},inK l k id = some (j,t) -> j < k:=fun h=>inK_lt h
  unfold inK at h
  split at h
  ·split at h
   ·simp only [Option.some.injEq,Prod.mk.injEq] at h;omega
   ·have:=ih h;omega
  ·have:=ih h;omega
theorem itK_at {l:List Jrec} {id:Nid}:∀ {k j:Nat} {t:Int},itK l k id = some (j,t) -> (l.getD j default).kind = 1 /\ (l.getD j default).item.id = id /\ itK l j id = none
 | 0,j,t,h=>by cases h
 | k + 1,j,t,h=>by
  have ih:∀ {j:Nat} {t:Int},itK l k id = some (j,t) -> (l.getD j default).kind = 1 /\ (l.getD j default).item.id = id /\ itK l j id = none:=fun h=>itK_at h
  unfold itK at h
  split at h
  ·rename_i hk
   split at h
   ·rename_i hi
    simp only [Option.some.injEq,Prod.mk.injEq] at h
    obtain ⟨rfl,_⟩:=h
    exact ⟨by simpa using hk,hi.1,by simpa using hi.2⟩
   ·exact ih h
  ·split at h
   ·split at h
    ·cases h
    ·exact ih h
   ·split at h
    ·split at h
     ·cases e:itK l k id with
      | none=>rw [e] at h;cases h
      | some p=>
       rw [e] at h
       simp only [Option.map_some,Option.some.injEq,Prod.mk.injEq] at h
       obtain ⟨rfl,_⟩:=h
       exact ih (j:=p.1) (t:=p.2) e
     ·exact ih h
    ·exact ih h
theorem inK_at {l:List Jrec} {id:Nid}:∀ {k j:Nat} {t:Int},inK l k id = some (j,t) -> (l.getD j default).kind = 3 /\ (l.getD j default).item.id = id /\ inK l j id = none /\ t = (l.getD j default).item.ticket
 | 0,j,t,h=>by cases h
 | k + 1,j,t,h=>by
  have ih:∀ {j:Nat} {t:Int},inK l k id = some (j,t) -> (l.getD j default).kind = 3 /\ (l.getD j default).item.id = id /\ inK l j id = none /\ t = (l.getD j default).item.ticket:=fun h=>inK_at h
  unfold inK at h
  split at h
  ·rename_i hk
   split at h
   ·rename_i hi
    simp only [Option.some.injEq,Prod.mk.injEq] at h
    obtain ⟨rfl,h2⟩:=h
    exact ⟨by simpa using hk,hi.1,by simpa using hi.2,h2.symm⟩
   ·exact ih h
  ·exact ih h
theorem inK_keep {l:List Jrec} {id:Nid} {k j:Nat} {t:Int} (h:inK l k id = some (j,t)):∀ m,inK l (k + m) id = some (j,t)
 | 0=>h
 | m + 1=>by
  have ih:=inK_keep h m
  show inK l (k + m + 1) id = _
  unfold inK
  rw [ih]
  split
  ·rw [if_neg (by simp)]
  ·rfl
theorem flatMap_congr' {α β:Type} {f g:α -> List β}:∀ {l:List α},(∀ x ∈ l,f x = g x) -> l.flatMap f = l.flatMap g
 | [],_=>rfl
 | a :: l,h=>by
  rw [List.flatMap_cons,List.flatMap_cons,h a (by simp),flatMap_congr' fun x hx=>h x (List.mem_cons_of_mem _ hx)]
theorem filter_flatMap' {α β:Type} {f:α -> List β} {p:β -> Bool}:∀ {l:List α},(l.flatMap f).filter p = l.flatMap fun x=>(f x).filter p
 | []=>rfl
 | a :: l=>by rw [List.flatMap_cons,List.flatMap_cons,List.filter_append,filter_flatMap']
theorem map_flatMap' {α β γ:Type} {f:α -> List β} {g:β -> γ}:∀ {l:List α},(l.flatMap f).map g = l.flatMap fun x=>(f x).map g
 | []=>rfl
 | a :: l=>by rw [List.flatMap_cons,List.flatMap_cons,List.map_append,map_flatMap']
def itmT (x:Itm) (t:Int):Itm:={ x with ticket:=t }
def pcI (l:List Jrec) (k j:Nat):List Itm:=match itK l k (l.getD j default).item.id with
 | none=>[]
 | some (i,t)=>if i = j then [itmT (l.getD j default).item t] else []
def pcB (l:List Jrec) (k j:Nat):List Itm:=match inK l k (l.getD j default).item.id with
 | none=>[]
 | some (i,t)=>if i = j then [itmT (l.getD j default).item t] else []
def itL (l:List Jrec) (k:Nat):List Itm:=(List.range k).flatMap (pcI l k)
def inL (l:List Jrec) (k:Nat):List Itm:=(List.range k).flatMap (pcB l k)
theorem pcI_mem {l:List Jrec} {k j:Nat} {x:Itm} (h:x ∈ pcI l k j):∃ t,itK l k (l.getD j default).item.id = some (j,t) /\ x = itmT (l.getD j default).item t:=by
 unfold pcI at h
 split at h
 ·cases h
 ·rename_i i t e
  split at h
  ·rename_i hij
   subst hij
   exact ⟨t,e,by simpa using h⟩
  ·cases h
theorem pcB_mem {l:List Jrec} {k j:Nat} {x:Itm} (h:x ∈ pcB l k j):∃ t,inK l k (l.getD j default).item.id = some (j,t) /\ x = itmT (l.getD j default).item t:=by
 unfold pcB at h
 split at h
 ·cases h
 ·rename_i i t e
  split at h
  ·rename_i hij
   subst hij
   exact ⟨t,e,by simpa using h⟩
  ·cases h
theorem pcI_of {l:List Jrec} {k j:Nat} {t:Int} (h:itK l k (l.getD j default).item.id = some (j,t)):pcI l k j = [itmT (l.getD j default).item t]:=by
 unfold pcI;rw [h];simp
theorem pcB_of {l:List Jrec} {k j:Nat} {t:Int} (h:inK l k (l.getD j default).item.id = some (j,t)):pcB l k j = [itmT (l.getD j default).item t]:=by
 unfold pcB;rw [h];simp
theorem itL_any (l:List Jrec) (k:Nat) (id:Nid):(itL l k).any (hasId id) = (itK l k id).isSome:=by
 rw [Bool.eq_iff_iff,List.any_eq_true]
 constructor
 ·rintro ⟨x,hx,hi⟩
  unfold itL at hx
  rw [List.mem_flatMap] at hx
  obtain ⟨j,_,hx⟩:=hx
  obtain ⟨t,e,rfl⟩:=pcI_mem hx
  have hi:(l.getD j default).item.id = id:=Nid.eqv_iff.1 hi
  rw [hi] at e
  rw [e];rfl
 ·intro h
  cases e:itK l k id with
  | none=>rw [e] at h;cases h
  | some p=>
   obtain ⟨j,t⟩:=p
   obtain ⟨_,hi,_⟩:=itK_at e
   have e2:=e
   rw [<- hi] at e2
   refine ⟨itmT (l.getD j default).item t,?_,Nid.eqv_iff.2 hi⟩
   unfold itL
   rw [List.mem_flatMap]
   exact ⟨j,List.mem_range.2 (itK_lt e),by rw [pcI_of e2];simp⟩
theorem inL_any (l:List Jrec) (k:Nat) (id:Nid):(inL l k).any (hasId id) = (inK l k id).isSome:=by
 rw [Bool.eq_iff_iff,List.any_eq_true]
 constructor
 ·rintro ⟨x,hx,hi⟩
  unfold inL at hx
  rw [List.mem_flatMap] at hx
  obtain ⟨j,_,hx⟩:=hx
  obtain ⟨t,e,rfl⟩:=pcB_mem hx
  have hi:(l.getD j default).item.id = id:=Nid.eqv_iff.1 hi
  rw [hi] at e
  rw [e];rfl
 ·intro h
  cases e:inK l k id with
  | none=>rw [e] at h;cases h
  | some p=>
   obtain ⟨j,t⟩:=p
   obtain ⟨_,hi,_⟩:=inK_at e
   have e2:=e
   rw [<- hi] at e2
   refine ⟨itmT (l.getD j default).item t,?_,Nid.eqv_iff.2 hi⟩
   unfold inL
   rw [List.mem_flatMap]
   exact ⟨j,List.mem_range.2 (inK_lt e),by rw [pcB_of e2];simp⟩
theorem itL_succ (l:List Jrec) (k:Nat):itL l (k + 1) = (List.range k).flatMap (pcI l (k + 1)) ++ pcI l (k + 1) k:=by
 unfold itL;rw [List.range_succ,List.flatMap_append];simp
theorem inL_succ (l:List Jrec) (k:Nat):inL l (k + 1) = (List.range k).flatMap (pcB l (k + 1)) ++ pcB l (k + 1) k:=by
 unfold inL;rw [List.range_succ,List.flatMap_append];simp
theorem setTick_map {l:List Itm} (hu:Uniq l) (id:Nid) (t:Int):setTick l id t = l.map fun x=>if hasId id x = true then itmT x t else x:=by
 unfold setTick
 rcases idx_cases (hasId id) l with ⟨h1,h2⟩ | ⟨k,hk,h1,h2,_⟩
 ·rw [if_neg (by omega)]
  conv=>lhs;rw [<- List.map_id l]
  refine List.map_congr_left fun x hx=>?_
  have:hasId id x = false:=h2 x hx
  rw [this];rfl
 ·rw [if_pos (by omega),h1,Int.toNat_natCast]
  refine List.ext_getElem (by simp) fun i hi1 hi2=>?_
  rw [List.getElem_modify,List.getElem_map]
  rw [getD_lt hk] at h2
  rw [List.length_map] at hi2
  by_cases e:k = i
  ·subst e
   rw [if_pos rfl,if_pos h2];rfl
  ·have:hasId id l[i] = false:=by
    rw [<- Bool.not_eq_true]
    intro e2
    have a1:l[k].id = id:=Nid.eqv_iff.1 h2
    have a2:l[i].id = id:=Nid.eqv_iff.1 e2
    rcases Nat.lt_or_ge k i with q | q
    ·exact uniq_get.1 hu k i hk hi2 q (by rw [a1,a2])
    ·exact uniq_get.1 hu i k hi2 hk (by omega) (by rw [a1,a2])
   rw [if_neg e,this];rfl
theorem effs_K {l:List Jrec} (hv:∀ r ∈ l,recErr r = 0):∀ k,k <= l.length -> effs (l.take k) ⟨[],[]⟩ = ⟨itL l k,inL l k⟩
 | 0,_=>rfl
 | k + 1,hk=>by
  have ih:=effs_K hv k (by omega)
  have hr:recErr (l.getD k default) = 0:=hv _ (by rw [getD_lt hk];exact List.getElem_mem _)
  have hg:Good (effs (l.take k) ⟨[],[]⟩):=good_effs good_nil fun r h=>hv r (List.mem_of_mem_take h)
  rw [ih] at hg
  rw [take_snoc hk,effs_snoc,ih,itL_succ,inL_succ]
  have hkd:=recErr_kind hr
  have hpk:(l.getD k default).kind ≠ 1 -> pcI l (k + 1) k = []:=fun h=>by
   cases e:pcI l (k + 1) k with
   | nil=>rfl
   | cons x m=>
    obtain ⟨t,e1,_⟩:=pcI_mem (x:=x) (l:=l) (k:=k + 1) (j:=k) (by rw [e];simp)
    exact absurd (itK_at e1).1 h
  have hbk:(l.getD k default).kind ≠ 3 -> pcB l (k + 1) k = []:=fun h=>by
   cases e:pcB l (k + 1) k with
   | nil=>rfl
   | cons x m=>
    obtain ⟨t,e1,_⟩:=pcB_mem (x:=x) (l:=l) (k:=k + 1) (j:=k) (by rw [e];simp)
    exact absurd (inK_at e1).1 h
  have hbs:(l.getD k default).kind ≠ 3 -> inL l k = (List.range k).flatMap (pcB l (k + 1)) ++ pcB l (k + 1) k:=fun h=>by
   rw [hbk h,List.append_nil]
   unfold inL
   refine flatMap_congr' fun j hj=>?_
   unfold pcB
   have:inK l (k + 1) (l.getD j default).item.id = inK l k (l.getD j default).item.id:=by
    conv=>lhs;unfold inK
    rw [if_neg (by simpa using h)]
   rw [this]
  have his:(l.getD k default).kind = 3 -> itL l k = (List.range k).flatMap (pcI l (k + 1)) ++ pcI l (k + 1) k:=fun h=>by
   rw [hpk (by rw [h];decide),List.append_nil]
   unfold itL
   refine flatMap_congr' fun j hj=>?_
   unfold pcI
   have:itK l (k + 1) (l.getD j default).item.id = itK l k (l.getD j default).item.id:=by
    conv=>lhs;unfold itK
    rw [if_neg (by rw [h];decide),if_neg (by rw [h];decide),if_neg (by rw [h];decide)]
   rw [this]
  rcases hkd with h | h | h | h
  ·have e1:effM ⟨itL l k,inL l k⟩ (l.getD k default) = ⟨withM (itL l k) (l.getD k default).item,inL l k⟩:=by unfold effM;rw [if_pos h]
   rw [e1,<- hbs (by rw [h];decide)]
   congr 1
   have hany:=itL_any l k (l.getD k default).item.id
   cases e:itK l k (l.getD k default).item.id with
   | none=>
    rw [e] at hany
    rw [withM_new hany]
    have hk1:itK l (k + 1) (l.getD k default).item.id = some (k,(l.getD k default).item.ticket):=by
     unfold itK
     rw [if_pos (by rw [h];rfl),if_pos ⟨rfl,by rw [e];rfl⟩]
    rw [pcI_of hk1]
    congr 1
    unfold itL
    refine flatMap_congr' fun j hj=>?_
    have hj:j < k:=List.mem_range.1 hj
    by_cases hid:(l.getD k default).item.id = (l.getD j default).item.id
    ·unfold pcI
     rw [<- hid,e,hk1]
     show [] = if k = j then _ else _
     rw [if_neg (by omega)]
    ·unfold pcI
     have:itK l (k + 1) (l.getD j default).item.id = itK l k (l.getD j default).item.id:=by
      conv=>lhs;unfold itK
      rw [if_pos (by rw [h];rfl),if_neg (fun q=>hid q.1)]
     rw [this]
   | some p=>
    rw [e] at hany
    have hw:withM (itL l k) (l.getD k default).item = itL l k:=by
     unfold withM
     rw [if_pos]
     rw [ge_iff_le,<- any_idx]
     exact hany
    have hsame:∀ id,itK l (k + 1) id = itK l k id:=fun id=>by
     conv=>lhs;unfold itK
     rw [if_pos (by rw [h];rfl),if_neg]
     rintro ⟨q1,q2⟩
     rw [<- q1,e] at q2
     cases q2
    have hpz:pcI l (k + 1) k = []:=by
     cases e3:pcI l (k + 1) k with
     | nil=>rfl
     | cons x m=>
      obtain ⟨t,e1,_⟩:=pcI_mem (x:=x) (l:=l) (k:=k + 1) (j:=k) (by rw [e3];simp)
      rw [hsame] at e1
      have:=itK_lt e1
      omega
    rw [hw,hpz,List.append_nil]
    unfold itL
    refine flatMap_congr' fun j hj=>?_
    unfold pcI
    rw [hsame]
  ·have e1:effM ⟨itL l k,inL l k⟩ (l.getD k default) = ⟨(itL l k).filter (notId (l.getD k default).id),inL l k⟩:=by unfold effM;rw [if_neg (by rw [h];decide),if_pos h]
   rw [e1,<- hbs (by rw [h];decide),hpk (by rw [h];decide),List.append_nil]
   congr 1
   unfold itL
   rw [filter_flatMap']
   refine flatMap_congr' fun j hj=>?_
   have hi:itK l (k + 1) (l.getD j default).item.id = if (l.getD k default).id = (l.getD j default).item.id then none else itK l k (l.getD j default).item.id:=by
    conv=>lhs;unfold itK
    rw [if_neg (by rw [h];decide),if_pos (by rw [h];rfl)]
   by_cases hid:(l.getD k default).id = (l.getD j default).item.id
   ·have e2:pcI l (k + 1) j = []:=by unfold pcI;rw [hi,if_pos hid]
    rw [e2]
    refine List.filter_eq_nil_iff.2 fun x hx=>?_
    obtain ⟨t,_,rfl⟩:=pcI_mem hx
    unfold notId
    rw [show hasId (l.getD k default).id (itmT (l.getD j default).item t) = true from Nid.eqv_iff.2 hid.symm]
    decide
   ·have e2:pcI l (k + 1) j = pcI l k j:=by unfold pcI;rw [hi,if_neg hid]
    rw [e2]
    refine List.filter_eq_self.2 fun x hx=>?_
    obtain ⟨t,_,rfl⟩:=pcI_mem hx
    unfold notId
    rw [Bool.not_eq_true',<- Bool.not_eq_true]
    intro q
    exact hid (Nid.eqv_iff.1 q).symm
  ·have e1:effM ⟨itL l k,inL l k⟩ (l.getD k default) = ⟨itL l k,withM (inL l k) (l.getD k default).item⟩:=by unfold effM;rw [if_neg (by rw [h];decide),if_neg (by rw [h];decide),if_pos h]
   rw [e1,<- his h]
   congr 1
   have hany:=inL_any l k (l.getD k default).item.id
   cases e:inK l k (l.getD k default).item.id with
   | none=>
    rw [e] at hany
    rw [withM_new hany]
    have hk1:inK l (k + 1) (l.getD k default).item.id = some (k,(l.getD k default).item.ticket):=by
     unfold inK
     rw [if_pos (by rw [h];rfl),if_pos ⟨rfl,by rw [e];rfl⟩]
    rw [pcB_of hk1]
    congr 1
    unfold inL
    refine flatMap_congr' fun j hj=>?_
    have hj:j < k:=List.mem_range.1 hj
    by_cases hid:(l.getD k default).item.id = (l.getD j default).item.id
    ·unfold pcB
     rw [<- hid,e,hk1]
     show [] = if k = j then _ else _
     rw [if_neg (by omega)]
    ·unfold pcB
     have:inK l (k + 1) (l.getD j default).item.id = inK l k (l.getD j default).item.id:=by
      conv=>lhs;unfold inK
      rw [if_pos (by rw [h];rfl),if_neg (fun q=>hid q.1)]
     rw [this]
   | some p=>
    rw [e] at hany
    have hw:withM (inL l k) (l.getD k default).item = inL l k:=by
     unfold withM
     rw [if_pos]
     rw [ge_iff_le,<- any_idx]
     exact hany
    have hsame:∀ id,inK l (k + 1) id = inK l k id:=fun id=>by
     conv=>lhs;unfold inK
     rw [if_pos (by rw [h];rfl),if_neg]
     rintro ⟨q1,q2⟩
     rw [<- q1,e] at q2
     cases q2
    have hpz:pcB l (k + 1) k = []:=by
     cases e3:pcB l (k + 1) k with
     | nil=>rfl
     | cons x m=>
      obtain ⟨t,e1,_⟩:=pcB_mem (x:=x) (l:=l) (k:=k + 1) (j:=k) (by rw [e3];simp)
      rw [hsame] at e1
      have:=inK_lt e1
      omega
    rw [hw,hpz,List.append_nil]
    unfold inL
    refine flatMap_congr' fun j hj=>?_
    unfold pcB
    rw [hsame]
  ·have e1:effM ⟨itL l k,inL l k⟩ (l.getD k default) = ⟨setTick (itL l k) (l.getD k default).id (l.getD k default).ticket,inL l k⟩:=by unfold effM;rw [if_neg (by rw [h];decide),if_neg (by rw [h];decide),if_neg (by rw [h];decide),if_pos h]
   rw [e1,<- hbs (by rw [h];decide),hpk (by rw [h];decide),List.append_nil,setTick_map hg.2.2.1]
   congr 1
   unfold itL
   rw [map_flatMap']
   refine flatMap_congr' fun j hj=>?_
   have hi:itK l (k + 1) (l.getD j default).item.id = if (l.getD k default).id = (l.getD j default).item.id then (itK l k (l.getD j default).item.id).map (fun p=>(p.1,(l.getD k default).ticket)) else itK l k (l.getD j default).item.id:=by
    conv=>lhs;unfold itK
    rw [if_neg (by rw [h];decide),if_neg (by rw [h];decide),if_pos (by rw [h];rfl)]
   by_cases hid:(l.getD k default).id = (l.getD j default).item.id
   ·unfold pcI
    rw [hi,if_pos hid]
    cases e:itK l k (l.getD j default).item.id with
    | none=>rfl
    | some p=>
     obtain ⟨i,t⟩:=p
     simp only [Option.map_some]
     by_cases hij:i = j
     ·rw [if_pos hij,if_pos hij]
      show [if hasId (l.getD k default).id (itmT (l.getD j default).item t) = true then _ else _] = _
      rw [show hasId (l.getD k default).id (itmT (l.getD j default).item t) = true from Nid.eqv_iff.2 hid.symm,if_pos rfl]
      rfl
     ·rw [if_neg hij,if_neg hij];rfl
   ·have e2:pcI l (k + 1) j = pcI l k j:=by unfold pcI;rw [hi,if_neg hid]
    rw [e2]
    conv=>rhs;rw [<- List.map_id (pcI l k j)]
    refine List.map_congr_left fun x hx=>?_
    obtain ⟨t,_,rfl⟩:=pcI_mem hx
    rw [if_neg]
    ·rfl
    ·intro q
     exact hid (Nid.eqv_iff.1 q).symm
theorem itK_rng {l:List Jrec} (hv:∀ r ∈ l,recErr r = 0) {id:Nid}:∀ {k j:Nat} {t:Int},k <= l.length -> itK l k id = some (j,t) -> inR t 0 1152921504606846976 = true
 | 0,j,t,_,h=>by cases h
 | k + 1,j,t,hk,h=>by
  have ih:∀ {j:Nat} {t:Int},itK l k id = some (j,t) -> inR t 0 1152921504606846976 = true:=fun h=>itK_rng hv (by omega) h
  have hr:recErr (l.getD k default) = 0:=hv _ (by rw [getD_lt hk];exact List.getElem_mem _)
  unfold itK at h
  split at h
  ·rename_i hkd
   have hkd:(l.getD k default).kind = 1:=by simpa using hkd
   split at h
   ·simp only [Option.some.injEq,Prod.mk.injEq] at h
    rcases recErr_zero.1 hr with q | q
    ·rw [<- h.2];exact (itemErr_zero q.item).2.1
    ·rcases q.kind with q | q <;> rw [hkd] at q <;> cases q
   ·exact ih h
  ·split at h
   ·split at h
    ·cases h
    ·exact ih h
   ·split at h
    ·rename_i hkd
     have hkd:(l.getD k default).kind = 4:=by simpa using hkd
     split at h
     ·cases e:itK l k id with
      | none=>rw [e] at h;cases h
      | some p=>
       rw [e] at h
       simp only [Option.map_some,Option.some.injEq,Prod.mk.injEq] at h
       rcases recErr_zero.1 hr with q | q
       ·rcases q.kind with q | q <;> rw [hkd] at q <;> cases q
       ·have:=q.ticket
        rw [if_pos hkd] at this
        rw [<- h.2];exact this
     ·exact ih h
    ·exact ih h
theorem item_tick {x:Itm} {t:Int} (h:itemErr x = 0) (ht:inR t 0 1152921504606846976 = true):itemErr (itmT x t) = 0:=by
 have h1:okItem x = true:=by unfold okItem;simpa using h
 have h2:=ok_tick h1 ht
 unfold okItem at h2
 exact eq_of_beq h2
theorem kept_ok {l:List Jrec} (hv:∀ r ∈ l,recErr r = 0) {i:Nat} (hi:i < l.length):∀ r ∈ keptR l i,recErr r = 0:=by
 intro r hr
 have hr0:recErr (l.getD i default) = 0:=hv _ (by rw [getD_lt hi];exact List.getElem_mem _)
 unfold keptR at hr
 split at hr
 ·cases hr
 rename_i j t e
 split at hr
 ·rename_i hj
  subst hj
  rw [List.mem_singleton.1 hr]
  have hs:RecS (l.getD j default) /\ inR t 0 1152921504606846976 = true:=by
   unfold endK at e
   split at e
   ·rename_i hk
    have hk:(l.getD j default).kind = 3:=by simpa using hk
    rcases recErr_zero.1 hr0 with q | q
    ·exact ⟨q,by rw [(inK_at e).2.2.2];exact (itemErr_zero q.item).2.1⟩
    ·rcases q.kind with q | q <;> rw [hk] at q <;> cases q
   ·have hk:=(itK_at e).1
    rcases recErr_zero.1 hr0 with q | q
    ·exact ⟨q,itK_rng hv (Nat.le_refl _) e⟩
    ·rcases q.kind with q | q <;> rw [hk] at q <;> cases q
  obtain ⟨hs,ht⟩:=hs
  exact recErr_zero.2 (.inl ⟨hs.kind,hs.time,item_tick hs.item ht,hs.id,hs.ticket⟩)
 ·cases hr
theorem comp_ok {l:List Jrec} (hv:∀ r ∈ l,recErr r = 0):∀ k,k <= l.length -> ∀ r ∈ compK l k,recErr r = 0
 | 0,_,r,hr=>by cases hr
 | k + 1,hk,r,hr=>by
  rcases List.mem_append.1 hr with h | h
  ·exact comp_ok hv k (by omega) r h
  ·exact kept_ok hv hk r h
theorem comp_len (l:List Jrec):∀ k,(compK l k).length <= k
 | 0=>Nat.le_refl _
 | k + 1=>by
  rw [compK,List.length_append]
  have:=comp_len l k
  have:(keptR l k).length <= 1:=by
   unfold keptR
   split
   ·simp
   ·split <;> simp
  omega
theorem withT_self (r:Jrec):withT r r.item.ticket = r:=rfl
theorem rdNs_back:∀ {n:Nat} {l:List Nat} {m:List Int} {r:List Nat},(∀ x ∈ l,x < 256) -> rdNs n l = some (m,r) -> l = encL m ++ r
 | 0,l,m,r,_,h=>by
  simp only [rdNs,Option.some.injEq,Prod.mk.injEq] at h
  rw [<- h.1,<- h.2];rfl
 | n + 1,l,m,r,hl,h=>by
  rw [rdNs] at h
  split at h
  ·cases h
  rename_i hz
  split at h
  ·cases h
  rename_i m' r' e
  simp only [Option.some.injEq,Prod.mk.injEq] at h
  obtain ⟨rfl,rfl⟩:=h
  have hz:(rdI l).2.2 = 0:=by simpa using hz
  have e1:rdI l = ((rdI l).1,(rdI l).2.1,0):=by rw [<- hz]
  obtain ⟨_,i2,_,_,_⟩:=rdI_ok hl e1
  have ih:=rdNs_back (fun x hx=>hl x (List.mem_of_mem_drop hx)) e
  have e3:encL ((rdI l).1 :: m') = encI (rdI l).1 ++ encL m':=by unfold encL;simp
  rw [e3,List.append_assoc,<- ih,<- i2,List.take_append_drop]
theorem rdT_back {l:List Nat} (hl:∀ x ∈ l,x < 256) (h1:(rdT l).2.2 = 0) (h2:(rdT l).2.1 = l.length):l = txtL (bs (rdT l).1):=by
 unfold rdT at h1 h2 ⊢
 split at h1
 ·rename_i q
  simp only at h1
  rw [h1] at q;cases q
 rename_i hz
 split at h1
 ·cases h1
 rename_i hd
 rw [if_neg hz,if_neg hd] at h2
 rw [if_neg hz,if_neg hd]
 simp only at h2 ⊢
 have hz:(lenI l).2.2 = 0:=by simpa using hz
 have e1:lenI l = ((lenI l).1,(lenI l).2.1,0):=by rw [<- hz]
 obtain ⟨a1,a2,a3⟩:=lenI_ok e1
 obtain ⟨_,i2,i3,_,_⟩:=rdI_ok hl a1
 generalize (lenI l).1 = a at *
 generalize (lenI l).2.1 = b at *
 have e2:(l.drop b).take a.toNat = l.drop b:=List.take_of_length_le (by rw [List.length_drop];omega)
 rw [e2]
 unfold txtL
 have hlt:∀ x ∈ l.drop b,x < 256:=fun x hx=>hl x (List.mem_of_mem_drop hx)
 rw [ls_bs hlt,bs_len]
 have hal:(((l.drop b).length:Nat):Int) = a:=by rw [List.length_drop];omega
 rw [hal,<- i2,List.take_append_drop]
theorem okR_of {r0 r:Jrec} (h:okR r0 = some r):r0 = r:=by
 unfold okR at h
 split at h
 ·simpa using h
 ·cases h
theorem len10 {m:List Int} (h:m.length = 10):m = [m.getD 0 0,m.getD 1 0,m.getD 2 0,m.getD 3 0,m.getD 4 0,m.getD 5 0,m.getD 6 0,m.getD 7 0,m.getD 8 0,m.getD 9 0]:=by
 match m,h with
 | [a,b,c,d,e,f,g,i,j,k],_=>rfl
theorem len2 {m:List Int} (h:m.length = 2):m = [m.getD 0 0,m.getD 1 0]:=by
 match m,h with
 | [a,b],_=>rfl
theorem encL_app (a b:List Int):encL (a ++ b) = encL a ++ encL b:=by unfold encL;simp
theorem conL_sto {r:Jrec} (h:stoK r.kind = true):conL r = encL [r.kind,r.time] ++ (encL ([r.item.ticket] ++ idI r.item.id ++ [r.item.dest,r.item.expires,r.item.prio,cuI r.item.custody]) ++ txtL r.item.data):=by
 unfold conL conI
 rw [if_pos h,if_pos h,encL_app,List.append_assoc]
theorem conL_oth {r:Jrec} (h:stoK r.kind = false):conL r = encL [r.kind,r.time] ++ encL (idI r.id ++ if r.kind == 4 then [r.ticket] else []):=by
 have e1:conI r = [r.kind,r.time] ++ (idI r.id ++ if r.kind == 4 then [r.ticket] else []):=by unfold conI;rw [h];simp only [Bool.false_eq_true,if_false]
 unfold conL
 rw [h]
 simp only [Bool.false_eq_true,if_false,List.append_nil]
 rw [e1,encL_app]
theorem parR_back {c:List Nat} {r:Jrec} (hc:∀ x ∈ c,x < 256) (h:parR c = some r):c = conL r:=by
 unfold parR at h
 split at h
 ·cases h
 rename_i m r1 e1
 have b1:=rdNs_back hc e1
 have l1:=len2 (rdNs_len e1)
 have hr1:∀ x ∈ r1,x < 256:=fun x hx=>hc x (by rw [b1];exact List.mem_append_right _ hx)
 generalize hk:m.getD 0 0 = k at *
 generalize ht:m.getD 1 0 = t at *
 rw [l1] at b1
 split at h
 ·rename_i hs
  unfold parS at h
  split at h
  ·cases h
  rename_i m2 r2 e2
  have b2:=rdNs_back hr1 e2
  have l2:=len10 (rdNs_len e2)
  have hr2:∀ x ∈ r2,x < 256:=fun x hx=>hr1 x (by rw [b2];exact List.mem_append_right _ hx)
  split at h
  ·cases h
  rename_i hq
  simp only [Bool.or_eq_true,not_or,bne_iff_ne,ne_eq,Classical.not_not,Bool.not_eq_true',Bool.or_eq_false_iff,not_and,Bool.not_eq_false] at hq
  obtain ⟨q1,q2,q3⟩:=hq
  have b3:=rdT_back hr2 q1 q2
  have e:=okR_of h
  subst e
  rw [conL_sto hs,b1]
  congr 1
  rw [b2]
  congr 1
  ·congr 1
   have hcu:cuI (m2.getD 9 0 == 1) = m2.getD 9 0:=by
    unfold cuI
    by_cases q:(m2.getD 9 0 == 1) = true
    ·rw [if_pos q];exact (eq_of_beq q).symm
    ·rw [if_neg q]
     by_cases q0:(m2.getD 9 0 == 0) = true
     ·exact (eq_of_beq q0).symm
     ·have:=q3 (by simpa using q0)
      exact absurd this q
   show m2 = [m2.getD 0 0] ++ idI (nidOf (m2.drop 1)) ++ [m2.getD 6 0,m2.getD 7 0,m2.getD 8 0,cuI (m2.getD 9 0 == 1)]
   rw [hcu]
   match m2,rdNs_len e2 with
   | [a,b,c,d,e,f,g,i,j,k],_=>rfl
 ·rename_i hs
  split at h
  ·rename_i hk2
   unfold parI at h
   split at h
   ·cases h
   rename_i m2 r2 e2
   have b2:=rdNs_back hr1 e2
   have l2:=rdNs_len e2
   split at h
   ·rename_i hem
    have hr2:r2 = []:=by simpa using hem
    subst hr2
    have e:=okR_of h
    subst e
    have hs2:stoK k = false:=by simpa using hs
    rw [conL_oth (r:=⟨k,.zero,nidOf m2,if (k == 4) = true then m2.getD 5 0 else 0,t⟩) hs2,b1]
    congr 1
    rw [b2,List.append_nil]
    congr 1
    show m2 = idI (nidOf m2) ++ if (k == 4) = true then [if (k == 4) = true then m2.getD 5 0 else 0] else []
    by_cases q:(k == 4) = true
    ·rw [if_pos q,if_pos q]
     rw [if_pos q] at l2
     match m2,l2 with
     | [a,b,c,d,e,f],_=>rfl
    ·rw [if_neg q]
     rw [if_neg q] at l2
     match m2,l2 with
     | [a,b,c,d,e],_=>rfl
   ·cases h
  ·cases h
theorem fstJ_back {l:List Nat} {r:Jrec} {n:Nat} (hl:∀ x ∈ l,x < 256) (h:fstJ l = some (r,n)):l.take n = sealL (conL r) /\ n <= l.length /\ (conL r).length <= 65536:=by
 unfold fstJ at h
 split at h
 ·cases h
 rename_i hz
 split at h
 ·cases h
 rename_i r' e
 simp only [Option.some.injEq,Prod.mk.injEq] at h
 obtain ⟨rfl,rfl⟩:=h
 have hz:(opL l).2.2 = 0:=by simpa using hz
 have e1:opL l = ((opL l).1,(opL l).2.1,0):=by rw [<- hz]
 obtain ⟨a1,a2,a3⟩:=opL_ok hl e1
 have hb:=parR_back (opL_lt hl) e
 rw [<- hb]
 exact ⟨a1,a2,a3⟩
def jnL (L:List Jrec):List Nat:=L.flatMap fun r=>sealL (conL r)
theorem jnL_snoc (L:List Jrec) (r:Jrec):jnL (L ++ [r]) = jnL L ++ sealL (conL r):=by unfold jnL;rw [List.flatMap_append];simp
theorem rdJ_back:∀ (k:Nat) {l:List Nat},l.length = k -> (∀ x ∈ l,x < 256) -> (jnL (rdJ l).1).length = (rdJ l).2 /\ ∀ r ∈ (rdJ l).1,(conL r).length <= 65536:=by
 intro k
 induction k using Nat.strongRecOn with
 | _ k ih=>
  intro l hk hl
  rw [rdJ_eq hl]
  split
  ·exact ⟨rfl,fun r hr=>by cases hr⟩
  ·rename_i r n e
   obtain ⟨_,p1,p2,_⟩:=fstJ_ok hl e
   obtain ⟨q1,q2,q3⟩:=fstJ_back hl e
   obtain ⟨i1,i2⟩:=ih (l.drop n).length (by rw [List.length_drop];omega) rfl (fun x hx=>hl x (List.mem_of_mem_drop hx))
   refine ⟨?_,fun x hx=>?_⟩
   ·show (jnL (r :: (rdJ (l.drop n)).1)).length = n + (rdJ (l.drop n)).2
    unfold jnL at i1 ⊢
    rw [List.flatMap_cons,List.length_append,i1,<- q1,List.length_take]
    omega
   ·rcases List.mem_cons.1 hx with rfl | hx
    ·exact q3
    ·exact i2 x hx
theorem jnL_lt (L:List Jrec):∀ x ∈ jnL L,x < 256:=by
 intro x hx
 unfold jnL at hx
 rw [List.mem_flatMap] at hx
 obtain ⟨r,_,hx⟩:=hx
 exact sealL_lt (conL_lt r) x hx
theorem appJ_jnL:∀ {L:List Jrec} {s:List Nat},(∀ r ∈ L,recErr r = 0) -> (∀ r ∈ L,(conL r).length <= 65536) -> appJ s L = (s ++ jnL L,0)
 | [],s,_,_=>by unfold appJ jnL;simp
 | r :: L,s,h1,h2=>by
  have he:encRM r = (sealL (conL r),0):=by
   unfold encRM
   rw [h1 r (by simp),if_neg (by decide),if_neg]
   have:=h2 r (by simp)
   rw [decide_eq_true_eq];omega
  unfold appJ
  rw [he,if_neg (by simp),appJ_jnL (fun x hx=>h1 x (List.mem_cons_of_mem _ hx)) (fun x hx=>h2 x (List.mem_cons_of_mem _ hx))]
  unfold jnL
  rw [List.flatMap_cons,List.append_assoc]
theorem appM_jnL {L:List Jrec} (h1:∀ r ∈ L,recErr r = 0) (h2:∀ r ∈ L,(conL r).length <= 65536) (h3:(jnL L).length <= 65536):appM [] L = (jnL L,0):=by
 unfold appM
 rw [appJ_jnL h1 h2,if_neg (by simp),if_neg]
 ·simp
 ·rw [decide_eq_true_eq];simp only [List.nil_append];omega
def szR (r:Jrec):Nat:=(sealL (conL r)).length
def knK (l:List Jrec) (k j:Nat):Option (Nat × Int):=if (l.getD j default).kind == 3 then inK l k (l.getD j default).item.id else itK l k (l.getD j default).item.id
def szK (l:List Jrec) (k j:Nat):Nat:=match knK l k j with
 | none=>0
 | some (i,t)=>if i = j then szR (withT (l.getD j default) t) else 0
def sumTo (f:Nat -> Nat):Nat -> Nat
 | 0=>0
 | k + 1=>sumTo f k + f k
theorem sumTo_le {f g:Nat -> Nat}:∀ {k:Nat},(∀ j,j < k -> f j <= g j) -> sumTo f k <= sumTo g k
 | 0,_=>Nat.le_refl _
 | k + 1,h=>by
  have h1:=sumTo_le (k:=k) fun j hj=>h j (by omega)
  have h2:=h k (by omega)
  unfold sumTo
  omega
theorem sumTo_one {f g:Nat -> Nat} {i c:Nat}:∀ {k:Nat},(∀ j,j < k -> j ≠ i -> f j <= g j) -> (i < k -> f i <= g i + c) -> sumTo f k <= sumTo g k + c
 | 0,_,_=>Nat.zero_le _
 | k + 1,h,hc=>by
  unfold sumTo
  by_cases hi:i = k
  ·have h1:sumTo f k <= sumTo g k:=sumTo_le fun j hj=>h j (by omega) (by omega)
   have h2:=hc (by omega)
   subst hi
   omega
  ·have h1:=sumTo_one (f:=f) (g:=g) (i:=i) (c:=c) (k:=k) (fun j hj hne=>h j (by omega) hne) (fun hk=>hc (by omega))
   have h2:=h k (by omega) (fun e=>hi e.symm)
   omega
theorem seal_b {p:List Nat} (h:p.length <= 1000000):(sealL p).length <= p.length + 13 /\ p.length + 5 <= (sealL p).length:=by
 have h1:=encI_len (inI_nat (n:=p.length) h)
 have h2:0 < (encI p.length).length:=List.length_pos_iff.2 (encZ_ne _)
 simp only [sealL,frameL,List.length_append]
 have:(tailL (encI p.length ++ p)).length = 4:=rfl
 omega
theorem encI_pos (n:Int):1 <= (encI n).length:=List.length_pos_iff.2 (encZ_ne _)
theorem encL_cons (a:Int) (l:List Int):(encL (a :: l)).length = (encI a).length + (encL l).length:=by unfold encL;simp
theorem conL_tick {r:Jrec} (h:stoK r.kind = true) (s t:Int):(conL (withT r t)).length + (encI s).length = (conL (withT r s)).length + (encI t).length:=by
 rw [conL_sto (r:=withT r t) h,conL_sto (r:=withT r s) h]
 simp only [List.length_append,encL_app,withT,encL_cons]
 omega
theorem conL_4 {r:Jrec} (h:r.kind = 4):(encI r.ticket).length + 7 <= (conL r).length:=by
 rw [conL_oth (by rw [h];rfl),if_pos (by rw [h];rfl),encL_app]
 simp only [List.length_append,encL_cons,idI]
 have h1:=encI_pos r.kind
 have h2:=encI_pos r.time
 have h3:=encI_pos r.id.source
 have h4:=encI_pos r.id.created
 have h5:=encI_pos r.id.seq
 have h6:=encI_pos r.id.off
 have h7:=encI_pos r.id.total
 omega
theorem tick_rng {t:Int} (h:inR t 0 1152921504606846976 = true):(encI t).length <= 9:=encI_len (inI_in h (by decide) (by decide))
theorem szR_tick {r q:Jrec} (h:stoK r.kind = true) (hc:(conL r).length <= 65536) (hq:q.kind = 4) (hqc:(conL q).length <= 65536) {s:Int} (hs:inR s 0 1152921504606846976 = true) (ht:inR q.ticket 0 1152921504606846976 = true):szR (withT r q.ticket) <= szR (withT r s) + szR q:=by
 have h1:=conL_tick h s q.ticket
 have h2:=conL_tick h r.item.ticket s
 have h3:=conL_4 hq
 have h4:=tick_rng hs
 have h5:=tick_rng ht
 have h6:=encI_pos s
 rw [withT_self] at h2
 have b1:=seal_b (p:=conL (withT r q.ticket)) (by omega)
 have b2:=seal_b (p:=conL (withT r s)) (by omega)
 have b3:=seal_b (p:=conL q) (by omega)
 unfold szR
 omega
theorem szK_new {l:List Jrec} {k:Nat} (h:∀ t,knK l (k + 1) k = some (k,t) -> t = (l.getD k default).item.ticket):szK l (k + 1) k <= szR (l.getD k default):=by
 unfold szK
 cases e:knK l (k + 1) k with
 | none=>exact Nat.zero_le _
 | some p=>
  obtain ⟨i,t⟩:=p
  show (if i = k then _ else _) <= _
  by_cases hi:i = k
  ·subst hi
   rw [if_pos rfl,h t e,withT_self]
   exact Nat.le_refl _
  ·rw [if_neg hi];exact Nat.zero_le _
theorem szK_eq {l:List Jrec} {k m j:Nat} (h:knK l m j = knK l k j):szK l m j = szK l k j:=by unfold szK;rw [h]
theorem szK_step {l:List Jrec} (hv:∀ r ∈ l,recErr r = 0) (hc:∀ r ∈ l,(conL r).length <= 65536) {k:Nat} (hk:k < l.length):sumTo (szK l (k + 1)) (k + 1) <= sumTo (szK l k) k + szR (l.getD k default):=by
 have hm:l.getD k default ∈ l:=by rw [getD_lt hk];exact List.getElem_mem _
 have hr:=hv _ hm
 have hkd:=recErr_kind hr
 have hin:(l.getD k default).kind ≠ 3 -> ∀ id,inK l (k + 1) id = inK l k id:=fun h id=>by
  conv=>lhs;unfold inK
  rw [if_neg (by simpa using h)]
 have hz:(l.getD k default).kind ≠ 1 -> (l.getD k default).kind ≠ 3 -> szK l (k + 1) k = 0:=fun h1 h3=>by
  unfold szK
  cases e:knK l (k + 1) k with
  | none=>rfl
  | some p=>
   obtain ⟨i,t⟩:=p
   show (if i = k then _ else _) = _
   rw [if_neg]
   rintro rfl
   unfold knK at e
   rw [if_neg (by simpa using h3)] at e
   exact h1 (itK_at e).1
 show sumTo (szK l (k + 1)) k + szK l (k + 1) k <= _
 rcases hkd with h | h | h | h
 ·have h1:szK l (k + 1) k <= szR (l.getD k default):=szK_new fun t e=>by
   unfold knK at e
   rw [if_neg (by rw [h];decide)] at e
   have hn:=(itK_at e).2.2
   unfold itK at e
   rw [if_pos (by rw [h];rfl),if_pos ⟨rfl,by rw [hn];rfl⟩] at e
   simp only [Option.some.injEq,Prod.mk.injEq] at e
   exact e.2.symm
  have h2:sumTo (szK l (k + 1)) k <= sumTo (szK l k) k:=sumTo_le fun j hj=>by
   by_cases h3:(l.getD j default).kind = 3
   ·exact Nat.le_of_eq (szK_eq (by unfold knK;rw [if_pos (by rw [h3];rfl),if_pos (by rw [h3];rfl)];exact hin (by rw [h];decide) _))
   ·unfold szK knK
    rw [if_neg (by simpa using h3),if_neg (by simpa using h3)]
    by_cases hq:(l.getD k default).item.id = (l.getD j default).item.id /\ (itK l k (l.getD j default).item.id).isNone = true
    ·have e1:itK l (k + 1) (l.getD j default).item.id = some (k,(l.getD k default).item.ticket):=by
      unfold itK
      rw [if_pos (by rw [h];rfl),if_pos hq]
     rw [e1]
     show (if k = j then _ else _) <= _
     rw [if_neg (by omega)]
     exact Nat.zero_le _
    ·have e1:itK l (k + 1) (l.getD j default).item.id = itK l k (l.getD j default).item.id:=by
      conv=>lhs;unfold itK
      rw [if_pos (by rw [h];rfl),if_neg hq]
     rw [e1]
     exact Nat.le_refl _
  omega
 ·rw [hz (by rw [h];decide) (by rw [h];decide)]
  have h2:sumTo (szK l (k + 1)) k <= sumTo (szK l k) k:=sumTo_le fun j hj=>by
   by_cases h3:(l.getD j default).kind = 3
   ·exact Nat.le_of_eq (szK_eq (by unfold knK;rw [if_pos (by rw [h3];rfl),if_pos (by rw [h3];rfl)];exact hin (by rw [h];decide) _))
   ·unfold szK knK
    rw [if_neg (by simpa using h3),if_neg (by simpa using h3)]
    have e1:itK l (k + 1) (l.getD j default).item.id = if (l.getD k default).id = (l.getD j default).item.id then none else itK l k (l.getD j default).item.id:=by
     conv=>lhs;unfold itK
     rw [if_neg (by rw [h];decide),if_pos (by rw [h];rfl)]
    rw [e1]
    by_cases hq:(l.getD k default).id = (l.getD j default).item.id
    ·rw [if_pos hq];exact Nat.zero_le _
    ·rw [if_neg hq];exact Nat.le_refl _
  omega
 ·have h1:szK l (k + 1) k <= szR (l.getD k default):=szK_new fun t e=>by
   unfold knK at e
   rw [if_pos (by rw [h];rfl)] at e
   exact (inK_at e).2.2.2
  have h2:sumTo (szK l (k + 1)) k <= sumTo (szK l k) k:=sumTo_le fun j hj=>by
   by_cases h3:(l.getD j default).kind = 3
   ·unfold szK knK
    rw [if_pos (by rw [h3];rfl),if_pos (by rw [h3];rfl)]
    by_cases hq:(l.getD k default).item.id = (l.getD j default).item.id /\ (inK l k (l.getD j default).item.id).isNone = true
    ·have e1:inK l (k + 1) (l.getD j default).item.id = some (k,(l.getD k default).item.ticket):=by
      unfold inK
      rw [if_pos (by rw [h];rfl),if_pos hq]
     rw [e1]
     show (if k = j then _ else _) <= _
     rw [if_neg (by omega)]
     exact Nat.zero_le _
    ·have e1:inK l (k + 1) (l.getD j default).item.id = inK l k (l.getD j default).item.id:=by
      conv=>lhs;unfold inK
      rw [if_pos (by rw [h];rfl),if_neg hq]
     rw [e1]
     exact Nat.le_refl _
   ·refine Nat.le_of_eq (szK_eq ?_)
    unfold knK
    rw [if_neg (by simpa using h3),if_neg (by simpa using h3)]
    conv=>lhs;unfold itK
    rw [if_neg (by rw [h];decide),if_neg (by rw [h];decide),if_neg (by rw [h];decide)]
  omega
 ·rw [hz (by rw [h];decide) (by rw [h];decide),Nat.add_zero]
  have htk:inR (l.getD k default).ticket 0 1152921504606846976 = true:=by
   rcases recErr_zero.1 hr with q | q
   ·rcases q.kind with q | q <;> rw [h] at q <;> cases q
   ·have:=q.ticket
    rw [if_pos h] at this
    exact this
  have e1:∀ id,itK l (k + 1) id = if (l.getD k default).id = id then (itK l k id).map (fun p=>(p.1,(l.getD k default).ticket)) else itK l k id:=fun id=>by
   conv=>lhs;unfold itK
   rw [if_neg (by rw [h];decide),if_neg (by rw [h];decide),if_pos (by rw [h];rfl)]
  obtain ⟨i,hi⟩:∃ i:Nat,∀ j t,itK l k (l.getD k default).id = some (j,t) -> j = i:=by
   cases e:itK l k (l.getD k default).id with
   | none=>exact ⟨0,fun j t q=>by cases q⟩
   | some p=>
    refine ⟨p.1,fun j t q=>?_⟩
    simp only [Option.some.injEq] at q
    rw [q]
  refine sumTo_one (i:=i) (fun j hj hne=>?_) (fun hik=>?_)
  ·by_cases h3:(l.getD j default).kind = 3
   ·exact Nat.le_of_eq (szK_eq (by unfold knK;rw [if_pos (by rw [h3];rfl),if_pos (by rw [h3];rfl)];exact hin (by rw [h];decide) _))
   ·unfold szK knK
    rw [if_neg (by simpa using h3),if_neg (by simpa using h3),e1]
    by_cases hq:(l.getD k default).id = (l.getD j default).item.id
    ·rw [if_pos hq]
     rw [hq] at hi
     cases e:itK l k (l.getD j default).item.id with
     | none=>exact Nat.zero_le _
     | some p=>
      obtain ⟨i',t⟩:=p
      have:=hi i' t e
      subst this
      show (if i' = j then _ else _) <= _
      rw [if_neg (fun q=>hne q.symm)]
      exact Nat.zero_le _
    ·rw [if_neg hq];exact Nat.le_refl _
  ·by_cases h3:(l.getD i default).kind = 3
   ·have:=szK_eq (l:=l) (k:=k) (m:=k + 1) (j:=i) (by unfold knK;rw [if_pos (by rw [h3];rfl),if_pos (by rw [h3];rfl)];exact hin (by rw [h];decide) _)
    omega
   ·unfold szK knK
    rw [if_neg (by simpa using h3),if_neg (by simpa using h3),e1]
    by_cases hq:(l.getD k default).id = (l.getD i default).item.id
    ·rw [if_pos hq]
     cases e:itK l k (l.getD i default).item.id with
     | none=>exact Nat.zero_le _
     | some p=>
      obtain ⟨i',t⟩:=p
      show (if i' = i then _ else _) <= (if i' = i then _ else _) + _
      by_cases hii:i' = i
      ·subst hii
       rw [if_pos rfl,if_pos rfl]
       have hmi:l.getD i' default ∈ l:=by rw [getD_lt (by omega)];exact List.getElem_mem _
       exact szR_tick (by rw [(itK_at e).1];rfl) (hc _ hmi) h (hc _ hm) (itK_rng hv (by omega) e) htk
      ·rw [if_neg hii,if_neg hii];exact Nat.zero_le _
    ·rw [if_neg hq];omega
theorem szK_all {l:List Jrec} (hv:∀ r ∈ l,recErr r = 0) (hc:∀ r ∈ l,(conL r).length <= 65536):∀ k,k <= l.length -> sumTo (szK l k) k <= (jnL (l.take k)).length
 | 0,_=>Nat.zero_le _
 | k + 1,hk=>by
  have h1:=szK_all hv hc k (by omega)
  have h2:=szK_step hv hc hk
  rw [take_snoc hk,jnL_snoc,List.length_append]
  unfold szR at h2
  omega
theorem jnL_app (a b:List Jrec):jnL (a ++ b) = jnL a ++ jnL b:=by unfold jnL;rw [List.flatMap_append]
theorem comp_sz (l:List Jrec):∀ k,(jnL (compK l k)).length = sumTo (szK l l.length) k
 | 0=>rfl
 | k + 1=>by
  rw [compK,jnL_app,List.length_append,comp_sz l k]
  show _ = sumTo _ k + szK l l.length k
  congr 1
  unfold keptR szK
  have e:endK l k = knK l l.length k:=rfl
  rw [e]
  cases knK l l.length k with
  | none=>rfl
  | some p=>
   obtain ⟨j,t⟩:=p
   show (jnL (if j = k then _ else _)).length = if j = k then _ else _
   by_cases hj:j = k
   ·rw [if_pos hj,if_pos hj]
    unfold jnL szR
    simp
   ·rw [if_neg hj,if_neg hj];rfl
theorem compM_sz {l:List Jrec} (hv:∀ r ∈ l,recErr r = 0) (hc:∀ r ∈ l,(conL r).length <= 65536):(jnL (compM l)).length <= (jnL l).length:=by
 have h1:=szK_all hv hc l.length (Nat.le_refl _)
 rw [List.take_length] at h1
 unfold compM
 rw [comp_sz]
 exact h1
theorem jnL_mem {L:List Jrec} {r:Jrec} (h:r ∈ L):(sealL (conL r)).length <= (jnL L).length:=by
 obtain ⟨a,b,rfl⟩:=List.append_of_mem h
 rw [show a ++ r :: b = a ++ ([r] ++ b) by simp,jnL_app,jnL_app,List.length_append,List.length_append]
 have:(jnL [r]).length = (sealL (conL r)).length:=by unfold jnL;simp
 omega
theorem comp_con {l:List Jrec} (hv:∀ r ∈ l,recErr r = 0) (hc:∀ r ∈ l,(conL r).length <= 65536) (hs:(jnL l).length <= 65536):∀ r ∈ compM l,(conL r).length <= 65536:=fun r hr=>by
 have h1:=jnL_mem hr
 have h2:=compM_sz hv hc
 have h3:(conL r).length <= (sealL (conL r)).length:=by
  unfold sealL frameL
  simp only [List.length_append]
  omega
 omega
theorem getD_len {A:List Int} {x:Int} {B:List Int}:(A ++ x :: B).getD A.length default = x:=by simp [List.getD]
theorem swp_two (B:List Int) (x y:Int):swp (B ++ [y,x]) B.length = B ++ [x,y]:=by
 unfold swp
 have h1:(B ++ [y,x]).getD B.length default = y:=getD_len
 have h2:(B ++ [y,x]).getD (B.length + 1) default = x:=by simp [List.getD]
 rw [h1,h2]
 apply List.ext_getElem?
 intro k
 simp only [List.getElem?_set,List.length_set,List.length_append,List.length_cons,List.length_nil]
 rcases Nat.lt_trichotomy k B.length with h | h | h
 ·rw [if_neg (by omega),if_neg (by omega),List.getElem?_append_left h,List.getElem?_append_left h]
 ·subst h;simp
 ·rw [if_neg (by omega)]
  rcases Nat.lt_or_ge k (B.length + 2) with h3 | h3
  ·obtain rfl:k = B.length + 1:=by omega
   simp
  ·rw [if_neg (by omega),List.getElem?_eq_none (by simp;omega),List.getElem?_eq_none (by simp;omega)]
section
variable {lt:Int -> Int -> Bool} (has:∀ x y,lt x y = true -> lt y x = false) (htr:∀ x y z,lt y x = false -> lt z y = false -> lt z x = false)
include has htr
theorem sink_sorted:∀ (m:Nat) (B:List Int) (x:Int),B.length = m -> B.Pairwise (fun a b=>lt b a = false) -> (sink lt m (B ++ [x])).Pairwise (fun a b=>lt b a = false) /\ (sink lt m (B ++ [x])).Perm (B ++ [x])
 | 0,B,x,hB,hs=>by
  have:B = []:=List.eq_nil_of_length_eq_zero hB
  subst this
  exact ⟨by simp [sink],List.Perm.refl _⟩
 | m + 1,B,x,hB,hs=>by
  obtain ⟨C,y,rfl⟩:∃ C y,B = C ++ [y]:=by
   rcases List.eq_nil_or_concat B with h | ⟨C,y,h⟩
   ·subst h;simp at hB
   ·exact ⟨C,y,by simpa using h⟩
  have hC:C.length = m:=by simpa using hB
  subst hC
  have e:C ++ [y] ++ [x] = C ++ [y,x]:=by simp
  have h1:(C ++ [y,x]).getD C.length default = y:=getD_len
  have h2:(C ++ [y,x]).getD (C.length + 1) default = x:=by simp [List.getD]
  rw [List.pairwise_append] at hs
  obtain ⟨hs1,_,hs2⟩:=hs
  unfold sink
  rw [e,h1,h2]
  split
  ·rename_i hlt
   rw [swp_two,show C ++ [x,y] = (C ++ [x]) ++ [y] by simp,sink_append _ _ _ _ (by simp)]
   obtain ⟨i1,i2⟩:=sink_sorted C.length C x rfl hs1
   refine ⟨?_,?_⟩
   ·rw [List.pairwise_append]
    refine ⟨i1,by simp,fun a ha b hb=>?_⟩
    obtain rfl:=List.mem_singleton.1 hb
    rcases List.mem_append.1 (i2.mem_iff.1 ha) with ha | ha
    ·exact hs2 a ha _ (by simp)
    ·obtain rfl:=List.mem_singleton.1 ha
     exact has _ _ hlt
   ·refine (i2.append_right [y]).trans ?_
    rw [List.append_assoc]
    exact List.Perm.append_left C (List.Perm.swap y x [])
  ·rename_i hlt
   rw [Bool.not_eq_true] at hlt
   refine ⟨?_,List.Perm.refl _⟩
   rw [<- e,List.pairwise_append]
   refine ⟨by rw [List.pairwise_append];exact ⟨hs1,by simp,hs2⟩,by simp,fun a ha b hb=>?_⟩
   obtain rfl:=List.mem_singleton.1 hb
   rcases List.mem_append.1 ha with ha | ha
   ·exact htr _ _ _ (hs2 a ha y (by simp)) hlt
   ·obtain rfl:=List.mem_singleton.1 ha
    exact hlt
theorem upto_snoc (n:Nat):upto 0 (n + 1) = upto 0 n ++ [(n:Int)]:=by
 unfold upto
 rw [show n + 1 - 0 = (n - 0) + 1 by omega,List.range_succ]
 simp
theorem ordR_sorted:∀ n,(ordR lt n).Pairwise (fun a b=>lt b a = false) /\ (ordR lt n).Perm (upto 0 n)
 | 0=>⟨by simp [ordR],by simp [ordR,upto]⟩
 | n + 1=>by
  obtain ⟨h1,h2⟩:=ordR_sorted n
  obtain ⟨h3,h4⟩:=sink_sorted has htr n (ordR lt n) n (ordR_len lt n) h1
  refine ⟨h3,h4.trans ?_⟩
  rw [upto_snoc has htr]
  exact h2.append_right _
end
theorem cmpI_gt (a b:Int):cmpI a b > 0 ↔ b < a:=by
 unfold cmpI
 by_cases h:a < b
 ·rw [if_pos h];simp;omega
 ·rw [if_neg h]
  split <;> simp <;> omega
theorem cmpL_anti:∀ (l m:List Int),l.length = m.length -> (cmpL l m < 0 ↔ cmpL m l > 0)
 | [],[],_=>by simp [cmpL]
 | a :: l,b :: m,h=>by
  simp only [cmpL]
  by_cases hab:a = b
  ·subst hab
   have:cmpI a a = 0:=(cmpI_zero a a).2 rfl
   simp only [this,bne_self_eq_false,Bool.false_eq_true,if_false]
   exact cmpL_anti l m (by simpa using h)
  ·have h1:(cmpI a b != 0) = true:=by rw [bne_iff_ne,ne_eq,cmpI_zero];exact hab
   have h2:(cmpI b a != 0) = true:=by rw [bne_iff_ne,ne_eq,cmpI_zero];exact fun e=>hab e.symm
   rw [if_pos h1,if_pos h2,cmpI_lt,cmpI_gt]
 | [],_ :: _,h=>by simp at h
 | _ :: _,[],h=>by simp at h
theorem cmpL_trans:∀ (x y z:List Int),x.length = y.length -> y.length = z.length -> ¬ cmpL y x < 0 -> ¬ cmpL z y < 0 -> ¬ cmpL z x < 0
 | [],[],[],_,_,_,_=>by simp [cmpL]
 | a :: x,b :: y,c :: z,h,h',h1,h2=>by
  simp only [cmpL] at h1 h2 ⊢
  have key:∀ (p q:Int) (r:Int),(if (cmpI p q != 0) = true then cmpI p q else r) < 0 ↔ p < q \/ (p = q /\ r < 0):=by
   intro p q r
   by_cases hpq:p = q
   ·subst hpq
    have:cmpI p p = 0:=(cmpI_zero p p).2 rfl
    simp [this]
   ·rw [if_pos (by rw [bne_iff_ne,ne_eq,cmpI_zero];exact hpq),cmpI_lt]
    constructor
    ·exact .inl
    ·rintro (h | h)
     ·exact h
     ·exact (hpq h.1).elim
  rw [key] at h1 h2 ⊢
  rintro (h3 | ⟨h3,h4⟩)
  ·by_cases hba:b = a
   ·exact h2 (.inl (by omega))
   ·by_cases hcb:c < b
    ·exact h2 (.inl hcb)
    ·exact h1 (.inl (by omega))
  ·by_cases hba:b < a
   ·exact h1 (.inl hba)
   ·by_cases hcb:c < b
    ·exact h2 (.inl hcb)
    ·have e1:b = a:=by omega
     have e2:c = b:=by omega
     exact cmpL_trans x y z (by simpa using h) (by simpa using h') (fun h=>h1 (.inr ⟨e1,h⟩)) (fun h=>h2 (.inr ⟨e2,h⟩)) h4
 | [],_ :: _,_,h,_,_,_=>by simp at h
 | _ :: _,[],_,h,_,_,_=>by simp at h
 | [],[],_ :: _,_,h,_,_=>by simp at h
 | _ :: _,_ :: _,[],_,h,_,_=>by simp at h
def keyI (x:Itm):List Int:=-x.prio :: x.expires :: idL x.id
theorem keyI_len (a b:Itm):(keyI a).length = (keyI b).length:=rfl
theorem cmpItm_key (a b:Itm):cmpItm a b < 0 ↔ cmpL (keyI a) (keyI b) < 0:=by
 unfold cmpItm keyI
 simp only [cmpL,orL]
 have e1:cmpI (-a.prio) (-b.prio) = cmpI b.prio a.prio:=by
  unfold cmpI
  by_cases h1:b.prio < a.prio
  ·rw [if_pos (by omega),if_pos h1]
  ·rw [if_neg (by omega),if_neg h1]
   by_cases h2:b.prio > a.prio
   ·rw [if_pos (by omega),if_pos h2]
   ·rw [if_neg (by omega),if_neg h2]
 rw [e1]
 split
 ·rfl
 split
 ·rfl
 unfold cmpId lessId
 by_cases h:cmpL (idL a.id) (idL b.id) < 0
 ·simp [h]
 ·simp only [h,decide_false,Bool.false_eq_true,if_false,iff_false]
  split <;> split <;> simp
theorem ltD_asymm (d:Dur) (x y:Int) (h:ltD d x y = true):ltD d y x = false:=by
 unfold ltD at h ⊢
 rw [decide_eq_true_eq,cmpItm_key,cmpL_anti _ _ (keyI_len _ _)] at h
 rw [decide_eq_false_iff_not,cmpItm_key]
 omega
theorem ltD_trans (d:Dur) (x y z:Int) (h1:ltD d y x = false) (h2:ltD d z y = false):ltD d z x = false:=by
 unfold ltD at h1 h2 ⊢
 rw [decide_eq_false_iff_not,cmpItm_key] at h1 h2 ⊢
 exact cmpL_trans _ _ _ (keyI_len _ _) (keyI_len _ _) h1 h2
end Go.Proofs.YtggjngbighkdgaaGreat
namespace Go.Proofs.YtggjngbighkdgaaGreat
open Go.Sy Go.Mb
def sw (L:List Int) (i j:Nat):List Int:=(L.set i (L.getD j default)).set j (L.getD i default)
theorem getD_app {A B:List Int} {k i:Nat} (h:k = A.length + i):(A ++ B).getD k default = B.getD i default:=by
 subst h
 simp only [List.getD]
 rw [List.getElem?_append_right (by omega)]
 congr 2
 omega
theorem getD_app' {A B:List Int} {k:Nat} (h:k < A.length):(A ++ B).getD k default = A.getD k default:=by
 simp only [List.getD]
 rw [List.getElem?_append_left h]
theorem set_app {A B:List Int} {k i:Nat} (h:k = A.length + i) (x:Int):(A ++ B).set k x = A ++ B.set i x:=by
 subst h
 rw [List.set_append_right _ _ (by omega)]
 congr 2
 omega
theorem sw_split (A C B:List Int) (x y:Int) {i j:Nat} (hi:i = A.length) (hj:j = A.length + 1 + C.length):sw (A ++ x :: (C ++ y :: B)) i j = A ++ y :: (C ++ x :: B):=by
 unfold sw
 have e1:(A ++ x :: (C ++ y :: B)).getD j default = y:=by
  rw [getD_app (i:=1 + C.length) (by omega),show x :: (C ++ y :: B) = (x :: C) ++ y :: B from rfl,getD_app (i:=0) (by simp;omega)]
  rfl
 have e2:(A ++ x :: (C ++ y :: B)).getD i default = x:=by rw [getD_app (i:=0) (by omega)];rfl
 rw [e1,e2,set_app (i:=0) (by omega)]
 show (A ++ y :: (C ++ y :: B)).set j x = _
 rw [set_app (i:=1 + C.length) (by omega),show y :: (C ++ y :: B) = (y :: C) ++ y :: B from rfl,set_app (i:=0) (by simp;omega)]
 rfl
theorem swp_split (A B:List Int) (x y:Int) {i:Nat} (hi:i = A.length):swp (A ++ x :: y :: B) i = A ++ y :: x :: B:=by
 unfold swp
 have e1:(A ++ x :: y :: B).getD i default = x:=by rw [getD_app (i:=0) (by omega)];rfl
 have e2:(A ++ x :: y :: B).getD (i + 1) default = y:=by rw [getD_app (i:=1) (by omega)];rfl
 rw [e1,e2,set_app (i:=1) (by omega),set_app (i:=0) (by omega)]
 rfl
theorem take_getD {l:List Int} {i:Nat} (h:i < l.length):l.take (i + 1) = l.take i ++ [l.getD i default]:=by
 rw [List.take_add_one,List.getD,List.getElem?_eq_getElem h];rfl
theorem drop_getD {l:List Int} {i:Nat} (h:i < l.length):l.drop i = l.getD i default :: l.drop (i + 1):=by
 rw [List.drop_eq_getElem_cons h,List.getD,List.getElem?_eq_getElem h];rfl
def swS (A u C v B:List Int) (i:Nat):List Int:=A ++ (v.take i ++ (u.drop i ++ (C ++ (u.take i ++ (v.drop i ++ B)))))
theorem swS_zero (A u C v B:List Int):swS A u C v B 0 = A ++ (u ++ (C ++ (v ++ B))):=by simp [swS]
theorem swS_end (A u C v B:List Int) {n:Nat} (h1:u.length = n) (h2:v.length = n):swS A u C v B n = A ++ (v ++ (C ++ (u ++ B))):=by
 subst h1
 unfold swS
 rw [List.take_length,List.drop_length,List.take_of_length_le (by omega),List.drop_eq_nil_of_le (by omega)]
 simp
theorem swS_len (A u C v B:List Int) (i:Nat):(swS A u C v B i).length = A.length + u.length + C.length + v.length + B.length:=by
 unfold swS
 simp only [List.length_append,List.length_take,List.length_drop]
 omega
theorem swS_step (A u C v B:List Int) {i a b:Nat} (hu:i < u.length) (hv:u.length = v.length) (ha:a = A.length + i) (hb:b = A.length + u.length + C.length + i):sw (swS A u C v B i) a b = swS A u C v B (i + 1):=by
 have e:=sw_split (A ++ v.take i) (u.drop (i + 1) ++ (C ++ u.take i)) (v.drop (i + 1) ++ B) (u.getD i default) (v.getD i default) (i:=a) (j:=b) (by simp;omega) (by simp;omega)
 unfold swS
 rw [drop_getD hu,drop_getD (l:=v) (by omega),take_getD hu,take_getD (l:=v) (by omega)]
 simp only [List.append_assoc,List.cons_append,List.nil_append] at e ⊢
 exact e
def mvL (A v B:List Int) (x:Int) (t:Nat):List Int:=A ++ (v.take t ++ (x :: (v.drop t ++ B)))
theorem mvL_zero (A v B:List Int) (x:Int):mvL A v B x 0 = A ++ (x :: (v ++ B)):=by simp [mvL]
theorem mvL_end (A v B:List Int) (x:Int) {n:Nat} (h:n = v.length):mvL A v B x n = A ++ (v ++ (x :: B)):=by subst h;simp [mvL]
theorem mvL_len (A v B:List Int) (x:Int) (t:Nat):(mvL A v B x t).length = A.length + v.length + 1 + B.length:=by
 unfold mvL
 simp only [List.length_append,List.length_cons,List.length_take,List.length_drop]
 omega
theorem mvL_up (A v B:List Int) (x:Int) {t k:Nat} (h:t < v.length) (hk:k = A.length + t):swp (mvL A v B x t) k = mvL A v B x (t + 1):=by
 have e:=swp_split (A ++ v.take t) (v.drop (t + 1) ++ B) x (v.getD t default) (i:=k) (by simp;omega)
 unfold mvL
 rw [drop_getD h,take_getD h]
 simp only [List.append_assoc,List.cons_append,List.nil_append] at e ⊢
 exact e
theorem mvL_down (A v B:List Int) (x:Int) {t k:Nat} (h:t < v.length) (hk:k = A.length + t):swp (mvL A v B x (t + 1)) k = mvL A v B x t:=by
 have e:=swp_split (A ++ v.take t) (v.drop (t + 1) ++ B) (v.getD t default) x (i:=k) (by simp;omega)
 unfold mvL
 rw [drop_getD h,take_getD h]
 simp only [List.append_assoc,List.cons_append,List.nil_append] at e ⊢
 exact e
section
variable (lt:Int -> Int -> Bool)
def Asc (l:List Int):Prop:=l.Pairwise fun a b=>lt b a = false
structure OrdOn (p:Int -> Prop):Prop where
 asymm:∀ x y,lt x y = true -> lt y x = false
 trans:∀ x y z,lt y x = false -> lt z y = false -> lt z x = false
 anti:∀ x y,p x -> p y -> lt x y = false -> lt y x = false -> x = y
variable {lt} {p:Int -> Prop} (O:OrdOn lt p)
include O
theorem OrdOn.le (x:Int):lt x x = false:=by
 cases h:lt x x with
 | false=>rfl
 | true=>exact h ▸ O.asymm x x h
theorem OrdOn.uniq {l m:List Int} (hp:∀ x ∈ l,p x) (h:l.Perm m) (h1:Asc lt l) (h2:Asc lt m):l = m:=
 List.Perm.eq_of_pairwise (le:=fun a b=>lt b a = false) (fun a b ha hb h3 h4=>O.anti a b (hp a ha) (hp b (h.symm.subset hb)) h4 h3) h1 h2 h
theorem OrdOn.total (x y:Int):lt y x = false \/ lt x y = false:=by
 cases h:lt y x with
 | false=>exact .inl rfl
 | true=>exact .inr (O.asymm _ _ h)
theorem OrdOn.sort (l:List Int):∃ m:List Int,m.Perm l /\ Asc lt m:=by
 refine ⟨l.mergeSort (fun a b=>!lt b a),List.mergeSort_perm _ _,?_⟩
 have h:=List.pairwise_mergeSort (le:=fun a b=>!lt b a) (fun a b c h1 h2=>by simp at h1 h2 ⊢;exact O.trans _ _ _ h1 h2) (fun a b=>by
  rcases O.total a b with h | h <;> simp [h]) l
 exact h.imp (fun h=>by simpa using h)
theorem Asc.get {l:List Int} (h:Asc lt l) {i j:Nat} (hij:i <= j) (hj:j < l.length):lt (l.getD j default) (l.getD i default) = false:=by
 rcases Nat.lt_or_ge i j with h1 | h1
 ·have:=(List.pairwise_iff_getElem.1 h) i j (by omega) hj h1
  rw [getD_lt (i:=i) (by omega),getD_lt hj]
  exact this
 ·have:i = j:=by omega
  subst this
  exact O.le _
theorem mem_takeD {l:List Int} {x:Int} {k:Nat} (hx:x ∈ l.take k):∃ i,i < k /\ i < l.length /\ x = l.getD i default:=by
 obtain ⟨i,hi,e⟩:=List.mem_iff_getElem.1 hx
 rw [List.length_take] at hi
 refine ⟨i,by omega,by omega,?_⟩
 rw [getD_lt (by omega),<- e,List.getElem_take]
theorem mem_dropD {l:List Int} {x:Int} {k:Nat} (hx:x ∈ l.drop k):∃ i,k <= i /\ i < l.length /\ x = l.getD i default:=by
 obtain ⟨i,hi,e⟩:=List.mem_iff_getElem.1 hx
 rw [List.length_drop] at hi
 refine ⟨k + i,by omega,by omega,?_⟩
 rw [getD_lt (by omega),<- e,List.getElem_drop]
theorem asc_cut {u v W1 W2:List Int} {k h:Nat} (hk:k <= u.length) (hh:h <= v.length) (hu:Asc lt u) (hv:Asc lt v) (hx:0 < k -> h < v.length -> lt (v.getD h default) (u.getD (k - 1) default) = false)
  (hy:k < u.length -> 0 < h -> lt (v.getD (h - 1) default) (u.getD k default) = true) (h1:Asc lt W1) (h2:Asc lt W2) (p1:W1.Perm (u.take k ++ v.take h)) (p2:W2.Perm (u.drop k ++ v.drop h)):
  Asc lt (W1 ++ W2) /\ (W1 ++ W2).Perm (u ++ v):=by
 constructor
 ·unfold Asc
  rw [List.pairwise_append]
  refine ⟨h1,h2,fun x hx1 y hy2=>?_⟩
  rcases List.mem_append.1 (p1.subset hx1) with hx1 | hx1 <;> rcases List.mem_append.1 (p2.subset hy2) with hy2 | hy2
  ·obtain ⟨i,a1,a2,rfl⟩:=mem_takeD O hx1
   obtain ⟨j,b1,b2,rfl⟩:=mem_dropD O hy2
   exact Asc.get O hu (by omega) b2
  ·obtain ⟨i,a1,a2,rfl⟩:=mem_takeD O hx1
   obtain ⟨j,b1,b2,rfl⟩:=mem_dropD O hy2
   exact O.trans _ _ _ (O.trans _ _ _ (Asc.get O hu (i:=i) (j:=k - 1) (by omega) (by omega)) (hx (by omega) (by omega))) (Asc.get O hv b1 b2)
  ·obtain ⟨i,a1,a2,rfl⟩:=mem_takeD O hx1
   obtain ⟨j,b1,b2,rfl⟩:=mem_dropD O hy2
   exact O.trans _ _ _ (O.trans _ _ _ (Asc.get O hv (i:=i) (j:=h - 1) (by omega) (by omega)) (O.asymm _ _ (hy (by omega) (by omega)))) (Asc.get O hu b1 b2)
  ·obtain ⟨i,a1,a2,rfl⟩:=mem_takeD O hx1
   obtain ⟨j,b1,b2,rfl⟩:=mem_dropD O hy2
   exact Asc.get O hv (by omega) b2
 ·refine (p1.append p2).trans ?_
  conv=>rhs;rw [<- List.take_append_drop k u,<- List.take_append_drop h v]
  simp only [List.append_assoc]
  refine List.Perm.append_left _ ?_
  rw [<- List.append_assoc,<- List.append_assoc]
  exact List.Perm.append_right _ List.perm_append_comm
theorem asc_one {v:List Int} {x:Int} {k:Nat} (hk:k <= v.length) (hv:Asc lt v) (hx:0 < k -> lt x (v.getD (k - 1) default) = false) (hy:k < v.length -> lt (v.getD k default) x = false):Asc lt (v.take k ++ x :: v.drop k):=by
 unfold Asc
 rw [List.pairwise_append]
 refine ⟨hv.sublist (List.take_sublist _ _),List.pairwise_cons.2 ⟨fun y hy2=>?_,hv.sublist (List.drop_sublist _ _)⟩,fun y hy1 z hz=>?_⟩
 ·obtain ⟨j,b1,b2,rfl⟩:=mem_dropD O hy2
  exact O.trans _ _ _ (hy (by omega)) (Asc.get O hv b1 b2)
 ·obtain ⟨i,a1,a2,rfl⟩:=mem_takeD O hy1
  rcases List.mem_cons.1 hz with rfl | hz
  ·exact O.trans _ _ _ (Asc.get O hv (i:=i) (j:=k - 1) (by omega) (by omega)) (hx (by omega))
  ·obtain ⟨j,b1,b2,rfl⟩:=mem_dropD O hz
   exact Asc.get O hv (by omega) b2
omit O in
theorem one_perm (v:List Int) (x:Int) (k:Nat):(v.take k ++ x :: v.drop k).Perm (x :: v):=by
 conv=>rhs;rw [<- List.take_append_drop k v]
 exact List.perm_middle
theorem sym_facts {A u v B:List Int} {a m b mid s0 r0 s:Nat} (ha:a = A.length) (hm:m = A.length + u.length) (hb:b = A.length + u.length + v.length) (hu:0 < u.length) (hv:0 < v.length) (hmid:mid = (a + b) / 2)
  (hc:(s0 = mid + m - b /\ r0 = mid /\ mid < m) \/ (s0 = a /\ r0 = m /\ m <= mid)) (h1:s0 <= s) (h2:s <= r0)
  (hx:s0 < s -> lt ((A ++ (u ++ (v ++ B))).getD (mid + m - 1 - (s - 1)) default) ((A ++ (u ++ (v ++ B))).getD (s - 1) default) = false) (hy:s < r0 -> lt ((A ++ (u ++ (v ++ B))).getD (mid + m - 1 - s) default) ((A ++ (u ++ (v ++ B))).getD s default) = true):
  (a <= s /\ s <= m /\ s <= mid /\ s - a <= u.length /\ mid - s <= v.length) /\ (0 < s - a -> mid - s < v.length -> lt (v.getD (mid - s) default) (u.getD (s - a - 1) default) = false) /\ (s - a < u.length -> 0 < mid - s -> lt (v.getD (mid - s - 1) default) (u.getD (s - a) default) = true):=by
 have gu:∀ i j,i < u.length -> j = a + i -> (A ++ (u ++ (v ++ B))).getD j default = u.getD i default:=fun i j hi e=>by rw [getD_app (i:=i) (by omega),getD_app' hi]
 have gv:∀ i j,i < v.length -> j = m + i -> (A ++ (u ++ (v ++ B))).getD j default = v.getD i default:=fun i j hi e=>by rw [getD_app (i:=u.length + i) (by omega),getD_app (i:=i) rfl,getD_app' hi]
 have hb1:a <= s /\ s <= m /\ s <= mid /\ s - a <= u.length /\ mid - s <= v.length:=by
  rcases hc with ⟨c1,c2,c3⟩ | ⟨c1,c2,c3⟩ <;> exact ⟨by omega,by omega,by omega,by omega,by omega⟩
 refine ⟨hb1,fun k1 k2=>?_,fun k1 k2=>?_⟩
 ·have:=hx (by rcases hc with ⟨c1,c2,c3⟩ | ⟨c1,c2,c3⟩ <;> omega)
  rw [gv (mid - s) _ k2 (by omega),gu (s - a - 1) _ (by omega) (by omega)] at this
  exact this
 ·have:=hy (by rcases hc with ⟨c1,c2,c3⟩ | ⟨c1,c2,c3⟩ <;> omega)
  rw [gv (mid - s - 1) _ (by omega) (by omega),gu (s - a) _ k1 (by omega)] at this
  exact this
inductive Blk (lt:Int -> Int -> Bool) (bs:Nat):List Int -> Prop
 | last (l:List Int):l.length <= bs -> Asc lt l -> Blk lt bs l
 | cons (u r:List Int):u.length = bs -> Asc lt u -> Blk lt bs r -> Blk lt bs (u ++ r)
omit O in
theorem Blk.append {bs:Nat} {R:List Int} (h:Blk lt bs R):∀ {bl:List (List Int)},(∀ u ∈ bl,u.length = bs /\ Asc lt u) -> Blk lt bs (bl.flatten ++ R)
 | [],_=>by simpa using h
 | u :: bl,hb=>by
  rw [List.flatten_cons,List.append_assoc]
  exact Blk.cons u _ (hb u (by simp)).1 (hb u (by simp)).2 (Blk.append h fun x hx=>hb x (List.mem_cons_of_mem _ hx))
omit O in
theorem Blk.one {bs:Nat} {l:List Int} (h:Blk lt bs l) (hl:l.length <= bs):Asc lt l:=by
 cases h with
 | last _ _ h2=>exact h2
 | cons u r h1 h2 h3=>
  rw [List.length_append] at hl
  have:r = []:=List.eq_nil_of_length_eq_zero (by omega)
  subst this
  rw [List.append_nil]
  exact h2
omit O in
theorem Blk.two {bs:Nat} {l:List Int} (h:Blk lt bs l) (hl:bs < l.length):∃ u r,l = u ++ r /\ u.length = bs /\ Asc lt u /\ Blk lt bs r:=by
 cases h with
 | last _ h1 _=>omega
 | cons u r h1 h2 h3=>exact ⟨u,r,rfl,h1,h2,h3⟩
omit O in
theorem Blk.full {bs:Nat} {l:List Int} (h:Blk lt bs l) (hl:bs <= l.length):∃ u r,l = u ++ r /\ u.length = bs /\ Asc lt u /\ Blk lt bs r:=by
 cases h with
 | last _ h1 h2=>exact ⟨l,[],by simp,by omega,h2,.last [] (by simp) List.Pairwise.nil⟩
 | cons u r h1 h2 h3=>exact ⟨u,r,rfl,h1,h2,h3⟩
end
end Go.Proofs.YtggjngbighkdgaaGreat
