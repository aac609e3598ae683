import Derived.Test.YtjhmdfofhnijeaaGreatDoorQ2
import Derived.Test.YtjhmdfofhnijeaaGreatDoorF1
set_option linter.unusedSimpArgs false
set_option linter.unusedSectionVars false
set_option linter.unusedVariables false
namespace Go.Proofs.YtjhmdfofhnijeaaGreatDoor
open Go.Sy Go.Mb
set_option maxRecDepth 100000
set_option maxHeartbeats 4000000
def quoM (t:Tbl) (node time:Int):Int:=holdsM node time t.hlds (t.plan.qs.getD node.toNat 0)
theorem roomM_quo {t:Tbl} {d:Dem} {node:Int} (h1:node ≠ d.src) (h2:node ≠ d.dst) (time:Int):roomM t d node time = quoM t node time:=by
 unfold roomM
 rw [if_neg (by rintro (h | h);exact h1 h;exact h2 h)];rfl
theorem croom_ok (t:Tbl) (hp:OkT t) (node time:Int) (hn:0 <= node /\ node < (t.plan.qs.length:Int)):FnOK Tryz.prog 26 [.agg t.cells,.int .i64 node,.int .i64 time] (.int .i64 (quoM t node time),none):=by
 obtain ⟨R,hR⟩:∃ R,R = quoM t node time:=⟨_,rfl⟩
 rw [<- hR]
 unfold quoM at hR
 have hl:=hp.h.len
 have hq:=hp.p.qs (t.plan.qs.getD node.toNat default) (by rw [getD_lt (by omega)];exact List.getElem_mem _)
 refine fn_ok CM rfl (by kernel_rfl) Tryz.func26 rfl ?_
 refine zG zE (NS.need (by show decide (0 <= node /\ node < (t.plan.qs.length:Int)) = true;exact decide_eq_true hn) ?_)
 refine zG zE ?_
 refine NS.loop (σ:={ q:Nat × Int // q.1 <= t.hlds.length /\ holdsM node time (t.hlds.drop q.1) q.2 = R /\ -(65536 * (q.1:Int)) <= q.2 /\ q.2 <= 1073741824 }) (fun q=>[(1,.int .i64 node),(2,.int .i64 time),(7,.int .i64 q.1.2),(17,slHld t.hlds),(18,.int .i64 t.hlds.length),(19,.int .i64 (q.1.1:Nat))]) (fun _=>[]) (fun q=>t.hlds.length - q.1.1) ⟨(0,t.plan.qs.getD node.toNat default),Nat.zero_le _,hR.symm,by show -(65536 * (0:Int)) <= _;omega,hq.2⟩ ?_ ?_
 ·exact weak_hd [] rfl ⟨rfl,rfl,rfl,rfl,rfl,rfl,trivial⟩ trivial trivial (by kernel_rfl)
 rintro ⟨⟨k,n⟩,hk,hx,h1,h2⟩
 have hk:k <= t.hlds.length:=hk
 have hx:holdsM node time (t.hlds.drop k) n = R:=hx
 have h1:-(65536 * (k:Int)) <= n:=h1
 have h2:n <= 1073741824:=h2
 by_cases c:k < t.hlds.length
 ·have hs:=hp.h.all (t.hlds.getD k default) (by rw [getD_lt c];exact List.getElem_mem _)
  have hs:=hs.size
  rw [drop_cons c,holdsM] at hx
  refine zG zE (NS.yes (by show decide ((k:Int) < (t.hlds.length:Int)) = true;exact decide_eq_true (by omega)) ?_)
  refine zG zE (NS.need (in_row c) ?_)
  refine zG zE (NS.ite (fun b1=>?_) (fun b1=>?_))
  ·have b1:((t.hlds.getD k default).node == node) = true:=b1
   refine zG zE (NS.ite (fun b2=>?_) (fun b2=>?_))
   ·have b2:decide ((t.hlds.getD k default).fr <= time) = true:=b2
    refine zG zE (NS.ite (fun b3=>?_) (fun b3=>?_))
    ·have b3:decide (time < (t.hlds.getD k default).to) = true:=b3
     rw [if_pos (by unfold inH;rw [b1,b2,b3];rfl)] at hx
     have e1:IntKind.i64.wrap (n - (t.hlds.getD k default).size) = n - (t.hlds.getD k default).size:=wrap_i64 (by omega) (by omega)
     refine zG zE (NS.next ⟨(k + 1,n - (t.hlds.getD k default).size),c,hx,by show -(65536 * ((k + 1:Nat):Int)) <= n - _;omega,by show n - _ <= 1073741824;omega⟩ (by show t.hlds.length - (k + 1) < t.hlds.length - k;omega) ?_)
     exact weak_hd [] rfl ⟨rfl,rfl,ren_int rfl e1,rfl,rfl,ren_int rfl (i64_k c (by omega)),trivial⟩ trivial trivial (by kernel_rfl)
    ·have b3:decide (time < (t.hlds.getD k default).to) = false:=b3
     rw [if_neg (by unfold inH;rw [b3];simp)] at hx
     refine zG zE (NS.next ⟨(k + 1,n),c,hx,by show -(65536 * ((k + 1:Nat):Int)) <= n;omega,h2⟩ (by show t.hlds.length - (k + 1) < t.hlds.length - k;omega) ?_)
     exact weak_hd [] rfl ⟨rfl,rfl,rfl,rfl,rfl,ren_int rfl (i64_k c (by omega)),trivial⟩ trivial trivial (by kernel_rfl)
   ·have b2:decide ((t.hlds.getD k default).fr <= time) = false:=b2
    rw [if_neg (by unfold inH;rw [b2];simp)] at hx
    refine zG zE (NS.next ⟨(k + 1,n),c,hx,by show -(65536 * ((k + 1:Nat):Int)) <= n;omega,h2⟩ (by show t.hlds.length - (k + 1) < t.hlds.length - k;omega) ?_)
    exact weak_hd [] rfl ⟨rfl,rfl,rfl,rfl,rfl,ren_int rfl (i64_k c (by omega)),trivial⟩ trivial trivial (by kernel_rfl)
  ·have b1:((t.hlds.getD k default).node == node) = false:=b1
   rw [if_neg (by unfold inH;rw [b1];simp)] at hx
   refine zG zE (NS.next ⟨(k + 1,n),c,hx,by show -(65536 * ((k + 1:Nat):Int)) <= n;omega,h2⟩ (by show t.hlds.length - (k + 1) < t.hlds.length - k;omega) ?_)
   exact weak_hd [] rfl ⟨rfl,rfl,rfl,rfl,rfl,ren_int rfl (i64_k c (by omega)),trivial⟩ trivial trivial (by kernel_rfl)
 ·have c:t.hlds.length = k:=by omega
  subst c
  refine zG zE (NS.no (by show decide ((t.hlds.length:Int) < (t.hlds.length:Int)) = false;exact decide_eq_false (Int.lt_irrefl _)) ?_)
  refine zG zE (NS.leave rfl zE ?_)
  rw [List.drop_length,holdsM] at hx
  refine zG zE (NS.ret rfl rfl (LeA.intE hx))
theorem arrival_ok (c:Ctc) (u:Int):FnOK Tryz.prog 30 [.agg c.cells,.int .i64 u] (.int .i64 (IntKind.i64.wrap (IntKind.i64.wrap (u + 1) + c.rng)),none):=by
 refine fn_ok CM rfl (by kernel_rfl) Tryz.func30 rfl ?_
 exact zG zE (NS.ret rfl rfl (LeA.refl _))
theorem booked1_ok (x:Spn) (u:Int):FnOK Tryz.prog 64 [.agg x.cells,.ip 1 (getA [.int .i64 u])] (.bool (has1 u x),none):=by
 refine fn_ok CM rfl (by kernel_rfl) Tryz.func64 rfl ?_
 repeat' (first | (refine zG zE (NS.ite (fun h=>?_) (fun h=>?_))) | (refine zG zE (NS.chk (by kernel_rfl) ?_)) | (exact zG zE (NS.ret rfl rfl (LeA.of (congrArg A.bool (by unfold has1;simp only [*,Bool.true_and,Bool.false_and]))))))
theorem booked_ok (t:Tbl) (ct u:Int) (hl:t.bks.length <= 1000000):FnOK Tryz.prog 31 [.agg t.cells,.int .i64 ct,.int .i64 u] (.bool ((busyM t.bks ct).any (has1 u)),none):=by
 have h1:=busyM_len t.bks ct
 refine fn_ok CM rfl (by kernel_rfl) Tryz.func31 rfl ?_
 refine zG zE (NS.call (busy_ok t.bks ct hl) rfl ?_)
 refine zG zE (NS.call (contS_ok (busyM t.bks ct) (by omega) 64 1 (getA [.int .i64 u]) (has1 u) (fun x _=>booked1_ok x u)) rfl ?_)
 exact zG zE (NS.ret rfl rfl (LeA.refl _))
def chkShp (t:Tbl) (d:Dem) (x:Shp):Int:=
 if x.ct < 0 \/ x.ct >= (t.plan.cts.length:Int) then 2
 else if x.tm < (if (ctS t x).start > d.ready then (ctS t x).start else d.ready) \/ x.tm >= (ctS t x).stop \/ x.n < 1 \/ x.n > (ctS t x).rate then 2
 else if arvS t x > d.dead then 16
 else if (busyM t.bks x.ct).any (has1 x.tm) = true then 14 else 0
theorem chkShp_ok {t:Tbl} {d:Dem} {x:Shp}:chkShp t d x = 0 ↔ OkS t d x:=by
 have key:OkS t d x ↔ (0 <= x.ct /\ x.ct < (t.plan.cts.length:Int)) /\ (1 <= x.n /\ x.n <= (ctS t x).rate) /\ ((ctS t x).start <= x.tm /\ x.tm < (ctS t x).stop /\ d.ready <= x.tm /\ arvS t x <= d.dead /\ (0 <= x.ct -> (busyM t.bks x.ct).any (has1 x.tm) = false)):=by
  constructor
  ·rintro ⟨h1,h2,h3⟩
   obtain ⟨g1,g2,g3,g4,g5⟩:=okT_iff.1 h3
   refine ⟨h1,h2,g1,g2,g3,g4,fun _=>?_⟩
   rw [List.any_eq_false]
   intro y hy
   have e:((x.ct.toNat:Nat):Int) = x.ct:=Int.toNat_of_nonneg h1.1
   have:=g5 y (by rw [e];exact hy)
   unfold has1
   simpa [inS] using this
  ·rintro ⟨h1,h2,g1,g2,g3,g4,g5⟩
   refine ⟨h1,h2,okT_iff.2 ⟨g1,g2,g3,g4,fun y hy=>?_⟩⟩
   have e:((x.ct.toNat:Nat):Int) = x.ct:=Int.toNat_of_nonneg h1.1
   rw [e] at hy
   have:=List.any_eq_false.1 (g5 h1.1) y hy
   unfold has1 at this
   simpa [inS] using this
 rw [key]
 unfold chkShp
 by_cases a:x.ct < 0 \/ x.ct >= (t.plan.cts.length:Int)
 ·rw [if_pos a];omega
 rw [if_neg a]
 by_cases b:x.tm < (if (ctS t x).start > d.ready then (ctS t x).start else d.ready) \/ x.tm >= (ctS t x).stop \/ x.n < 1 \/ x.n > (ctS t x).rate
 ·rw [if_pos b]
  split at b <;> omega
 rw [if_neg b]
 by_cases c:arvS t x > d.dead
 ·rw [if_pos c];omega
 rw [if_neg c]
 cases e:(busyM t.bks x.ct).any (has1 x.tm) with
 | true=>simp;omega
 | false=>
  simp
  split at b <;> omega
theorem checkShp_ok (t:Tbl) (d:Dem) (x:Shp) (ok:OkT t):FnOK Tryz.prog 22 [.agg t.cells,.agg d.cells,.agg x.cells] (.int .i64 (chkShp t d x),none):=by
 obtain ⟨R,hR⟩:∃ R,R = chkShp t d x:=⟨_,rfl⟩
 rw [<- hR]
 unfold chkShp at hR
 refine fn_ok CM rfl (by kernel_rfl) Tryz.func22 rfl ?_
 refine zG zE (NS.ite (fun a=>?_) (fun a=>?_))
 ·have a:x.ct < 0:=of_decide_eq_true (show decide (x.ct < 0) = true from a)
  exact zG zE (NS.ret rfl rfl (LeA.of (congrArg (A.int .i64) (by rw [hR,if_pos (.inl a)]))))
 have a:¬ x.ct < 0:=of_decide_eq_false (show decide (x.ct < 0) = false from a)
 refine zG zE (NS.ite (fun b=>?_) (fun b=>?_))
 ·have b:x.ct >= (t.plan.cts.length:Int):=of_decide_eq_true (show decide (x.ct >= (t.plan.cts.length:Int)) = true from b)
  exact zG zE (NS.ret rfl rfl (LeA.of (congrArg (A.int .i64) (by rw [hR,if_pos (.inr b)]))))
 have b:¬ x.ct >= (t.plan.cts.length:Int):=of_decide_eq_false (show decide (x.ct >= (t.plan.cts.length:Int)) = false from b)
 rw [if_neg (by omega)] at hR
 have okc:=ok.p.cts (ctS t x) (by unfold ctS;rw [getD_lt (show x.ct.toNat < _ by omega)];exact List.getElem_mem _)
 have hst:=okc.time
 have hrg:=okc.rng
 have hbl:=ok.b.len
 refine zG zE (NS.need (decide_eq_true (by show 0 <= x.ct /\ x.ct < (t.plan.cts.length:Int);omega)) ?_)
 refine zG zE (NS.ite (fun c1=>?_) (fun c1=>?_))
 ·have c1:x.tm < (if (ctS t x).start > d.ready then (ctS t x).start else d.ready):=of_decide_eq_true (show decide (x.tm < (if (ctS t x).start > d.ready then (ctS t x).start else d.ready)) = true from c1)
  exact zG zE (NS.ret rfl rfl (LeA.of (congrArg (A.int .i64) (by rw [hR,if_pos (.inl c1)]))))
 have c1:¬ x.tm < (if (ctS t x).start > d.ready then (ctS t x).start else d.ready):=of_decide_eq_false (show decide (x.tm < (if (ctS t x).start > d.ready then (ctS t x).start else d.ready)) = false from c1)
 refine zG zE (NS.ite (fun c2=>?_) (fun c2=>?_))
 ·have c2:x.tm >= (ctS t x).stop:=of_decide_eq_true (show decide (x.tm >= (ctS t x).stop) = true from c2)
  exact zG zE (NS.ret rfl rfl (LeA.of (congrArg (A.int .i64) (by rw [hR,if_pos (.inr (.inl c2))]))))
 have c2:¬ x.tm >= (ctS t x).stop:=of_decide_eq_false (show decide (x.tm >= (ctS t x).stop) = false from c2)
 refine zG zE (NS.ite (fun c3=>?_) (fun c3=>?_))
 ·have c3:x.n < 1:=of_decide_eq_true (show decide (x.n < 1) = true from c3)
  exact zG zE (NS.ret rfl rfl (LeA.of (congrArg (A.int .i64) (by rw [hR,if_pos (.inr (.inr (.inl c3)))]))))
 have c3:¬ x.n < 1:=of_decide_eq_false (show decide (x.n < 1) = false from c3)
 refine zG zE (NS.ite (fun c4=>?_) (fun c4=>?_))
 ·have c4:x.n > (ctS t x).rate:=of_decide_eq_true (show decide (x.n > (ctS t x).rate) = true from c4)
  exact zG zE (NS.ret rfl rfl (LeA.of (congrArg (A.int .i64) (by rw [hR,if_pos (.inr (.inr (.inr c4)))]))))
 have c4:¬ x.n > (ctS t x).rate:=of_decide_eq_false (show decide (x.n > (ctS t x).rate) = false from c4)
 have hc:¬ (x.tm < (if (ctS t x).start > d.ready then (ctS t x).start else d.ready) \/ x.tm >= (ctS t x).stop \/ x.n < 1 \/ x.n > (ctS t x).rate):=by
  rintro (h | h | h | h)
  ·exact c1 h
  ·exact c2 h
  ·exact c3 h
  ·exact c4 h
 rw [if_neg hc] at hR
 have t0:(ctS t x).start <= x.tm:=by split at c1 <;> omega
 have w1:IntKind.i64.wrap (IntKind.i64.wrap (x.tm + 1) + (ctS t x).rng) = arvS t x:=by rw [wrap_i64 (n:=x.tm + 1) (by omega) (by omega),wrap_i64 (by omega) (by omega)];rfl
 refine zG zE (NS.chk (by kernel_rfl) ?_)
 refine zG zE (NS.call (arrival_ok (ctS t x) x.tm) rfl ?_)
 rw [w1]
 refine zG zE (NS.ite (fun e=>?_) (fun e=>?_))
 ·have e:arvS t x > d.dead:=of_decide_eq_true (show decide (arvS t x > d.dead) = true from e)
  exact zG zE (NS.ret rfl rfl (LeA.of (congrArg (A.int .i64) (by rw [hR,if_pos e]))))
 have e:¬ arvS t x > d.dead:=of_decide_eq_false (show decide (arvS t x > d.dead) = false from e)
 rw [if_neg e] at hR
 refine zG zE (NS.call (booked_ok t x.ct x.tm (by omega)) rfl ?_)
 refine zG zE (NS.ite (fun f=>?_) (fun f=>?_))
 ·have f:(busyM t.bks x.ct).any (has1 x.tm) = true:=f
  exact zG zE (NS.ret rfl rfl (LeA.of (congrArg (A.int .i64) (by rw [hR,if_pos f]))))
 ·have f:(busyM t.bks x.ct).any (has1 x.tm) = false:=f
  exact zG zE (NS.ret rfl rfl (LeA.of (congrArg (A.int .i64) (by rw [hR,if_neg (by rw [f];decide)]))))
noncomputable def CSt:Cx:={ E:=EM,inl:=[59,119],ok:=EM_ok }
def rrN (n:Nat) (len:Nat -> Nat) (el:Nat -> Nat -> Int) (hole:Option (Nat × Go.Sy.A)):Ob:=.rr 22 3 1 n len (fun a b _=>.int .i64 (el a b)) hole
def rbF (E:Nat -> Nat -> Int) (A:Nat) (c:Int) (lo hi b:Nat):Int:=if lo <= b /\ b < hi then E A b + c else E A b
theorem rbF_0 (E:Nat -> Nat -> Int) (A:Nat) (c:Int) (lo b:Nat):rbF E A c lo lo b = E A b:=if_neg (by omega)
theorem rbF_succ {E:Nat -> Nat -> Int} {A:Nat} {c:Int} {lo m:Nat} (h:lo <= m) (b:Nat):rbF E A c lo (m + 1) b = if b = m then E A m + c else rbF E A c lo m b:=by
 unfold rbF
 by_cases e:b = m
 ·subst e;rw [if_pos (by omega),if_pos rfl]
 ·rw [if_neg e]
  by_cases e1:lo <= b /\ b < m
  ·rw [if_pos e1,if_pos (by omega)]
  ·rw [if_neg e1,if_neg (by omega)]
theorem rbF_at (E:Nat -> Nat -> Int) (A:Nat) (c:Int) (lo m:Nat):rbF E A c lo m m = E A m:=if_neg (by omega)
theorem dlt_ne {d:Dem} {nd a β node b:Int} (h:nd ≠ node):dlt d nd a β node b = 0:=if_neg h
theorem rbS_dlt {d:Dem} {E:Nat -> Nat -> Int} {A K:Nat} {c β:Int} (hc:c = -β) (hs:(A:Int) = d.src) (b:Nat):rbF E A c 0 K b = E A b + dlt d (A:Int) (K:Int) β (A:Int) (b:Int):=by
 unfold rbF dlt
 rw [if_pos rfl,if_pos hs]
 (repeat' split) <;> omega
theorem rbO_dlt {d:Dem} {E:Nat -> Nat -> Int} {A K h:Nat} {β:Int} (hs:(A:Int) ≠ d.src) {b:Nat} (hb:b < h):rbF E A β K h b = E A b + dlt d (A:Int) (K:Int) β (A:Int) (b:Int):=by
 unfold rbF dlt
 rw [if_pos rfl,if_neg hs]
 (repeat' split) <;> omega
theorem stM_abs {t:Tbl} (ok:OkT t) {d:Dem} {l:List Shp} (hl:∀ x ∈ l,OkS t d x) (hlen:l.length <= 60) (a b:Int):-120000 <= stM t d l a b /\ stM t d l a b <= 120000:=by
 have h1:=st_bound ok hl a b
 have h2:∀ x ∈ l,(fun _=>(-2000:Int)) x <= stX t d a b x:=by
  intro x hx
  have h1:=rate_le ok (hl x hx)
  have h2:=(hl x hx).n
  show -2000 <= stX t d a b x
  unfold stX dlt
  (repeat' split) <;> omega
 have h3:=sumL_le h2
 have h4:∀ l:List Shp,sumL (fun _=>(-2000:Int)) l = -(2000 * l.length):=by
  intro l
  induction l with
  | nil=>rfl
  | cons x l ih=>simp only [sumL,List.length_cons,ih];push_cast;omega
 rw [h4] at h3
 unfold stM at h1 ⊢
 omega
theorem stocks_ok (t:Tbl) (d:Dem) (h:Nat) (l:List Shp) (ok:OkT t) (hd:OkD t.plan.qs.length d) (hH:d.dead = d.ready + h - 1 /\ 2 <= h /\ h <= 25) (hl:∀ x ∈ l,OkS t d x) (hlen:l.length <= 60):FnOK Tryz.prog 23 [.agg t.cells,.agg d.cells,slShp l] (.sl 1 t.plan.qs.length (fun a _=>.sl 1 h (fun b _=>.int .i64 (stM t d l a b))),none):=by
 have hN:=ok.p.n2
 have hN1:=ok.p.n1
 have hm:=ok.p.m
 have hr0:=hd.ready
 have hrd:=hd.dead
 have w0:IntKind.i64.wrap (IntKind.i64.wrap (d.dead - d.ready) + 1) = (h:Int):=by rw [wrap_i64 (n:=d.dead - d.ready) (by omega) (by omega),wrap_i64 (by omega) (by omega)];omega
 refine fn_ok CSt rfl (by kernel_rfl) Tryz.func23 rfl ?_
 refine zG zE (NS.need (decide_eq_true (by simp only [maxRow];omega)) ?_)
 refine zG zE ?_
 refine NS.loop (σ:={ i:Nat // i <= t.plan.qs.length }) (fun i=>[(2,slShp l),(3,.ptr 3 0),(4,.ptr 4 0),(7,.ptr 7 0),(8,.ptr 8 0),(26,.int .i64 t.plan.qs.length),(27,.int .i64 (i.1:Nat))]) (fun i=>[(3,.box t.cells),(4,.box d.cells),(7,.box [.int .i64 (h:Nat)]),(8,.box [.rv 40 t.plan.qs.length]),(40,rrN t.plan.qs.length (fun v=>if v < i.1 then h else 0) (fun _ _=>0) none)]) (fun i=>t.plan.qs.length - i.1) ⟨0,Nat.zero_le _⟩ ?_ ?_
 ·refine ((rr_new 24 40 3 1 (by rfl) (fun k hk=>rfl) rfl).cell 8 0 rfl rfl rfl).weak.trans ?_
  refine weak_hd [] rfl ⟨rfl,rfl,rfl,rfl,rfl,rfl,rfl,trivial⟩ ⟨⟨_,rfl,renTbl _ _⟩,⟨_,rfl,renDem _ _⟩,⟨_,rfl,_,_,rfl,ren_int rfl w0,rfl⟩,⟨_,rfl,_,_,rfl,rfl,rfl⟩,⟨_,_,_,rfl,fun i hi=>⟨?_,fun q hq j hj=>?_⟩,trivial⟩,trivial⟩ trivial (by kernel_rfl)
  ·show 0 = if i < 0 then h else 0
   rw [if_neg (Nat.not_lt_zero i)]
  ·exact absurd hq (by show ¬ q < if i < 0 then h else 0;rw [if_neg (Nat.not_lt_zero i)];exact Nat.not_lt_zero q)
 rintro ⟨i,hi⟩
 have hi:i <= t.plan.qs.length:=hi
 by_cases a:i < t.plan.qs.length
 ·refine Sat.wk ((rr_open 40 41 42 i rfl a rfl rfl (by decide)).cell 8 0 rfl rfl rfl).weak ?_
  refine zG zE (NS.yes (by show decide ((i:Int) < (t.plan.qs.length:Int)) = true;exact decide_eq_true (by omega)) ?_)
  refine zG zE (NS.chk (by kernel_rfl) ?_)
  refine zG zE (NS.need (decide_eq_true (by show 0 <= (h:Int) /\ (h:Int) <= (h:Int) /\ (h:Int).toNat * (7 + 1 + 1) <= maxRow;simp only [maxRow];omega)) ?_)
  refine zG zE (NS.need (in_row a) ?_)
  refine zG zE (NS.need (decide_eq_true rfl) ?_)
  refine zG zE (NS.next ⟨i + 1,a⟩ (by show t.plan.qs.length - (i + 1) < t.plan.qs.length - i;omega) ?_)
  refine ((rr_close 41 43 33 i rfl rfl rfl).cell 8 0 rfl rfl rfl).weak.trans ?_
  refine weak_hd [(40,43)] rfl ⟨rfl,rfl,rfl,rfl,rfl,rfl,ren_int rfl (i64_k a (by omega)),trivial⟩ ⟨⟨_,rfl,renTbl _ _⟩,⟨_,rfl,renDem _ _⟩,⟨_,rfl,_,_,rfl,rfl,rfl⟩,⟨_,rfl,_,_,rfl,rfl,rfl⟩,⟨_,_,_,rfl,fun v hv=>⟨?_,fun q hq j hj=>?_⟩,trivial⟩,trivial⟩ trivial (by kernel_rfl)
  ·show (if v = i then h else if v < i then h else 0) = if v < i + 1 then h else 0
   by_cases e:v = i
   ·rw [if_pos e,if_pos (by omega)]
   ·rw [if_neg e]
    by_cases e1:v < i
    ·rw [if_pos e1,if_pos (by omega)]
    ·rw [if_neg e1,if_neg (by omega)]
  ·show (if v = i then (fun q j=>getA [Go.Sy.A.int .i64 0] j) else (fun (_ _:Nat)=>Go.Sy.A.int .i64 0)) q j = Go.Sy.A.int .i64 0
   rw [Nat.lt_one_iff.1 hj]
   split <;> rfl
 have a:t.plan.qs.length = i:=by omega
 subst a
 refine zG zE (NS.no (by show decide ((t.plan.qs.length:Int) < (t.plan.qs.length:Int)) = false;exact decide_eq_false (Int.lt_irrefl _)) ?_)
 refine zG zE (NS.leave rfl zE ?_)
 refine zG zE ?_
 refine NS.loop (σ:={ k:Nat // k <= l.length }) (fun k=>[(0,.yld 92),(1,.ptr 91 0),(2,.ptr 90 0),(7,slShp l),(8,.int .i64 l.length),(9,.int .i64 (k.1:Nat))]) (fun k=>[(8,.box [.rv 100 t.plan.qs.length]),(40,.dead),(100,rrN t.plan.qs.length (fun _=>h) (fun a b=>stM t d (l.take k.1) a b) none)]) (fun k=>l.length - k.1) ⟨0,Nat.zero_le _⟩ ?_ ?_
 ·refine (((rr_open 40 101 102 0 rfl (show 0 < t.plan.qs.length by omega) rfl rfl (by decide)).cell 8 0 rfl rfl rfl).trans ((rr_close 101 100 102 0 rfl rfl rfl).cell 8 0 rfl rfl rfl)).weak.trans ?_
  refine weak_hd [] rfl ⟨rfl,rfl,rfl,rfl,rfl,rfl,trivial⟩ ⟨⟨_,rfl,_,_,rfl,rfl,rfl⟩,rfl,⟨_,_,_,rfl,fun i hi=>⟨?_,fun q hq j hj=>?_⟩,trivial⟩,trivial⟩ (Pre_cut (by kernel_rfl)) (by kernel_rfl)
  ·show (if i = 0 then (if 0 < t.plan.qs.length then h else 0) else if i < t.plan.qs.length then h else 0) = h
   rw [if_pos (show 0 < t.plan.qs.length by omega),if_pos hi]
   split <;> rfl
  ·show (if i = 0 then (fun (q j:Nat)=>Go.Sy.A.int .i64 0) else (fun (_ _:Nat)=>Go.Sy.A.int .i64 0)) q j = Go.Sy.A.int .i64 (stM t d [] i q)
   split <;> rfl
 rintro ⟨k,hk⟩
 have hk:k <= l.length:=hk
 by_cases a:k < l.length
 ·obtain ⟨x,hx⟩:∃ x,x = l.getD k default:=⟨_,rfl⟩
  have okx:=hl x (by rw [hx,getD_lt a];exact List.getElem_mem _)
  have hct:=okx.ct
  refine zG zE (NS.yes (by show decide ((k:Int) < (l.length:Int)) = true;exact decide_eq_true (by omega)) ?_)
  refine zG zE (NS.need (in_row a) ?_)
  refine zG zE (NS.need (decide_eq_true (by show 0 <= (l.getD k default).ct /\ (l.getD k default).ct < (t.plan.cts.length:Int);rw [<- hx];omega)) ?_)
  refine zG zE (NS.chk (by kernel_rfl) ?_)
  obtain ⟨A,B,K,J,sf⟩:=shF (h:=h) ok hH.1 okx
  have hfr:(t.plan.cts.getD (l.getD k default).ct.toNat default).fr = (A:Int):=by rw [<- hx];exact sf.fr
  have hto:(t.plan.cts.getD (l.getD k default).ct.toNat default).to = (B:Int):=by rw [<- hx];exact sf.to
  have hxn:=okx.n
  have hxr:=rate_le ok okx
  have hKJ:=sf.KJ
  have hJh:=sf.Jh
  have eK:IntKind.i64.wrap ((l.getD k default).tm - d.ready) = (K:Int):=by rw [<- hx,sf.hK,wrap_i64 (by omega) (by omega)]
  have eN:IntKind.i64.wrap (0 - (l.getD k default).n) = -x.n:=by rw [<- hx,wrap_i64 (by omega) (by omega)];omega
  obtain ⟨E,hE⟩:∃ E:Nat -> Nat -> Int,E = fun (a b:Nat)=>stM t d (l.take k) a b:=⟨_,rfl⟩
  have hEb:∀ a b,-120000 <= E a b /\ E a b <= 120000:=fun a b=>by rw [hE];exact stM_abs ok (fun x hx=>hl x (List.mem_of_mem_take hx)) (by rw [List.length_take];omega) a b
  have hAB:A ≠ B:=fun e=>(ok.p.cts (ctS t x) (by unfold ctS;rw [getD_lt (show x.ct.toNat < _ by omega)];exact List.getElem_mem _)).ne (by rw [sf.fr,sf.to,e])
  have eT:(l.getD k default).tm = x.tm:=by rw [hx]
  obtain ⟨V,hV⟩:∃ V,V = IntKind.i64.wrap (IntKind.i64.wrap ((l.getD k default).tm + 1) + (t.plan.cts.getD (l.getD k default).ct.toNat default).rng):=⟨_,rfl⟩
  have hst0:=(ok.p.cts (ctS t x) (by unfold ctS;rw [getD_lt (show x.ct.toNat < _ by omega)];exact List.getElem_mem _))
  have hti:=okT_iff.1 okx.tick
  have htm:=hst0.time
  have hrn:=hst0.rng
  have eV:IntKind.i64.wrap (IntKind.i64.wrap ((l.getD k default).tm + 1) + (t.plan.cts.getD (l.getD k default).ct.toNat default).rng) = arvS t x:=by
   have t1:(ctS t x).start <= x.tm:=hti.1
   have t2:x.tm < (ctS t x).stop:=hti.2.1
   rw [<- hx,wrap_i64 (n:=x.tm + 1) (by omega) (by omega),wrap_i64 (by show -9223372036854775808 <= x.tm + 1 + (ctS t x).rng;omega) (by show x.tm + 1 + (ctS t x).rng <= 9223372036854775807;omega)];rfl
  have eJ:IntKind.i64.wrap (IntKind.i64.wrap (IntKind.i64.wrap ((l.getD k default).tm + 1) + (t.plan.cts.getD (l.getD k default).ct.toNat default).rng) - d.ready) = (J:Int):=by rw [eV,sf.hJ,wrap_i64 (by omega) (by omega)]
  have eM:(l.getD k default).n = x.n:=by rw [hx]
  have hst:∀ a b:Int,stM t d (l.take (k + 1)) a b = stM t d (l.take k) a b + dlt d (A:Int) (K:Int) (-x.n) a b + dlt d (B:Int) (J:Int) x.n a b:=by
   intro a' b'
   unfold stM
   rw [take_snoc a,<- hx,sumL_append]
   simp only [sumL]
   unfold stX
   rw [sf.fr,sf.to,sf.hK,sf.hJ]
   omega
  by_cases sA:(A:Int) = d.src
  ·refine zG zE (NS.yes (by show ((t.plan.cts.getD (l.getD k default).ct.toNat default).fr == d.src) = true;rw [hfr];exact beq_iff_eq.2 sA) ?_)
   refine zG zE ?_
   refine NS.loop (σ:={ m:Nat // m <= K }) (fun m=>[(8,.ptr 8 0),(10,.ptr 149 0),(52,.int .i64 (K:Nat)),(53,.int .i64 (m.1:Nat))]) (fun m=>[(8,.box [.rv 151 t.plan.qs.length]),(100,.dead),(149,.box [.int .i64 (A:Nat),.int .i64 (x.tm),.int .i64 (-x.n)]),(151,rrN t.plan.qs.length (fun _=>h) E (some (A,.own 152))),(152,rowD (rbF E A (x.n) 0 m.1) h)]) (fun m=>K - m.1) ⟨0,Nat.zero_le _⟩ ?_ ?_
   ·refine ((rr_open 100 151 152 A rfl sf.hA rfl rfl (by decide)).cell 8 0 rfl rfl rfl).weak.trans ?_
    exact weak_hd [] rfl ⟨rfl,rfl,ren_int rfl (by show (if (h:Int) < IntKind.i64.wrap ((l.getD k default).tm - d.ready) then (h:Int) else IntKind.i64.wrap ((l.getD k default).tm - d.ready)) = (K:Int);rw [eK,if_neg (by omega)]),rfl,trivial⟩ ⟨⟨_,rfl,_,_,rfl,rfl,rfl⟩,rfl,⟨_,rfl,_,_,rfl,ren_int rfl hfr,_,_,rfl,ren_int rfl eT,_,_,rfl,ren_int rfl eN,rfl⟩,⟨_,_,_,rfl,fun i hi=>⟨rfl,fun q hq j hj=>by rw [hE]⟩,rfl,rfl,rfl⟩,ren_row rfl (rfl) (fun q hq j hj=>by rw [hE];show Go.Sy.A.int .i64 (stM t d (l.take k) (A:Nat) (q:Nat)) = Go.Sy.A.int .i64 (rbF (fun (a b:Nat)=>stM t d (l.take k) a b) A x.n 0 0 q);rw [rbF_0]),trivial⟩ (Pre_cut (by kernel_rfl)) (by kernel_rfl)
   rintro ⟨m,hm⟩
   have hm:m <= K:=hm
   by_cases b:m < K
   ·have hmh:m < h:=by omega
    have he:=hEb A m
    refine zG zE (NS.yes (by show decide ((m:Int) < (K:Int)) = true;exact decide_eq_true (by omega)) ?_)
    refine zG zE (NS.chk (by kernel_rfl) ?_)
    repeat' (first | (refine zG zE (NS.need (in_row sf.hA) ?_)) | (refine zG zE (NS.need (decide_eq_true rfl) ?_)) | (refine zG zE (NS.need (in_row hmh) ?_)) | (refine zG zE (NS.need (in_rowN hmh) ?_)))
    refine zG zE (NS.next ⟨m + 1,b⟩ (by show K - (m + 1) < K - m;omega) ?_)
    refine weak_hd [] rfl ⟨rfl,rfl,rfl,ren_int rfl (i64_k b (by omega)),trivial⟩ ⟨⟨_,rfl,_,_,rfl,rfl,rfl⟩,rfl,⟨_,rfl,_,_,rfl,rfl,_,_,rfl,rfl,_,_,rfl,rfl,rfl⟩,⟨_,_,_,rfl,fun i hi=>⟨rfl,fun q hq j hj=>rfl⟩,rfl,rfl,rfl⟩,ren_row rfl rfl (fun q hq j hj=>set_el (x:=E A m + (x.n)) ?_ q j hj (rbF_succ (Nat.zero_le m) q)),trivial⟩ (Pre_cut (by kernel_rfl)) (by kernel_rfl)
    show Go.Sy.A.int .i64 (IntKind.i64.wrap (rbF E A (x.n) 0 m m - (-x.n))) = Go.Sy.A.int .i64 (E A m + (x.n))
    rw [rbF_at,wrap_i64 (by omega) (by omega)]
    exact congrArg (Go.Sy.A.int .i64) (by omega)
   have b:K = m:=by omega
   subst b
   refine zG zE (NS.no (by show decide ((K:Int) < (K:Int)) = false;exact decide_eq_false (Int.lt_irrefl _)) ?_)
   refine zG zE (NS.leave rfl zE ?_)
   obtain ⟨E1,hE1⟩:∃ E1:Nat -> Nat -> Int,E1 = fun (a b:Nat)=>if a = A then rbF E A x.n 0 K b else E a b:=⟨_,rfl⟩
   have hE1b:∀ a b,-130000 <= E1 a b /\ E1 a b <= 130000:=fun a b=>by
    have h1:=hEb a b
    have h2:=hEb A b
    rw [hE1]
    simp only [rbF]
    (repeat' split) <;> omega
   refine zG zE (NS.call (arrival_ok (t.plan.cts.getD (l.getD k default).ct.toNat default) (l.getD k default).tm) rfl ?_)
   refine zG zE (NS.no (by show ((t.plan.cts.getD (l.getD k default).ct.toNat default).to == d.src) = false;rw [hto];exact beq_false_of_ne (by omega)) ?_)
   refine zG zE ?_
   refine NS.loop (σ:={ m:Nat // J <= m /\ m <= h }) (fun m=>[(7,.ptr 7 0),(8,.ptr 8 0),(10,.ptr 163 0),(13,.int .i64 (m.1:Nat))]) (fun m=>[(8,.box [.rv 165 t.plan.qs.length]),(151,.dead),(152,.dead),(163,.box [.int .i64 (B:Nat),.int .i64 (arvS t x),.int .i64 (x.n)]),(165,rrN t.plan.qs.length (fun _=>h) E1 (some (B,.own 166))),(166,rowD (rbF E1 B (x.n) J m.1) h)]) (fun m=>h - m.1) ⟨J,Nat.le_refl _,by omega⟩ ?_ ?_
   ·refine (((rr_close 151 164 152 A rfl rfl rfl).cell 8 0 rfl rfl rfl).trans ((rr_open 164 165 166 B rfl sf.hB rfl rfl (by decide)).cell 8 0 rfl rfl rfl)).weak.trans ?_
    exact weak_hd [] rfl ⟨rfl,rfl,rfl,ren_int rfl (eJ),trivial⟩ ⟨⟨_,rfl,_,_,rfl,rfl,rfl⟩,rfl,rfl,⟨_,rfl,_,_,rfl,ren_int rfl hto,_,_,rfl,ren_int rfl eV,_,_,rfl,ren_int rfl eM,rfl⟩,⟨_,_,_,rfl,fun i hi=>⟨by show (if i = A then h else h) = h;split <;> rfl,fun q hq j hj=>by rw [hE1];show (if i = A then fnD (rbF E A x.n 0 K) else fun (q _:Nat)=>Go.Sy.A.int .i64 (E i q)) q j = Go.Sy.A.int .i64 (if i = A then rbF E A x.n 0 K q else E i q);split <;> rfl⟩,rfl,rfl,rfl⟩,ren_row rfl (by show (if B = A then h else h) = h;split <;> rfl) (fun q hq j hj=>by show (if B = A then fnD (rbF E A x.n 0 K) else fun (q _:Nat)=>Go.Sy.A.int .i64 (E B q)) q j = Go.Sy.A.int .i64 (rbF E1 B x.n J J q);rw [rbF_0,hE1];show (if B = A then fnD (rbF E A x.n 0 K) else fun (q _:Nat)=>Go.Sy.A.int .i64 (E B q)) q j = Go.Sy.A.int .i64 (if B = A then rbF E A x.n 0 K q else E B q);split <;> rfl),trivial⟩ (Pre_cut (by kernel_rfl)) (by kernel_rfl)
   rintro ⟨m,hm0,hm⟩
   have hm0:J <= m:=hm0
   have hm:m <= h:=hm
   by_cases b:m < h
   ·have hmh:m < h:=b
    have he:=hE1b B m
    refine zG zE (NS.yes (by show decide ((m:Int) < (h:Int)) = true;exact decide_eq_true (by omega)) ?_)
    refine zG zE (NS.chk (by kernel_rfl) ?_)
    repeat' (first | (refine zG zE (NS.need (in_row sf.hB) ?_)) | (refine zG zE (NS.need (decide_eq_true rfl) ?_)) | (refine zG zE (NS.need (in_row hmh) ?_)) | (refine zG zE (NS.need (in_rowN hmh) ?_)))
    refine zG zE (NS.next ⟨m + 1,Nat.le_succ_of_le hm0,b⟩ (by show h - (m + 1) < h - m;omega) ?_)
    refine weak_hd [] rfl ⟨rfl,rfl,rfl,ren_int rfl (i64_k b (by omega)),trivial⟩ ⟨⟨_,rfl,_,_,rfl,rfl,rfl⟩,rfl,rfl,⟨_,rfl,_,_,rfl,rfl,_,_,rfl,rfl,_,_,rfl,rfl,rfl⟩,⟨_,_,_,rfl,fun i hi=>⟨rfl,fun q hq j hj=>rfl⟩,rfl,rfl,rfl⟩,ren_row rfl rfl (fun q hq j hj=>set_el (x:=E1 B m + (x.n)) ?_ q j hj (rbF_succ hm0 q)),trivial⟩ (Pre_cut (by kernel_rfl)) (by kernel_rfl)
    show Go.Sy.A.int .i64 (IntKind.i64.wrap (rbF E1 B (x.n) J m m + (x.n))) = Go.Sy.A.int .i64 (E1 B m + (x.n))
    rw [rbF_at,wrap_i64 (by omega) (by omega)]
   have b:h = m:=by omega
   subst b
   refine zG zE (NS.no (by show decide ((h:Int) < (h:Int)) = false;exact decide_eq_false (Int.lt_irrefl _)) ?_)
   refine zG zE (NS.leave rfl zE ?_)
   refine zG zE (NS.next ⟨k + 1,a⟩ (by show l.length - (k + 1) < l.length - k;omega) ?_)
   refine ((rr_close 165 168 166 B rfl rfl rfl).cell 8 0 rfl rfl rfl).weak.trans ?_
   refine weak_hd [(100,168)] rfl ⟨rfl,rfl,rfl,rfl,rfl,ren_int rfl (i64_k a (by omega)),trivial⟩ ⟨⟨_,rfl,_,_,rfl,rfl,rfl⟩,rfl,⟨_,_,_,rfl,fun i hi=>⟨?_,fun q hq j hj=>?_⟩,trivial⟩,trivial⟩ (Pre_cut (by kernel_rfl)) (by kernel_rfl)
   ·show (if i = B then h else h) = h
    split <;> rfl
   ·have hq:q < h:=hq
    have h1:=rbS_dlt (d:=d) (E:=E) (A:=A) (K:=K) (c:=x.n) (β:=-x.n) (by omega) sA q
    have h2:=rbO_dlt (d:=d) (E:=E1) (A:=B) (K:=J) (β:=x.n) (by omega) hq
    have h3:E i q = stM t d (l.take k) (i:Nat) (q:Nat):=by rw [hE]
    have h4:E1 B q = E B q:=by rw [hE1];exact if_neg (fun e=>hAB e.symm)
    show (if i = B then (fnD (rbF E1 B x.n J h)) else (fun (q _:Nat)=>Go.Sy.A.int .i64 (E1 i q))) q j = Go.Sy.A.int .i64 (stM t d (l.take (k + 1)) i q)
    rw [hst]
    by_cases e1:i = B
    ·have e1:=e1.symm
     subst e1
     rw [if_pos rfl]
     show Go.Sy.A.int .i64 (rbF E1 B x.n J h q) = _
     rw [h2,h4,dlt_ne (nd:=(A:Int)) (by omega)]
     congr 1
     omega
    ·rw [if_neg e1]
     show Go.Sy.A.int .i64 (E1 i q) = _
     rw [dlt_ne (nd:=(B:Int)) (by omega),hE1]
     simp only
     by_cases e2:i = A
     ·have e2:=e2.symm
      subst e2
      rw [if_pos rfl,h1]
      congr 1
      omega
     ·rw [if_neg e2,dlt_ne (nd:=(A:Int)) (by omega)]
      congr 1
      omega
  ·refine zG zE (NS.no (by show ((t.plan.cts.getD (l.getD k default).ct.toNat default).fr == d.src) = false;rw [hfr];exact beq_false_of_ne sA) ?_)
   refine zG zE ?_
   refine NS.loop (σ:={ m:Nat // K <= m /\ m <= h }) (fun m=>[(7,.ptr 7 0),(8,.ptr 8 0),(10,.ptr 149 0),(13,.int .i64 (m.1:Nat))]) (fun m=>[(8,.box [.rv 151 t.plan.qs.length]),(100,.dead),(149,.box [.int .i64 (A:Nat),.int .i64 (x.tm),.int .i64 (-x.n)]),(151,rrN t.plan.qs.length (fun _=>h) E (some (A,.own 152))),(152,rowD (rbF E A (-x.n) K m.1) h)]) (fun m=>h - m.1) ⟨K,Nat.le_refl _,by omega⟩ ?_ ?_
   ·refine ((rr_open 100 151 152 A rfl sf.hA rfl rfl (by decide)).cell 8 0 rfl rfl rfl).weak.trans ?_
    exact weak_hd [] rfl ⟨rfl,rfl,rfl,ren_int rfl (eK),trivial⟩ ⟨⟨_,rfl,_,_,rfl,rfl,rfl⟩,rfl,⟨_,rfl,_,_,rfl,ren_int rfl hfr,_,_,rfl,ren_int rfl eT,_,_,rfl,ren_int rfl eN,rfl⟩,⟨_,_,_,rfl,fun i hi=>⟨rfl,fun q hq j hj=>by rw [hE]⟩,rfl,rfl,rfl⟩,ren_row rfl (rfl) (fun q hq j hj=>by rw [hE];show Go.Sy.A.int .i64 (stM t d (l.take k) (A:Nat) (q:Nat)) = Go.Sy.A.int .i64 (rbF (fun (a b:Nat)=>stM t d (l.take k) a b) A (-x.n) K K q);rw [rbF_0]),trivial⟩ (Pre_cut (by kernel_rfl)) (by kernel_rfl)
   rintro ⟨m,hm0,hm⟩
   have hm0:K <= m:=hm0
   have hm:m <= h:=hm
   by_cases b:m < h
   ·have hmh:m < h:=b
    have he:=hEb A m
    refine zG zE (NS.yes (by show decide ((m:Int) < (h:Int)) = true;exact decide_eq_true (by omega)) ?_)
    refine zG zE (NS.chk (by kernel_rfl) ?_)
    repeat' (first | (refine zG zE (NS.need (in_row sf.hA) ?_)) | (refine zG zE (NS.need (decide_eq_true rfl) ?_)) | (refine zG zE (NS.need (in_row hmh) ?_)) | (refine zG zE (NS.need (in_rowN hmh) ?_)))
    refine zG zE (NS.next ⟨m + 1,Nat.le_succ_of_le hm0,b⟩ (by show h - (m + 1) < h - m;omega) ?_)
    refine weak_hd [] rfl ⟨rfl,rfl,rfl,ren_int rfl (i64_k b (by omega)),trivial⟩ ⟨⟨_,rfl,_,_,rfl,rfl,rfl⟩,rfl,⟨_,rfl,_,_,rfl,rfl,_,_,rfl,rfl,_,_,rfl,rfl,rfl⟩,⟨_,_,_,rfl,fun i hi=>⟨rfl,fun q hq j hj=>rfl⟩,rfl,rfl,rfl⟩,ren_row rfl rfl (fun q hq j hj=>set_el (x:=E A m + (-x.n)) ?_ q j hj (rbF_succ hm0 q)),trivial⟩ (Pre_cut (by kernel_rfl)) (by kernel_rfl)
    show Go.Sy.A.int .i64 (IntKind.i64.wrap (rbF E A (-x.n) K m m + (-x.n))) = Go.Sy.A.int .i64 (E A m + (-x.n))
    rw [rbF_at,wrap_i64 (by omega) (by omega)]
   have b:h = m:=by omega
   subst b
   refine zG zE (NS.no (by show decide ((h:Int) < (h:Int)) = false;exact decide_eq_false (Int.lt_irrefl _)) ?_)
   refine zG zE (NS.leave rfl zE ?_)
   obtain ⟨E1,hE1⟩:∃ E1:Nat -> Nat -> Int,E1 = fun (a b:Nat)=>if a = A then rbF E A (-x.n) K h b else E a b:=⟨_,rfl⟩
   have hE1b:∀ a b,-130000 <= E1 a b /\ E1 a b <= 130000:=fun a b=>by
    have h1:=hEb a b
    have h2:=hEb A b
    rw [hE1]
    simp only [rbF]
    (repeat' split) <;> omega
   refine zG zE (NS.call (arrival_ok (t.plan.cts.getD (l.getD k default).ct.toNat default) (l.getD k default).tm) rfl ?_)
   by_cases sB:(B:Int) = d.src
   ·refine zG zE (NS.yes (by show ((t.plan.cts.getD (l.getD k default).ct.toNat default).to == d.src) = true;rw [hto];exact beq_iff_eq.2 sB) ?_)
    refine zG zE ?_
    refine NS.loop (σ:={ m:Nat // m <= J }) (fun m=>[(8,.ptr 8 0),(10,.ptr 163 0),(52,.int .i64 (J:Nat)),(53,.int .i64 (m.1:Nat))]) (fun m=>[(8,.box [.rv 165 t.plan.qs.length]),(151,.dead),(152,.dead),(163,.box [.int .i64 (B:Nat),.int .i64 (arvS t x),.int .i64 (x.n)]),(165,rrN t.plan.qs.length (fun _=>h) E1 (some (B,.own 166))),(166,rowD (rbF E1 B (-x.n) 0 m.1) h)]) (fun m=>J - m.1) ⟨0,Nat.zero_le _⟩ ?_ ?_
    ·refine (((rr_close 151 164 152 A rfl rfl rfl).cell 8 0 rfl rfl rfl).trans ((rr_open 164 165 166 B rfl sf.hB rfl rfl (by decide)).cell 8 0 rfl rfl rfl)).weak.trans ?_
     exact weak_hd [] rfl ⟨rfl,rfl,ren_int rfl (by show (if (h:Int) < IntKind.i64.wrap (IntKind.i64.wrap (IntKind.i64.wrap ((l.getD k default).tm + 1) + (t.plan.cts.getD (l.getD k default).ct.toNat default).rng) - d.ready) then (h:Int) else IntKind.i64.wrap (IntKind.i64.wrap (IntKind.i64.wrap ((l.getD k default).tm + 1) + (t.plan.cts.getD (l.getD k default).ct.toNat default).rng) - d.ready)) = (J:Int);rw [eJ,if_neg (by omega)]),rfl,trivial⟩ ⟨⟨_,rfl,_,_,rfl,rfl,rfl⟩,rfl,rfl,⟨_,rfl,_,_,rfl,ren_int rfl hto,_,_,rfl,ren_int rfl eV,_,_,rfl,ren_int rfl eM,rfl⟩,⟨_,_,_,rfl,fun i hi=>⟨by show (if i = A then h else h) = h;split <;> rfl,fun q hq j hj=>by rw [hE1];show (if i = A then fnD (rbF E A (-x.n) K h) else fun (q _:Nat)=>Go.Sy.A.int .i64 (E i q)) q j = Go.Sy.A.int .i64 (if i = A then rbF E A (-x.n) K h q else E i q);split <;> rfl⟩,rfl,rfl,rfl⟩,ren_row rfl (by show (if B = A then h else h) = h;split <;> rfl) (fun q hq j hj=>by show (if B = A then fnD (rbF E A (-x.n) K h) else fun (q _:Nat)=>Go.Sy.A.int .i64 (E B q)) q j = Go.Sy.A.int .i64 (rbF E1 B (-x.n) 0 0 q);rw [rbF_0,hE1];show (if B = A then fnD (rbF E A (-x.n) K h) else fun (q _:Nat)=>Go.Sy.A.int .i64 (E B q)) q j = Go.Sy.A.int .i64 (if B = A then rbF E A (-x.n) K h q else E B q);split <;> rfl),trivial⟩ (Pre_cut (by kernel_rfl)) (by kernel_rfl)
    rintro ⟨m,hm⟩
    have hm:m <= J:=hm
    by_cases b:m < J
    ·have hmh:m < h:=by omega
     have he:=hE1b B m
     refine zG zE (NS.yes (by show decide ((m:Int) < (J:Int)) = true;exact decide_eq_true (by omega)) ?_)
     refine zG zE (NS.chk (by kernel_rfl) ?_)
     repeat' (first | (refine zG zE (NS.need (in_row sf.hB) ?_)) | (refine zG zE (NS.need (decide_eq_true rfl) ?_)) | (refine zG zE (NS.need (in_row hmh) ?_)) | (refine zG zE (NS.need (in_rowN hmh) ?_)))
     refine zG zE (NS.next ⟨m + 1,b⟩ (by show J - (m + 1) < J - m;omega) ?_)
     refine weak_hd [] rfl ⟨rfl,rfl,rfl,ren_int rfl (i64_k b (by omega)),trivial⟩ ⟨⟨_,rfl,_,_,rfl,rfl,rfl⟩,rfl,rfl,⟨_,rfl,_,_,rfl,rfl,_,_,rfl,rfl,_,_,rfl,rfl,rfl⟩,⟨_,_,_,rfl,fun i hi=>⟨rfl,fun q hq j hj=>rfl⟩,rfl,rfl,rfl⟩,ren_row rfl rfl (fun q hq j hj=>set_el (x:=E1 B m + (-x.n)) ?_ q j hj (rbF_succ (Nat.zero_le m) q)),trivial⟩ (Pre_cut (by kernel_rfl)) (by kernel_rfl)
     show Go.Sy.A.int .i64 (IntKind.i64.wrap (rbF E1 B (-x.n) 0 m m - (x.n))) = Go.Sy.A.int .i64 (E1 B m + (-x.n))
     rw [rbF_at,wrap_i64 (by omega) (by omega)]
     exact congrArg (Go.Sy.A.int .i64) (by omega)
    have b:J = m:=by omega
    subst b
    refine zG zE (NS.no (by show decide ((J:Int) < (J:Int)) = false;exact decide_eq_false (Int.lt_irrefl _)) ?_)
    refine zG zE (NS.leave rfl zE ?_)
    refine zG zE (NS.next ⟨k + 1,a⟩ (by show l.length - (k + 1) < l.length - k;omega) ?_)
    refine ((rr_close 165 168 166 B rfl rfl rfl).cell 8 0 rfl rfl rfl).weak.trans ?_
    refine weak_hd [(100,168)] rfl ⟨rfl,rfl,rfl,rfl,rfl,ren_int rfl (i64_k a (by omega)),trivial⟩ ⟨⟨_,rfl,_,_,rfl,rfl,rfl⟩,rfl,⟨_,_,_,rfl,fun i hi=>⟨?_,fun q hq j hj=>?_⟩,trivial⟩,trivial⟩ (Pre_cut (by kernel_rfl)) (by kernel_rfl)
    ·show (if i = B then h else h) = h
     split <;> rfl
    ·have hq:q < h:=hq
     have h1:=rbO_dlt (d:=d) (E:=E) (A:=A) (K:=K) (β:=-x.n) (by omega) hq
     have h2:=rbS_dlt (d:=d) (E:=E1) (A:=B) (K:=J) (c:=-x.n) (β:=x.n) rfl sB q
     have h3:E i q = stM t d (l.take k) (i:Nat) (q:Nat):=by rw [hE]
     have h4:E1 B q = E B q:=by rw [hE1];exact if_neg (fun e=>hAB e.symm)
     show (if i = B then (fnD (rbF E1 B (-x.n) 0 J)) else (fun (q _:Nat)=>Go.Sy.A.int .i64 (E1 i q))) q j = Go.Sy.A.int .i64 (stM t d (l.take (k + 1)) i q)
     rw [hst]
     by_cases e1:i = B
     ·have e1:=e1.symm
      subst e1
      rw [if_pos rfl]
      show Go.Sy.A.int .i64 (rbF E1 B (-x.n) 0 J q) = _
      rw [h2,h4,dlt_ne (nd:=(A:Int)) (by omega)]
      congr 1
      omega
     ·rw [if_neg e1]
      show Go.Sy.A.int .i64 (E1 i q) = _
      rw [dlt_ne (nd:=(B:Int)) (by omega),hE1]
      simp only
      by_cases e2:i = A
      ·have e2:=e2.symm
       subst e2
       rw [if_pos rfl,h1]
       congr 1
       omega
      ·rw [if_neg e2,dlt_ne (nd:=(A:Int)) (by omega)]
       congr 1
       omega
   ·refine zG zE (NS.no (by show ((t.plan.cts.getD (l.getD k default).ct.toNat default).to == d.src) = false;rw [hto];exact beq_false_of_ne sB) ?_)
    refine zG zE ?_
    refine NS.loop (σ:={ m:Nat // J <= m /\ m <= h }) (fun m=>[(7,.ptr 7 0),(8,.ptr 8 0),(10,.ptr 163 0),(13,.int .i64 (m.1:Nat))]) (fun m=>[(8,.box [.rv 165 t.plan.qs.length]),(151,.dead),(152,.dead),(163,.box [.int .i64 (B:Nat),.int .i64 (arvS t x),.int .i64 (x.n)]),(165,rrN t.plan.qs.length (fun _=>h) E1 (some (B,.own 166))),(166,rowD (rbF E1 B (x.n) J m.1) h)]) (fun m=>h - m.1) ⟨J,Nat.le_refl _,by omega⟩ ?_ ?_
    ·refine (((rr_close 151 164 152 A rfl rfl rfl).cell 8 0 rfl rfl rfl).trans ((rr_open 164 165 166 B rfl sf.hB rfl rfl (by decide)).cell 8 0 rfl rfl rfl)).weak.trans ?_
     exact weak_hd [] rfl ⟨rfl,rfl,rfl,ren_int rfl (eJ),trivial⟩ ⟨⟨_,rfl,_,_,rfl,rfl,rfl⟩,rfl,rfl,⟨_,rfl,_,_,rfl,ren_int rfl hto,_,_,rfl,ren_int rfl eV,_,_,rfl,ren_int rfl eM,rfl⟩,⟨_,_,_,rfl,fun i hi=>⟨by show (if i = A then h else h) = h;split <;> rfl,fun q hq j hj=>by rw [hE1];show (if i = A then fnD (rbF E A (-x.n) K h) else fun (q _:Nat)=>Go.Sy.A.int .i64 (E i q)) q j = Go.Sy.A.int .i64 (if i = A then rbF E A (-x.n) K h q else E i q);split <;> rfl⟩,rfl,rfl,rfl⟩,ren_row rfl (by show (if B = A then h else h) = h;split <;> rfl) (fun q hq j hj=>by show (if B = A then fnD (rbF E A (-x.n) K h) else fun (q _:Nat)=>Go.Sy.A.int .i64 (E B q)) q j = Go.Sy.A.int .i64 (rbF E1 B x.n J J q);rw [rbF_0,hE1];show (if B = A then fnD (rbF E A (-x.n) K h) else fun (q _:Nat)=>Go.Sy.A.int .i64 (E B q)) q j = Go.Sy.A.int .i64 (if B = A then rbF E A (-x.n) K h q else E B q);split <;> rfl),trivial⟩ (Pre_cut (by kernel_rfl)) (by kernel_rfl)
    rintro ⟨m,hm0,hm⟩
    have hm0:J <= m:=hm0
    have hm:m <= h:=hm
    by_cases b:m < h
    ·have hmh:m < h:=b
     have he:=hE1b B m
     refine zG zE (NS.yes (by show decide ((m:Int) < (h:Int)) = true;exact decide_eq_true (by omega)) ?_)
     refine zG zE (NS.chk (by kernel_rfl) ?_)
     repeat' (first | (refine zG zE (NS.need (in_row sf.hB) ?_)) | (refine zG zE (NS.need (decide_eq_true rfl) ?_)) | (refine zG zE (NS.need (in_row hmh) ?_)) | (refine zG zE (NS.need (in_rowN hmh) ?_)))
     refine zG zE (NS.next ⟨m + 1,Nat.le_succ_of_le hm0,b⟩ (by show h - (m + 1) < h - m;omega) ?_)
     refine weak_hd [] rfl ⟨rfl,rfl,rfl,ren_int rfl (i64_k b (by omega)),trivial⟩ ⟨⟨_,rfl,_,_,rfl,rfl,rfl⟩,rfl,rfl,⟨_,rfl,_,_,rfl,rfl,_,_,rfl,rfl,_,_,rfl,rfl,rfl⟩,⟨_,_,_,rfl,fun i hi=>⟨rfl,fun q hq j hj=>rfl⟩,rfl,rfl,rfl⟩,ren_row rfl rfl (fun q hq j hj=>set_el (x:=E1 B m + (x.n)) ?_ q j hj (rbF_succ hm0 q)),trivial⟩ (Pre_cut (by kernel_rfl)) (by kernel_rfl)
     show Go.Sy.A.int .i64 (IntKind.i64.wrap (rbF E1 B (x.n) J m m + (x.n))) = Go.Sy.A.int .i64 (E1 B m + (x.n))
     rw [rbF_at,wrap_i64 (by omega) (by omega)]
    have b:h = m:=by omega
    subst b
    refine zG zE (NS.no (by show decide ((h:Int) < (h:Int)) = false;exact decide_eq_false (Int.lt_irrefl _)) ?_)
    refine zG zE (NS.leave rfl zE ?_)
    refine zG zE (NS.next ⟨k + 1,a⟩ (by show l.length - (k + 1) < l.length - k;omega) ?_)
    refine ((rr_close 165 168 166 B rfl rfl rfl).cell 8 0 rfl rfl rfl).weak.trans ?_
    refine weak_hd [(100,168)] rfl ⟨rfl,rfl,rfl,rfl,rfl,ren_int rfl (i64_k a (by omega)),trivial⟩ ⟨⟨_,rfl,_,_,rfl,rfl,rfl⟩,rfl,⟨_,_,_,rfl,fun i hi=>⟨?_,fun q hq j hj=>?_⟩,trivial⟩,trivial⟩ (Pre_cut (by kernel_rfl)) (by kernel_rfl)
    ·show (if i = B then h else h) = h
     split <;> rfl
    ·have hq:q < h:=hq
     have h1:=rbO_dlt (d:=d) (E:=E) (A:=A) (K:=K) (β:=-x.n) (by omega) hq
     have h2:=rbO_dlt (d:=d) (E:=E1) (A:=B) (K:=J) (β:=x.n) (by omega) hq
     have h3:E i q = stM t d (l.take k) (i:Nat) (q:Nat):=by rw [hE]
     have h4:E1 B q = E B q:=by rw [hE1];exact if_neg (fun e=>hAB e.symm)
     show (if i = B then (fnD (rbF E1 B x.n J h)) else (fun (q _:Nat)=>Go.Sy.A.int .i64 (E1 i q))) q j = Go.Sy.A.int .i64 (stM t d (l.take (k + 1)) i q)
     rw [hst]
     by_cases e1:i = B
     ·have e1:=e1.symm
      subst e1
      rw [if_pos rfl]
      show Go.Sy.A.int .i64 (rbF E1 B x.n J h q) = _
      rw [h2,h4,dlt_ne (nd:=(A:Int)) (by omega)]
      congr 1
      omega
     ·rw [if_neg e1]
      show Go.Sy.A.int .i64 (E1 i q) = _
      rw [dlt_ne (nd:=(B:Int)) (by omega),hE1]
      simp only
      by_cases e2:i = A
      ·have e2:=e2.symm
       subst e2
       rw [if_pos rfl,h1]
       congr 1
       omega
      ·rw [if_neg e2,dlt_ne (nd:=(A:Int)) (by omega)]
       congr 1
       omega
 have a:l.length = k:=by omega
 subst a
 refine zG zE (NS.no (by show decide ((l.length:Int) < (l.length:Int)) = false;exact decide_eq_false (Int.lt_irrefl _)) ?_)
 refine zG zE (NS.leave rfl zE ?_)
 refine Sat.goN 3 (Eq.refl _) (NS.stop ?_)
 refine Sat.wk ((rr_freeze 100 rfl).cell 8 0 rfl rfl rfl).weak ?_
 refine zG zE (NS.ret rfl rfl (?_))
 rw [List.take_length]
 exact LeA.refl _
end Go.Proofs.YtjhmdfofhnijeaaGreatDoor
