import Derived.Test.YtjhmdfofhnijeaaGreatDoorQ2
import Derived.Test.YtjhmdfofhnijeaaGreatDoorF1
open Go.IntKind renaming i64->aa
open Inhabited renaming default->ab
open List renaming getElem_mem->ae, any_eq_false->af
open Nat renaming le_succ_of_le->ai, not_lt_zero->aj, zero_le->ak, le_refl->al
set_option linter.all false
namespace Go.Proofs.YtjhmdfofhnijeaaGreatDoor
open Go.Sy Go.Mb
set_option maxRecDepth 100000
set_option maxHeartbeats 4000000
def lC(t:cE)(node time:Int):Int:=oe node time t.dw (t.bO.qs.getD node.toNat 0)
theorem apz{t:cE}{d:cA}{node:Int}(h1:node≠d.src)(h2:node≠d.dst)(time:Int):jm t d node time=lC t node time:=by
 unfold jm;rw[bQ (by rintro(h|h);exact h1 h;exact h2 h)];rfl
theorem YC(t:cE)(hp:fj t)(node time:Int)(hn:0<=node/\node<(t.bO.qs.length:Int)):cJ Tryz.prog 26 [.agg t.cells,.int .i64 node,.int .i64 time] (.int .i64 (lC t node time),none):=by
 obtain⟨R,hR⟩:∃ R,R=lC t node time:=⟨_,rfl⟩;rw[<-hR];unfold lC at hR;have hl:=hp.h.len;have hq:=hp.p.qs (t.bO.qs.getD node.toNat ab) (by rw[cV (by omega)];exact ae _);refine c8 CM Tryz.func26 rfl ?_;refine bU zE (by show decide (0<=node/\node<(t.bO.qs.length:Int))=true;exact cw hn) ?_;refine zG zE ?_;refine NS.loop (σ:={ q:Nat×Int // q.1<=t.dw.length/\oe node time (t.dw.drop q.1) q.2=R/\ -(65536*(q.1:Int))<=q.2/\q.2<=1073741824 }) (λq=>[(1,.int .i64 node),(2,.int .i64 time),(7,.int .i64 q.1.2),(17,jz t.dw),(18,.int .i64 t.dw.length),(19,.int .i64 (q.1.1:Nat))]) (λ_=>[]) (λq=>t.dw.length-q.1.1) ⟨(0,t.bO.qs.getD node.toNat ab),ak _,hR.symm,by show-(65536*(0:Int))<=_;omega,hq.2⟩ ?_ ?_
 .exact cB [] ⟨rfl,rfl,rfl,rfl,rfl,rfl,bP⟩ trivial
 rintro⟨⟨k,n⟩,hk,hx,h1,h2⟩;have hk:k<=t.dw.length:=hk;have hx:oe node time (t.dw.drop k) n=R:=hx;have h1:-(65536*(k:Int))<=n:=h1;have h2:n<=1073741824:=h2;by_cases c:k<t.dw.length
 .have hs:=hp.h.all (t.dw.getD k ab) (by rw[cV c];exact ae _);have hs:=hs.size;rw[drop_cons c,oe]at hx;refine cD zE (er (show k<t.dw.length by omega)) (bU zE (cZ c) (cK zE (λb1=>?_) (λb1=>?_)))
  .have b1:((t.dw.getD k ab).node==node)=true:=b1;refine cK zE (λb2=>?_) (λb2=>?_)
   .have b2:decide ((t.dw.getD k ab).fr<=time)=true:=b2;refine cK zE (λb3=>?_) (λb3=>?_)
    .have b3:decide (time<(t.dw.getD k ab).to)=true:=b3;rw[bS (by unfold gz;rw[b1,b2,b3];rfl)]at hx;have e1:aa.wrap (n-(t.dw.getD k ab).size)=n-(t.dw.getD k ab).size:=dG;refine cH zE ⟨(k+1,n-(t.dw.getD k ab).size),c,hx,by show-(65536*((k+1:Nat):Int))<=n-_;omega,by show n-_<=1073741824;omega⟩ (by show t.dw.length-(k+1)<t.dw.length-k;omega) ?_;exact cB [] ⟨rfl,rfl,c9 rfl e1,rfl,rfl,c6 c,bP⟩ trivial
    have b3:decide (time<(t.dw.getD k ab).to)=false:=b3;rw[bQ (by unfold gz;rw[b3];simp)]at hx;refine cH zE ⟨(k+1,n),c,hx,by show-(65536*((k+1:Nat):Int))<=n;omega,h2⟩ (by show t.dw.length-(k+1)<t.dw.length-k;omega) ?_;exact cB [] ⟨rfl,rfl,rfl,rfl,rfl,c6 c,bP⟩ trivial
   have b2:decide ((t.dw.getD k ab).fr<=time)=false:=b2;rw[bQ (by unfold gz;rw[b2];simp)]at hx;refine cH zE ⟨(k+1,n),c,hx,by show-(65536*((k+1:Nat):Int))<=n;omega,h2⟩ (by show t.dw.length-(k+1)<t.dw.length-k;omega) ?_;exact cB [] ⟨rfl,rfl,rfl,rfl,rfl,c6 c,bP⟩ trivial
  have b1:((t.dw.getD k ab).node==node)=false:=b1;rw[bQ (by unfold gz;rw[b1];simp)]at hx;refine cH zE ⟨(k+1,n),c,hx,by show-(65536*((k+1:Nat):Int))<=n;omega,h2⟩ (by show t.dw.length-(k+1)<t.dw.length-k;omega) ?_;exact cB [] ⟨rfl,rfl,rfl,rfl,rfl,c6 c,bP⟩ trivial
 have c:t.dw.length=k:=by omega
 subst c;refine b8 zE eF (dt zE rfl zE ?_);rw[List.drop_length,oe]at hx;refine cL zE rfl rfl (bY.lr hx)
theorem zy(c:fV)(u:Int):cJ Tryz.prog 30 [.agg c.cells,.int .i64 u] (.int .i64 (aa.wrap (aa.wrap (u+1)+c.c7)),none):=by
 refine c8 CM Tryz.func30 rfl ?_;exact cL zE rfl rfl (bY.refl _)
theorem apA(x:cU)(u:Int):cJ Tryz.prog 64 [.agg x.cells,.ip 1 (bT [.int .i64 u])] (.bool (iH u x),none):=by
 refine c8 CM Tryz.func64 rfl ?_
 repeat' (first|(refine cK zE (λh=>?_) (λh=>?_))|(refine cN zE ?_)|(exact cL zE rfl rfl (fk ((by unfold iH;simp only[*,Bool.true_and,Bool.false_and])))))
theorem YD(t:cE)(ct u:Int)(hl:t.dg.length<=1000000):cJ Tryz.prog 31 [.agg t.cells,.int .i64 ct,.int .i64 u] (.bool ((eO t.dg ct).any (iH u)),none):=by
 have h1:=ue t.dg ct;refine c8 CM Tryz.func31 rfl ?_;exact cj zE (Jp t.dg ct hl) (cj zE (Jq (eO t.dg ct) (by omega) 64 1 (bT [.int .i64 u]) (iH u) (λx _=>apA x u)) (cL zE rfl rfl (bY.refl _)))
def nL(t:cE)(d:cA)(x:dC):Int:=
 if x.ct<0\/x.ct>=(t.bO.bW.length:Int)then 2
 else if x.tm<(if(dS t x).start>d.ready then(dS t x).start else d.ready)\/x.tm>=(dS t x).stop\/x.n<1\/x.n>(dS t x).gn then 2
 else if iQ t x>d.dead then 16
 else if(eO t.dg x.ct).any (iH x.tm)=true then 14 else 0
theorem YE{t:cE}{d:cA}{x:dC}:nL t d x=0↔jA t d x:=by
 have key:jA t d x↔(0<=x.ct/\x.ct<(t.bO.bW.length:Int))/\(1<=x.n/\x.n<=(dS t x).gn)/\((dS t x).start<=x.tm/\x.tm<(dS t x).stop/\d.ready<=x.tm/\iQ t x<=d.dead/\(0<=x.ct->(eO t.dg x.ct).any (iH x.tm)=false)):=by
  constructor
  .rintro⟨h1,h2,h3⟩;obtain⟨g1,g2,g3,g4,g5⟩:=qn.1 h3;refine⟨h1,h2,g1,g2,g3,g4,λ_=>?_⟩;rw[af];intro y hy;have e:((x.ct.toNat:Nat):Int)=x.ct:=Int.toNat_of_nonneg h1.1;have:=g5 y (by rw[e];exact hy);unfold iH;simpa[nt]using this
  rintro⟨h1,h2,g1,g2,g3,g4,g5⟩;refine⟨h1,h2,qn.2 ⟨g1,g2,g3,g4,λy hy=>?_⟩⟩;have e:((x.ct.toNat:Nat):Int)=x.ct:=Int.toNat_of_nonneg h1.1;rw[e]at hy;have:=af.1 (g5 h1.1) y hy;unfold iH at this;simpa[nt]using this
 rw[key];unfold nL;by_cases a:x.ct<0\/x.ct>=(t.bO.bW.length:Int)
 .rw[bS a];omega
 rw[bQ a];by_cases b:x.tm<(if(dS t x).start>d.ready then(dS t x).start else d.ready)\/x.tm>=(dS t x).stop\/x.n<1\/x.n>(dS t x).gn
 .rw[bS b];split at b<;>omega
 rw[bQ b];by_cases c:iQ t x>d.dead
 .rw[bS c];omega
 rw[bQ c];cases e:(eO t.dg x.ct).any (iH x.tm)with
 |true=>simp;omega
 |false=>
  simp;split at b<;>omega
theorem apB(t:cE)(d:cA)(x:dC)(ok:fj t):cJ Tryz.prog 22 [.agg t.cells,.agg d.cells,.agg x.cells] (.int .i64 (nL t d x),none):=by
 obtain⟨R,hR⟩:∃ R,R=nL t d x:=⟨_,rfl⟩;rw[<-hR];unfold nL at hR;refine c8 CM Tryz.func22 rfl ?_;refine cK zE (λa=>?_) (λa=>?_)
 .have a:x.ct<0:=fv (show decide (x.ct<0)=true from a);exact cL zE rfl rfl (dY ((by rw[hR,bS (.inl a)])))
 have a:¬ x.ct<0:=eY (show decide (x.ct<0)=false from a);refine cK zE (λb=>?_) (λb=>?_)
 .have b:x.ct>=(t.bO.bW.length:Int):=fv (show decide (x.ct>=(t.bO.bW.length:Int))=true from b);exact cL zE rfl rfl (dY ((by rw[hR,bS (.inr b)])))
 have b:¬ x.ct>=(t.bO.bW.length:Int):=eY (show decide (x.ct>=(t.bO.bW.length:Int))=false from b);rw[bQ (by omega)]at hR;have gW:=ok.p.bW (dS t x) (by unfold dS;rw[cV (show x.ct.toNat<_ by omega)];exact ae _);have hst:=gW.time;have Ey:=gW.c7;have dF:=ok.b.len;refine bU zE (cw (by show 0<=x.ct/\x.ct<(t.bO.bW.length:Int);omega)) (cK zE (λc1=>?_) (λc1=>?_))
 .have c1:x.tm<(if(dS t x).start>d.ready then(dS t x).start else d.ready):=fv (show decide (x.tm<(if(dS t x).start>d.ready then(dS t x).start else d.ready))=true from c1);exact cL zE rfl rfl (dY ((by rw[hR,bS (.inl c1)])))
 have c1:¬ x.tm<(if(dS t x).start>d.ready then(dS t x).start else d.ready):=eY (show decide (x.tm<(if(dS t x).start>d.ready then(dS t x).start else d.ready))=false from c1);refine cK zE (λc2=>?_) (λc2=>?_)
 .have c2:x.tm>=(dS t x).stop:=fv (show decide (x.tm>=(dS t x).stop)=true from c2);exact cL zE rfl rfl (dY ((by rw[hR,bS (.inr (.inl c2))])))
 have c2:¬ x.tm>=(dS t x).stop:=eY (show decide (x.tm>=(dS t x).stop)=false from c2);refine cK zE (λc3=>?_) (λc3=>?_)
 .have c3:x.n<1:=fv (show decide (x.n<1)=true from c3);exact cL zE rfl rfl (dY ((by rw[hR,bS (.inr (.inr (.inl c3)))])))
 have c3:¬ x.n<1:=eY (show decide (x.n<1)=false from c3);refine cK zE (λc4=>?_) (λc4=>?_)
 .have c4:x.n>(dS t x).gn:=fv (show decide (x.n>(dS t x).gn)=true from c4);exact cL zE rfl rfl (dY ((by rw[hR,bS (.inr (.inr (.inr c4)))])))
 have c4:¬ x.n>(dS t x).gn:=eY (show decide (x.n>(dS t x).gn)=false from c4);have hc:¬ (x.tm<(if(dS t x).start>d.ready then(dS t x).start else d.ready)\/x.tm>=(dS t x).stop\/x.n<1\/x.n>(dS t x).gn):=by
  rintro(h|h|h|h)
  .exact c1 h
  .exact c2 h
  .exact c3 h
  exact c4 h
 rw[bQ hc]at hR;have t0:(dS t x).start<=x.tm:=by split at c1<;>omega
 have w1:aa.wrap (aa.wrap (x.tm+1)+(dS t x).c7)=iQ t x:=by rw[wrap_i64 (n:=x.tm+1) (by omega) (by omega),dG];rfl
 refine cN zE ?_;refine cj zE (zy (dS t x) x.tm) ?_;rw[w1];refine cK zE (λe=>?_) (λe=>?_)
 .have e:iQ t x>d.dead:=fv (show decide (iQ t x>d.dead)=true from e);exact cL zE rfl rfl (dY ((by rw[hR,bS e])))
 have e:¬ iQ t x>d.dead:=eY (show decide (iQ t x>d.dead)=false from e);rw[bQ e]at hR;refine cj zE (YD t x.ct x.tm (by omega)) (cK zE (λf=>?_) (λf=>?_))
 .have f:(eO t.dg x.ct).any (iH x.tm)=true:=f;exact cL zE rfl rfl (dY ((by rw[hR,bS f])))
 have f:(eO t.dg x.ct).any (iH x.tm)=false:=f;exact cL zE rfl rfl (dY ((by rw[hR,bQ (by rw[f];decide)])))
noncomputable def CSt:Cx:={ E:=EM,inl:=[59,119],ok:=qf }
def xe(n:Nat)(len:Nat->Nat)(el:Nat->Nat->Int)(hole:Option (Nat×Go.Sy.A)):Ob:=.rr 22 3 1 n len (λa b _=>.int .i64 (el a b)) hole
def fC(E:Nat->Nat->Int)(A:Nat)(c:Int)(lo hi b:Nat):Int:=if lo<=b/\b<hi then E A b+c else E A b
theorem C4(E:Nat->Nat->Int)(A:Nat)(c:Int)(lo b:Nat):fC E A c lo lo b=E A b:=bQ (by omega)
theorem C5{E:Nat->Nat->Int}{A:Nat}{c:Int}{lo m:Nat}(h:lo<=m)(b:Nat):fC E A c lo (m+1) b=if b=m then E A m+c else fC E A c lo m b:=by
 unfold fC;by_cases e:b=m
 .subst e;rw[bS (by omega),bS rfl]
 rw[bQ e];by_cases e1:lo<=b/\b<m
 .rw[bS e1,bS (by omega)]
 rw[bQ e1,bQ (by omega)]
theorem C6(E:Nat->Nat->Int)(A:Nat)(c:Int)(lo m:Nat):fC E A c lo m m=E A m:=bQ (by omega)
theorem tP{d:cA}{nd a β node b:Int}(h:nd≠node):mw d nd a β node b=0:=bQ h
theorem YF{d:cA}{E:Nat->Nat->Int}{A K:Nat}{c β:Int}(hc:c= -β)(hs:(A:Int)=d.src)(b:Nat):fC E A c 0 K b=E A b+mw d (A:Int) (K:Int) β (A:Int) (b:Int):=by
 unfold fC mw;rw[bS rfl,bS hs]
 (repeat' split)<;>omega
theorem Hc{d:cA}{E:Nat->Nat->Int}{A K h:Nat}{β:Int}(hs:(A:Int)≠d.src){b:Nat}(hb:b<h):fC E A β K h b=E A b+mw d (A:Int) (K:Int) β (A:Int) (b:Int):=by
 unfold fC mw;rw[bS rfl,bQ hs]
 (repeat' split)<;>omega
theorem apC{t:cE}(ok:fj t){d:cA}{l:List dC}(hl:∀ x∈l,jA t d x)(hlen:l.length<=1600)(a b:Int):-3200000<=stM t d l a b/\stM t d l a b<=3200000:=by
 have h1:=Tv ok hl a b;have h2:∀ x∈l,(λ_=>(-2000:Int)) x<=mW t d a b x:=by
  intro x hx;have h1:=E4 ok (hl x hx);have h2:=(hl x hx).n;show-2000<=mW t d a b x;unfold mW mw
  (repeat' split)<;>omega
 have h3:=Ku h2;have h4:∀ l:List dC,cT (λ_=>(-2000:Int)) l= -(2000*l.length):=by
  intro l
  induction l with
  |nil=>rfl
  |cons x l ih=>simp only[cT,List.length_cons,ih];push_cast;omega
 rw[h4]at h3;unfold stM at h1⊢;omega
theorem apD(t:cE)(d:cA)(h:Nat)(l:List dC)(ok:fj t)(hd:gB t.bO.qs.length d)(hH:d.dead=d.ready+h-1/\2<=h/\h<=25)(hl:∀ x∈l,jA t d x)(hlen:l.length<=1600):cJ Tryz.prog 23 [.agg t.cells,.agg d.cells,kC l] (.sl 1 t.bO.qs.length (λa _=>.sl 1 h (λb _=>.int .i64 (stM t d l a b))),none):=by
 have hN:=ok.p.n2;have hN1:=ok.p.n1;have hm:=ok.p.m;have mO:=hd.ready;have hrd:=hd.dead;have w0:aa.wrap (aa.wrap (d.dead-d.ready)+1)=(h:Int):=by rw[wrap_i64 (n:=d.dead-d.ready) (by omega) (by omega),dG];omega
 refine c8 CSt Tryz.func23 rfl ?_;refine bU zE (cw (by simp only[du];omega)) ?_;refine eG zE t.bO.qs.length (λi=>[(2,kC l),(3,.ptr 3 0),(4,.ptr 4 0),(7,.ptr 7 0),(8,.ptr 8 0),(26,.int .i64 t.bO.qs.length),(27,.int .i64 (i:Nat))]) (λi=>[(3,.box t.cells),(4,.box d.cells),(7,.box [.int .i64 (h:Nat)]),(8,.box [.rv 40 t.bO.qs.length]),(40,xe t.bO.qs.length (λv=>if v<i then h else 0) (λ_ _=>0) none)]) ?_ ?_
 .refine((Az 24 40 3 1 (by rfl) (λk hk=>rfl) rfl).cell 8 0 rfl rfl rfl).gv.trans ?_;refine cB [] ⟨rfl,rfl,rfl,rfl,rfl,rfl,rfl,bP⟩ ⟨bV,bV,⟨_,rfl,_,_,rfl,c9 rfl w0,rfl⟩,bV,⟨_,_,_,rfl,λi hi=>⟨?_,λq hq j hj=>?_⟩,bP⟩,bP⟩
  .show 0=if i<0 then h else 0
   rw[bQ (aj i)]
  exact dP hq (by show¬q<if i<0 then h else 0;rw[bQ (aj i)];exact aj q)
 rintro⟨i,(hi:i<=t.bO.qs.length)⟩;by_cases a:i<t.bO.qs.length
 .refine Sat.wk ((oL 40 41 42 i rfl a rfl rfl (by decide)).cell 8 0 rfl rfl rfl).gv ?_;refine cD zE (er (show i<t.bO.qs.length by omega)) (cN zE ?_);refine bU zE (cw (by show 0<=(h:Int)/\(h:Int)<=(h:Int)/\(h:Int).toNat*(7+1+1)<=du;simp only[du];omega)) (bU zE (cZ a) (bU zE (cw rfl) (cH zE ⟨i+1,a⟩ (dp a) ?_)));refine((nS 41 43 33 i rfl rfl rfl).cell 8 0 rfl rfl rfl).gv.trans ?_;refine cB [(40,43)] ⟨rfl,rfl,rfl,rfl,rfl,rfl,c6 a,bP⟩ ⟨bV,bV,bV,bV,⟨_,_,_,rfl,λv hv=>⟨?_,λq hq j hj=>?_⟩,bP⟩,bP⟩
  .show(if v=i then h else if v<i then h else 0)=if v<i+1 then h else 0
   by_cases e:v=i
   .rw[bS e,bS (by omega)]
   rw[bQ e];by_cases e1:v<i
   .rw[bS e1,bS (by omega)]
   rw[bQ e1,bQ (by omega)]
  show(if v=i then(λq j=>bT [Go.Sy.A.int .i64 0] j)else(λ(_ _:Nat)=>Go.Sy.A.int .i64 0)) q j=Go.Sy.A.int .i64 0;rw[Nat.lt_one_iff.1 hj];split<;>rfl
 have a:t.bO.qs.length=i:=by omega
 subst a;refine b8 zE eF (dt zE rfl zE ?_);refine eG zE l.length (λk=>[(0,.dA 92),(1,.ptr 91 0),(2,.ptr 90 0),(7,kC l),(8,.int .i64 l.length),(9,.int .i64 (k:Nat))]) (λk=>[(8,.box [.rv 100 t.bO.qs.length]),(40,.dead),(100,xe t.bO.qs.length (λ_=>h) (λa b=>stM t d (l.take k) a b) none)]) ?_ ?_
 .refine(((oL 40 101 102 0 rfl (show 0<t.bO.qs.length by omega) rfl rfl (by decide)).cell 8 0 rfl rfl rfl).trans ((nS 101 100 102 0 rfl rfl rfl).cell 8 0 rfl rfl rfl)).gv.trans ?_;refine dD [] ⟨rfl,rfl,rfl,rfl,rfl,rfl,bP⟩ ⟨bV,rfl,⟨_,_,_,rfl,λi hi=>⟨?_,λq hq j hj=>?_⟩,bP⟩,bP⟩
  .show(if i=0 then(if 0<t.bO.qs.length then h else 0)else if i<t.bO.qs.length then h else 0)=h;rw[bS (show 0<t.bO.qs.length by omega),bS hi];split<;>rfl
  show(if i=0 then(λ(q j:Nat)=>Go.Sy.A.int .i64 0)else(λ(_ _:Nat)=>Go.Sy.A.int .i64 0)) q j=Go.Sy.A.int .i64 (stM t d [] i q);split<;>rfl
 rintro⟨k,(hk:k<=l.length)⟩;by_cases a:k<l.length
 .obtain⟨x,hx⟩:∃ x,x=l.getD k ab:=⟨_,rfl⟩;have qU:=hl x (by rw[hx,cV a];exact ae _);have CI:=qU.ct;refine cD zE (er (show k<l.length by omega)) (bU zE (cZ a) (bU zE (cw (by show 0<=(l.getD k ab).ct/\(l.getD k ab).ct<(t.bO.bW.length:Int);rw[<-hx];omega)) (cN zE ?_)));obtain⟨A,B,K,J,sf⟩:=Bw (h:=h) ok hH.1 qU;have iu:(t.bO.bW.getD (l.getD k ab).ct.toNat ab).fr=(A:Int):=by rw[<-hx];exact sf.fr
  have jK:(t.bO.bW.getD (l.getD k ab).ct.toNat ab).to=(B:Int):=by rw[<-hx];exact sf.to
  have hxn:=qU.n;have hxr:=E4 ok qU;have hKJ:=sf.KJ;have hJh:=sf.Jh;have eK:aa.wrap ((l.getD k ab).tm-d.ready)=(K:Int):=by rw[<-hx,sf.hK,dG]
  have eN:aa.wrap (0-(l.getD k ab).n)= -x.n:=by rw[<-hx,dG];omega
  obtain⟨E,hE⟩:∃ E:Nat->Nat->Int,E=λ(a b:Nat)=>stM t d (l.take k) a b:=⟨_,rfl⟩;have zz:∀ a b,-3200000<=E a b/\E a b<=3200000:=λa b=>by rw[hE];exact apC ok (λx hx=>hl x (List.mem_of_mem_take hx)) (by rw[List.length_take];omega) a b
  have tQ:A≠B:=λe=>(ok.p.bW (dS t x) (by unfold dS;rw[cV (show x.ct.toNat<_ by omega)];exact ae _)).ne (by rw[sf.fr,sf.to,e]);have eT:(l.getD k ab).tm=x.tm:=by rw[hx]
  obtain⟨V,hV⟩:∃ V,V=aa.wrap (aa.wrap ((l.getD k ab).tm+1)+(t.bO.bW.getD (l.getD k ab).ct.toNat ab).c7):=⟨_,rfl⟩;have YG:=(ok.p.bW (dS t x) (by unfold dS;rw[cV (show x.ct.toNat<_ by omega)];exact ae _));have YH:=qn.1 qU.tick;have tF:=YG.time;have hrn:=YG.c7;have eV:aa.wrap (aa.wrap ((l.getD k ab).tm+1)+(t.bO.bW.getD (l.getD k ab).ct.toNat ab).c7)=iQ t x:=by
   have t1:(dS t x).start<=x.tm:=YH.1;have t2:x.tm<(dS t x).stop:=YH.2.1;rw[<-hx,wrap_i64 (n:=x.tm+1) (by omega) (by omega),wrap_i64 (by show-9223372036854775808<=x.tm+1+(dS t x).c7;omega) (by show x.tm+1+(dS t x).c7<=9223372036854775807;omega)];rfl
  have eJ:aa.wrap (aa.wrap (aa.wrap ((l.getD k ab).tm+1)+(t.bO.bW.getD (l.getD k ab).ct.toNat ab).c7)-d.ready)=(J:Int):=by rw[eV,sf.hJ,dG]
  have eM:(l.getD k ab).n=x.n:=by rw[hx]
  have hst:∀ a b:Int,stM t d (l.take (k+1)) a b=stM t d (l.take k) a b+mw d (A:Int) (K:Int) (-x.n) a b+mw d (B:Int) (J:Int) x.n a b:=by
   intro a' b';unfold stM;rw[gg a,<- hx,nu];simp only[cT];unfold mW;rw[sf.fr,sf.to,sf.hK,sf.hJ];omega
  by_cases sA:(A:Int)=d.src
  .refine cD zE (by show((t.bO.bW.getD (l.getD k ab).ct.toNat ab).fr==d.src)=true;rw[iu];exact beq_iff_eq.2 sA) ?_;refine eG zE K (λm=>[(8,.ptr 8 0),(10,.ptr 149 0),(52,.int .i64 (K:Nat)),(53,.int .i64 (m:Nat))]) (λm=>[(8,.box [.rv 151 t.bO.qs.length]),(100,.dead),(149,.box [.int .i64 (A:Nat),.int .i64 (x.tm),.int .i64 (-x.n)]),(151,xe t.bO.qs.length (λ_=>h) E (some (A,.own 152))),(152,mi (fC E A (x.n) 0 m) h)]) ?_ ?_
   .refine((oL 100 151 152 A rfl sf.hA rfl rfl (by decide)).cell 8 0 rfl rfl rfl).gv.trans ?_;exact dD [] ⟨rfl,rfl,c9 rfl (by show(if(h:Int)<aa.wrap ((l.getD k ab).tm-d.ready)then(h:Int)else aa.wrap ((l.getD k ab).tm-d.ready))=(K:Int);rw[eK,bQ (by omega)]),rfl,bP⟩ ⟨bV,rfl,⟨_,rfl,_,_,rfl,c9 rfl iu,_,_,rfl,c9 rfl eT,_,_,rfl,c9 rfl eN,rfl⟩,⟨_,_,_,rfl,λi hi=>⟨rfl,λq hq j hj=>by rw[hE]⟩,rfl,rfl,rfl⟩,df rfl (rfl) (λq hq j hj=>by rw[hE];show Go.Sy.A.int .i64 (stM t d (l.take k) (A:Nat) (q:Nat))=Go.Sy.A.int .i64 (fC (λ(a b:Nat)=>stM t d (l.take k) a b) A x.n 0 0 q);rw[C4]),bP⟩
   rintro⟨m,(hm:m<=K)⟩;by_cases b:m<K
   .have oG:m<h:=by omega
    have he:=zz A m;refine cD zE (er (show m<K by omega)) (cN zE ?_)
    repeat' (first|(refine bU zE (cZ sf.hA) ?_)|(refine bU zE (cw rfl) ?_)|(refine bU zE (cZ oG) ?_)|(refine bU zE (gw oG) ?_))
    refine cH zE ⟨m+1,b⟩ (dp b) ?_;refine dD [] ⟨rfl,rfl,rfl,c6 b,bP⟩ ⟨bV,rfl,bV,⟨_,_,_,rfl,λi hi=>⟨rfl,λq hq j hj=>rfl⟩,rfl,rfl,rfl⟩,df rfl rfl (λq hq j hj=>qg (x:=E A m+(x.n)) ?_ q j hj (C5 (ak m) q)),bP⟩;show Go.Sy.A.int .i64 (aa.wrap (fC E A (x.n) 0 m m-(-x.n)))=Go.Sy.A.int .i64 (E A m+(x.n));rw[C6,dG];exact fU (Go.Sy.A.int .i64) (by omega)
   have b:K=m:=by omega
   subst b;refine b8 zE eF (dt zE rfl zE ?_);obtain⟨E1,hE1⟩:∃ E1:Nat->Nat->Int,E1=λ(a b:Nat)=>if a=A then fC E A x.n 0 K b else E a b:=⟨_,rfl⟩
   have Hd:∀ a b,-3300000<=E1 a b/\E1 a b<=3300000:=λa b=>by
    have h1:=zz a b;have h2:=zz A b;rw[hE1];simp only[fC]
    (repeat' split)<;>omega
   refine cj zE (zy (t.bO.bW.getD (l.getD k ab).ct.toNat ab) (l.getD k ab).tm) (b8 zE (by show((t.bO.bW.getD (l.getD k ab).ct.toNat ab).to==d.src)=false;rw[jK];exact jd (by omega)) ?_);refine zG zE ?_;refine NS.loop (σ:={ m:Nat // J<=m/\m<=h }) (λm=>[(7,.ptr 7 0),(8,.ptr 8 0),(10,.ptr 163 0),(13,.int .i64 (m.1:Nat))]) (λm=>[(8,.box [.rv 165 t.bO.qs.length]),(151,.dead),(152,.dead),(163,.box [.int .i64 (B:Nat),.int .i64 (iQ t x),.int .i64 (x.n)]),(165,xe t.bO.qs.length (λ_=>h) E1 (some (B,.own 166))),(166,mi (fC E1 B (x.n) J m.1) h)]) (λm=>h-m.1) ⟨J,al _,by omega⟩ ?_ ?_
   .refine(((nS 151 164 152 A rfl rfl rfl).cell 8 0 rfl rfl rfl).trans ((oL 164 165 166 B rfl sf.hB rfl rfl (by decide)).cell 8 0 rfl rfl rfl)).gv.trans ?_;exact dD [] ⟨rfl,rfl,rfl,c9 rfl (eJ),bP⟩ ⟨bV,rfl,rfl,⟨_,rfl,_,_,rfl,c9 rfl jK,_,_,rfl,c9 rfl eV,_,_,rfl,c9 rfl eM,rfl⟩,⟨_,_,_,rfl,λi hi=>⟨by show(if i=A then h else h)=h;split<;>rfl,λq hq j hj=>by rw[hE1];show(if i=A then kr (fC E A x.n 0 K)else λ(q _:Nat)=>Go.Sy.A.int .i64 (E i q)) q j=Go.Sy.A.int .i64 (if i=A then fC E A x.n 0 K q else E i q);split<;>rfl⟩,rfl,rfl,rfl⟩,df rfl (by show(if B=A then h else h)=h;split<;>rfl) (λq hq j hj=>by show(if B=A then kr (fC E A x.n 0 K)else λ(q _:Nat)=>Go.Sy.A.int .i64 (E B q)) q j=Go.Sy.A.int .i64 (fC E1 B x.n J J q);rw[C4,hE1];show(if B=A then kr (fC E A x.n 0 K)else λ(q _:Nat)=>Go.Sy.A.int .i64 (E B q)) q j=Go.Sy.A.int .i64 (if B=A then fC E A x.n 0 K q else E B q);split<;>rfl),bP⟩
   rintro⟨m,(mc:J<=m),hm⟩;have hm:m<=h:=hm;by_cases b:m<h
   .have oG:m<h:=b;have he:=Hd B m;refine cD zE (er (show m<h by omega)) (cN zE ?_)
    repeat' (first|(refine bU zE (cZ sf.hB) ?_)|(refine bU zE (cw rfl) ?_)|(refine bU zE (cZ oG) ?_)|(refine bU zE (gw oG) ?_))
    refine cH zE ⟨m+1,ai mc,b⟩ (by show h-(m+1)<h-m;omega) ?_;refine dD [] ⟨rfl,rfl,rfl,c6 b,bP⟩ ⟨bV,rfl,rfl,bV,⟨_,_,_,rfl,λi hi=>⟨rfl,λq hq j hj=>rfl⟩,rfl,rfl,rfl⟩,df rfl rfl (λq hq j hj=>qg (x:=E1 B m+(x.n)) ?_ q j hj (C5 mc q)),bP⟩;show Go.Sy.A.int .i64 (aa.wrap (fC E1 B (x.n) J m m+(x.n)))=Go.Sy.A.int .i64 (E1 B m+(x.n));rw[C6,dG]
   have b:h=m:=by omega
   subst b;refine b8 zE eF (dt zE rfl zE (cH zE ⟨k+1,a⟩ (dp a) ?_));refine((nS 165 168 166 B rfl rfl rfl).cell 8 0 rfl rfl rfl).gv.trans ?_;refine dD [(100,168)] ⟨rfl,rfl,rfl,rfl,rfl,c6 a,bP⟩ ⟨bV,rfl,⟨_,_,_,rfl,λi hi=>⟨?_,λq hq j hj=>?_⟩,bP⟩,bP⟩
   .show(if i=B then h else h)=h;split<;>rfl
   have hq:q<h:=hq;have h1:=YF (d:=d) (E:=E) (A:=A) (K:=K) (c:=x.n) (β:=-x.n) (by omega) sA q;have h2:=Hc (d:=d) (E:=E1) (A:=B) (K:=J) (β:=x.n) (by omega) hq;have h3:E i q=stM t d (l.take k) (i:Nat) (q:Nat):=by rw[hE]
   have h4:E1 B q=E B q:=by rw[hE1];exact bQ (λe=>tQ e.symm)
   show(if i=B then(kr (fC E1 B x.n J h))else(λ(q _:Nat)=>Go.Sy.A.int .i64 (E1 i q))) q j=Go.Sy.A.int .i64 (stM t d (l.take (k+1)) i q);rw[hst];by_cases e1:i=B
   .have e1:=e1.symm;subst e1;rw[bS rfl];show Go.Sy.A.int .i64 (fC E1 B x.n J h q)=_;rw[h2,h4,tP (nd:=(A:Int)) (by omega)];congr 1;omega
   rw[bQ e1];show Go.Sy.A.int .i64 (E1 i q)=_;rw[tP (nd:=(B:Int)) (by omega),hE1];simp only;by_cases e2:i=A
   .have e2:=e2.symm;subst e2;rw[bS rfl,h1];congr 1;omega
   rw[bQ e2,tP (nd:=(A:Int)) (by omega)];congr 1;omega
  refine b8 zE (by show((t.bO.bW.getD (l.getD k ab).ct.toNat ab).fr==d.src)=false;rw[iu];exact jd sA) ?_;refine zG zE ?_;refine NS.loop (σ:={ m:Nat // K<=m/\m<=h }) (λm=>[(7,.ptr 7 0),(8,.ptr 8 0),(10,.ptr 149 0),(13,.int .i64 (m.1:Nat))]) (λm=>[(8,.box [.rv 151 t.bO.qs.length]),(100,.dead),(149,.box [.int .i64 (A:Nat),.int .i64 (x.tm),.int .i64 (-x.n)]),(151,xe t.bO.qs.length (λ_=>h) E (some (A,.own 152))),(152,mi (fC E A (-x.n) K m.1) h)]) (λm=>h-m.1) ⟨K,al _,by omega⟩ ?_ ?_
  .refine((oL 100 151 152 A rfl sf.hA rfl rfl (by decide)).cell 8 0 rfl rfl rfl).gv.trans ?_;exact dD [] ⟨rfl,rfl,rfl,c9 rfl (eK),bP⟩ ⟨bV,rfl,⟨_,rfl,_,_,rfl,c9 rfl iu,_,_,rfl,c9 rfl eT,_,_,rfl,c9 rfl eN,rfl⟩,⟨_,_,_,rfl,λi hi=>⟨rfl,λq hq j hj=>by rw[hE]⟩,rfl,rfl,rfl⟩,df rfl (rfl) (λq hq j hj=>by rw[hE];show Go.Sy.A.int .i64 (stM t d (l.take k) (A:Nat) (q:Nat))=Go.Sy.A.int .i64 (fC (λ(a b:Nat)=>stM t d (l.take k) a b) A (-x.n) K K q);rw[C4]),bP⟩
  rintro⟨m,(mc:K<=m),hm⟩;have hm:m<=h:=hm;by_cases b:m<h
  .have oG:m<h:=b;have he:=zz A m;refine cD zE (er (show m<h by omega)) (cN zE ?_)
   repeat' (first|(refine bU zE (cZ sf.hA) ?_)|(refine bU zE (cw rfl) ?_)|(refine bU zE (cZ oG) ?_)|(refine bU zE (gw oG) ?_))
   refine cH zE ⟨m+1,ai mc,b⟩ (by show h-(m+1)<h-m;omega) ?_;refine dD [] ⟨rfl,rfl,rfl,c6 b,bP⟩ ⟨bV,rfl,bV,⟨_,_,_,rfl,λi hi=>⟨rfl,λq hq j hj=>rfl⟩,rfl,rfl,rfl⟩,df rfl rfl (λq hq j hj=>qg (x:=E A m+(-x.n)) ?_ q j hj (C5 mc q)),bP⟩;show Go.Sy.A.int .i64 (aa.wrap (fC E A (-x.n) K m m+(-x.n)))=Go.Sy.A.int .i64 (E A m+(-x.n));rw[C6,dG]
  have b:h=m:=by omega
  subst b;refine b8 zE eF (dt zE rfl zE ?_);obtain⟨E1,hE1⟩:∃ E1:Nat->Nat->Int,E1=λ(a b:Nat)=>if a=A then fC E A (-x.n) K h b else E a b:=⟨_,rfl⟩
  have Hd:∀ a b,-3300000<=E1 a b/\E1 a b<=3300000:=λa b=>by
   have h1:=zz a b;have h2:=zz A b;rw[hE1];simp only[fC]
   (repeat' split)<;>omega
  refine cj zE (zy (t.bO.bW.getD (l.getD k ab).ct.toNat ab) (l.getD k ab).tm) ?_;by_cases sB:(B:Int)=d.src
  .refine cD zE (by show((t.bO.bW.getD (l.getD k ab).ct.toNat ab).to==d.src)=true;rw[jK];exact beq_iff_eq.2 sB) ?_;refine eG zE J (λm=>[(8,.ptr 8 0),(10,.ptr 163 0),(52,.int .i64 (J:Nat)),(53,.int .i64 (m:Nat))]) (λm=>[(8,.box [.rv 165 t.bO.qs.length]),(151,.dead),(152,.dead),(163,.box [.int .i64 (B:Nat),.int .i64 (iQ t x),.int .i64 (x.n)]),(165,xe t.bO.qs.length (λ_=>h) E1 (some (B,.own 166))),(166,mi (fC E1 B (-x.n) 0 m) h)]) ?_ ?_
   .refine(((nS 151 164 152 A rfl rfl rfl).cell 8 0 rfl rfl rfl).trans ((oL 164 165 166 B rfl sf.hB rfl rfl (by decide)).cell 8 0 rfl rfl rfl)).gv.trans ?_;exact dD [] ⟨rfl,rfl,c9 rfl (by show(if(h:Int)<aa.wrap (aa.wrap (aa.wrap ((l.getD k ab).tm+1)+(t.bO.bW.getD (l.getD k ab).ct.toNat ab).c7)-d.ready)then(h:Int)else aa.wrap (aa.wrap (aa.wrap ((l.getD k ab).tm+1)+(t.bO.bW.getD (l.getD k ab).ct.toNat ab).c7)-d.ready))=(J:Int);rw[eJ,bQ (by omega)]),rfl,bP⟩ ⟨bV,rfl,rfl,⟨_,rfl,_,_,rfl,c9 rfl jK,_,_,rfl,c9 rfl eV,_,_,rfl,c9 rfl eM,rfl⟩,⟨_,_,_,rfl,λi hi=>⟨by show(if i=A then h else h)=h;split<;>rfl,λq hq j hj=>by rw[hE1];show(if i=A then kr (fC E A (-x.n) K h)else λ(q _:Nat)=>Go.Sy.A.int .i64 (E i q)) q j=Go.Sy.A.int .i64 (if i=A then fC E A (-x.n) K h q else E i q);split<;>rfl⟩,rfl,rfl,rfl⟩,df rfl (by show(if B=A then h else h)=h;split<;>rfl) (λq hq j hj=>by show(if B=A then kr (fC E A (-x.n) K h)else λ(q _:Nat)=>Go.Sy.A.int .i64 (E B q)) q j=Go.Sy.A.int .i64 (fC E1 B (-x.n) 0 0 q);rw[C4,hE1];show(if B=A then kr (fC E A (-x.n) K h)else λ(q _:Nat)=>Go.Sy.A.int .i64 (E B q)) q j=Go.Sy.A.int .i64 (if B=A then fC E A (-x.n) K h q else E B q);split<;>rfl),bP⟩
   rintro⟨m,(hm:m<=J)⟩;by_cases b:m<J
   .have oG:m<h:=by omega
    have he:=Hd B m;refine cD zE (er (show m<J by omega)) (cN zE ?_)
    repeat' (first|(refine bU zE (cZ sf.hB) ?_)|(refine bU zE (cw rfl) ?_)|(refine bU zE (cZ oG) ?_)|(refine bU zE (gw oG) ?_))
    refine cH zE ⟨m+1,b⟩ (dp b) ?_;refine dD [] ⟨rfl,rfl,rfl,c6 b,bP⟩ ⟨bV,rfl,rfl,bV,⟨_,_,_,rfl,λi hi=>⟨rfl,λq hq j hj=>rfl⟩,rfl,rfl,rfl⟩,df rfl rfl (λq hq j hj=>qg (x:=E1 B m+(-x.n)) ?_ q j hj (C5 (ak m) q)),bP⟩;show Go.Sy.A.int .i64 (aa.wrap (fC E1 B (-x.n) 0 m m-(x.n)))=Go.Sy.A.int .i64 (E1 B m+(-x.n));rw[C6,dG];exact fU (Go.Sy.A.int .i64) (by omega)
   have b:J=m:=by omega
   subst b;refine b8 zE eF (dt zE rfl zE (cH zE ⟨k+1,a⟩ (dp a) ?_));refine((nS 165 168 166 B rfl rfl rfl).cell 8 0 rfl rfl rfl).gv.trans ?_;refine dD [(100,168)] ⟨rfl,rfl,rfl,rfl,rfl,c6 a,bP⟩ ⟨bV,rfl,⟨_,_,_,rfl,λi hi=>⟨?_,λq hq j hj=>?_⟩,bP⟩,bP⟩
   .show(if i=B then h else h)=h;split<;>rfl
   have hq:q<h:=hq;have h1:=Hc (d:=d) (E:=E) (A:=A) (K:=K) (β:=-x.n) (by omega) hq;have h2:=YF (d:=d) (E:=E1) (A:=B) (K:=J) (c:=-x.n) (β:=x.n) rfl sB q;have h3:E i q=stM t d (l.take k) (i:Nat) (q:Nat):=by rw[hE]
   have h4:E1 B q=E B q:=by rw[hE1];exact bQ (λe=>tQ e.symm)
   show(if i=B then(kr (fC E1 B (-x.n) 0 J))else(λ(q _:Nat)=>Go.Sy.A.int .i64 (E1 i q))) q j=Go.Sy.A.int .i64 (stM t d (l.take (k+1)) i q);rw[hst];by_cases e1:i=B
   .have e1:=e1.symm;subst e1;rw[bS rfl];show Go.Sy.A.int .i64 (fC E1 B (-x.n) 0 J q)=_;rw[h2,h4,tP (nd:=(A:Int)) (by omega)];congr 1;omega
   rw[bQ e1];show Go.Sy.A.int .i64 (E1 i q)=_;rw[tP (nd:=(B:Int)) (by omega),hE1];simp only;by_cases e2:i=A
   .have e2:=e2.symm;subst e2;rw[bS rfl,h1];congr 1;omega
   rw[bQ e2,tP (nd:=(A:Int)) (by omega)];congr 1;omega
  refine b8 zE (by show((t.bO.bW.getD (l.getD k ab).ct.toNat ab).to==d.src)=false;rw[jK];exact jd sB) ?_;refine zG zE ?_;refine NS.loop (σ:={ m:Nat // J<=m/\m<=h }) (λm=>[(7,.ptr 7 0),(8,.ptr 8 0),(10,.ptr 163 0),(13,.int .i64 (m.1:Nat))]) (λm=>[(8,.box [.rv 165 t.bO.qs.length]),(151,.dead),(152,.dead),(163,.box [.int .i64 (B:Nat),.int .i64 (iQ t x),.int .i64 (x.n)]),(165,xe t.bO.qs.length (λ_=>h) E1 (some (B,.own 166))),(166,mi (fC E1 B (x.n) J m.1) h)]) (λm=>h-m.1) ⟨J,al _,by omega⟩ ?_ ?_
  .refine(((nS 151 164 152 A rfl rfl rfl).cell 8 0 rfl rfl rfl).trans ((oL 164 165 166 B rfl sf.hB rfl rfl (by decide)).cell 8 0 rfl rfl rfl)).gv.trans ?_;exact dD [] ⟨rfl,rfl,rfl,c9 rfl (eJ),bP⟩ ⟨bV,rfl,rfl,⟨_,rfl,_,_,rfl,c9 rfl jK,_,_,rfl,c9 rfl eV,_,_,rfl,c9 rfl eM,rfl⟩,⟨_,_,_,rfl,λi hi=>⟨by show(if i=A then h else h)=h;split<;>rfl,λq hq j hj=>by rw[hE1];show(if i=A then kr (fC E A (-x.n) K h)else λ(q _:Nat)=>Go.Sy.A.int .i64 (E i q)) q j=Go.Sy.A.int .i64 (if i=A then fC E A (-x.n) K h q else E i q);split<;>rfl⟩,rfl,rfl,rfl⟩,df rfl (by show(if B=A then h else h)=h;split<;>rfl) (λq hq j hj=>by show(if B=A then kr (fC E A (-x.n) K h)else λ(q _:Nat)=>Go.Sy.A.int .i64 (E B q)) q j=Go.Sy.A.int .i64 (fC E1 B x.n J J q);rw[C4,hE1];show(if B=A then kr (fC E A (-x.n) K h)else λ(q _:Nat)=>Go.Sy.A.int .i64 (E B q)) q j=Go.Sy.A.int .i64 (if B=A then fC E A (-x.n) K h q else E B q);split<;>rfl),bP⟩
  rintro⟨m,(mc:J<=m),hm⟩;have hm:m<=h:=hm;by_cases b:m<h
  .have oG:m<h:=b;have he:=Hd B m;refine cD zE (er (show m<h by omega)) (cN zE ?_)
   repeat' (first|(refine bU zE (cZ sf.hB) ?_)|(refine bU zE (cw rfl) ?_)|(refine bU zE (cZ oG) ?_)|(refine bU zE (gw oG) ?_))
   refine cH zE ⟨m+1,ai mc,b⟩ (by show h-(m+1)<h-m;omega) ?_;refine dD [] ⟨rfl,rfl,rfl,c6 b,bP⟩ ⟨bV,rfl,rfl,bV,⟨_,_,_,rfl,λi hi=>⟨rfl,λq hq j hj=>rfl⟩,rfl,rfl,rfl⟩,df rfl rfl (λq hq j hj=>qg (x:=E1 B m+(x.n)) ?_ q j hj (C5 mc q)),bP⟩;show Go.Sy.A.int .i64 (aa.wrap (fC E1 B (x.n) J m m+(x.n)))=Go.Sy.A.int .i64 (E1 B m+(x.n));rw[C6,dG]
  have b:h=m:=by omega
  subst b;refine b8 zE eF (dt zE rfl zE (cH zE ⟨k+1,a⟩ (dp a) ?_));refine((nS 165 168 166 B rfl rfl rfl).cell 8 0 rfl rfl rfl).gv.trans ?_;refine dD [(100,168)] ⟨rfl,rfl,rfl,rfl,rfl,c6 a,bP⟩ ⟨bV,rfl,⟨_,_,_,rfl,λi hi=>⟨?_,λq hq j hj=>?_⟩,bP⟩,bP⟩
  .show(if i=B then h else h)=h;split<;>rfl
  have hq:q<h:=hq;have h1:=Hc (d:=d) (E:=E) (A:=A) (K:=K) (β:=-x.n) (by omega) hq;have h2:=Hc (d:=d) (E:=E1) (A:=B) (K:=J) (β:=x.n) (by omega) hq;have h3:E i q=stM t d (l.take k) (i:Nat) (q:Nat):=by rw[hE]
  have h4:E1 B q=E B q:=by rw[hE1];exact bQ (λe=>tQ e.symm)
  show(if i=B then(kr (fC E1 B x.n J h))else(λ(q _:Nat)=>Go.Sy.A.int .i64 (E1 i q))) q j=Go.Sy.A.int .i64 (stM t d (l.take (k+1)) i q);rw[hst];by_cases e1:i=B
  .have e1:=e1.symm;subst e1;rw[bS rfl];show Go.Sy.A.int .i64 (fC E1 B x.n J h q)=_;rw[h2,h4,tP (nd:=(A:Int)) (by omega)];congr 1;omega
  rw[bQ e1];show Go.Sy.A.int .i64 (E1 i q)=_;rw[tP (nd:=(B:Int)) (by omega),hE1];simp only;by_cases e2:i=A
  .have e2:=e2.symm;subst e2;rw[bS rfl,h1];congr 1;omega
  rw[bQ e2,tP (nd:=(A:Int)) (by omega)];congr 1;omega
 have a:l.length=k:=by omega
 subst a;refine b8 zE eF (dt zE rfl zE ?_);refine Sat.goN 3 (Eq.refl _) (NS.stop ?_);refine Sat.wk ((AA 100 rfl).cell 8 0 rfl rfl rfl).gv ?_;refine cL zE rfl rfl (?_);rw[List.take_length];exact bY.refl _
end Go.Proofs.YtjhmdfofhnijeaaGreatDoor
