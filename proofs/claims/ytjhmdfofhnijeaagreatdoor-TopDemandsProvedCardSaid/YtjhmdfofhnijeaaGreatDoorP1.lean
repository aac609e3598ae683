import Derived.Test.YtjhmdfofhnijeaaGreatDoorS6
open Bool renaming or_eq_true->aa, and_eq_true->ab, not_eq_true'->ae
open Go.IntKind renaming i64->af
open Inhabited renaming default->ai
open List renaming mem_cons->aj, pairwise_cons->ak
set_option linter.all false
namespace Go.Mb
open Go.Sy
structure cU where
 lo:Int
 hi:Int
instance:Inhabited cU:=⟨⟨0,0⟩⟩
def cU.cells(x:cU):List A:=[.int .i64 x.lo,.int .i64 x.hi]
def fM(l:List cU):A:=.sl 2 l.length (cO cU.cells l)
def cU.eqv(a b:cU):Bool:=a.lo==b.lo&&(a.hi==b.hi&&true)
theorem cU.n5{a b:cU}:a.eqv b=true↔a=b:=by
 cases a;cases b;simp[cU.eqv]
def vS(x:cU):Bool:=decide (x.lo<x.hi)&&(decide (-1152921504606846976<=x.lo)&&decide (x.hi<=1152921504606846976))
def sQ(p:Option Int)(x:cU):Bool:=match p with|some t=>decide (x.lo<=t)|none=>false
def wh:Option Int->List cU->Int
 |_,[]=>0
 |p,x::l=>if vS x then(if sQ p x then 9 else wh (some x.hi) l)else 2
def ja(l:List cU):Int:=if l.length>1000 then 4 else wh none l
def iH(t:Int)(x:cU):Bool:=decide (x.lo<=t)&&decide (t<x.hi)
def Ka(l:List cU)(t:Int):Bool:=l.any (iH t)
def uv:List Int->Int->Bool
 |[],_=>false
 |x::l,t=>if x<=t then !uv l t else false
structure fV where
 fr:Int
 to:Int
 start:Int
 stop:Int
 gn:Int
 c7:Int
 rH:Int
instance:Inhabited fV:=⟨⟨0,0,0,0,0,0,0⟩⟩
def fV.cells(x:fV):List A:=[.int .i64 x.fr,.int .i64 x.to,.int .i64 x.start,.int .i64 x.stop,.int .i64 x.gn,.int .i64 x.c7,.int .i64 x.rH]
theorem oR(σ:Nat->Nat)(x:fV):qx σ x.cells x.cells:=⟨_,_,rfl,rfl,_,_,rfl,rfl,_,_,rfl,rfl,_,_,rfl,rfl,_,_,rfl,rfl,_,_,rfl,rfl,_,_,rfl,rfl,rfl⟩
def nv(l:List fV):A:=.sl 7 l.length (cO fV.cells l)
def fV.eqv(a b:fV):Bool:=a.fr==b.fr&&(a.to==b.to&&(a.start==b.start&&(a.stop==b.stop&&(a.gn==b.gn&&(a.c7==b.c7&&(a.rH==b.rH&&true))))))
theorem fV.n5{a b:fV}:a.eqv b=true↔a=b:=by
 obtain⟨_,_,_,_,_,_,_⟩:=a;obtain⟨_,_,_,_,_,_,_⟩:=b;simp[fV.eqv,and_assoc]
structure fE where
 qs:List Int
 bW:List fV
instance:Inhabited fE:=⟨⟨[],[]⟩⟩
def fE.cells(x:fE):List A:=[eD x.qs,nv x.bW]
structure dE where
 ct:Int
 fr:Int
 to:Int
 tk:Int
instance:Inhabited dE:=⟨⟨0,0,0,0⟩⟩
def dE.cells(x:dE):List A:=[.int .i64 x.ct,.int .i64 x.fr,.int .i64 x.to,.int .i64 x.tk]
def lU(l:List dE):A:=.sl 4 l.length (cO dE.cells l)
def dE.eqv(a b:dE):Bool:=a.ct==b.ct&&(a.fr==b.fr&&(a.to==b.to&&(a.tk==b.tk&&true)))
theorem dE.n5{a b:dE}:a.eqv b=true↔a=b:=by
 obtain⟨_,_,_,_⟩:=a;obtain⟨_,_,_,_⟩:=b;simp[dE.eqv,and_assoc]
structure di where
 node:Int
 fr:Int
 to:Int
 size:Int
 tk:Int
instance:Inhabited di:=⟨⟨0,0,0,0,0⟩⟩
def di.cells(x:di):List A:=[.int .i64 x.node,.int .i64 x.fr,.int .i64 x.to,.int .i64 x.size,.int .i64 x.tk]
def jz(l:List di):A:=.sl 5 l.length (cO di.cells l)
def di.eqv(a b:di):Bool:=a.node==b.node&&(a.fr==b.fr&&(a.to==b.to&&(a.size==b.size&&(a.tk==b.tk&&true))))
theorem di.n5{a b:di}:a.eqv b=true↔a=b:=by
 obtain⟨_,_,_,_,_⟩:=a;obtain⟨_,_,_,_,_⟩:=b;simp[di.eqv,and_assoc]
structure cE where
 bO:fE
 dg:List dE
 dw:List di
instance:Inhabited cE:=⟨⟨ai,[],[]⟩⟩
def cE.cells(x:cE):List A:=[eD x.bO.qs,nv x.bO.bW,lU x.dg,jz x.dw]
theorem TG(σ:Nat->Nat)(x:cE):qx σ x.cells x.cells:=⟨_,_,rfl,rfl,_,_,rfl,rfl,_,_,rfl,rfl,_,_,rfl,rfl,rfl⟩
structure cA where
 src:Int
 dst:Int
 fF:Int
 ready:Int
 dead:Int
instance:Inhabited cA:=⟨⟨0,0,0,0,0⟩⟩
def cA.cells(x:cA):List A:=[.int .i64 x.src,.int .i64 x.dst,.int .i64 x.fF,.int .i64 x.ready,.int .i64 x.dead]
def rB(l:List cA):A:=.sl 5 l.length (cO cA.cells l)
def cA.eqv(a b:cA):Bool:=a.src==b.src&&(a.dst==b.dst&&(a.fF==b.fF&&(a.ready==b.ready&&(a.dead==b.dead&&true))))
theorem cA.n5{a b:cA}:a.eqv b=true↔a=b:=by
 obtain⟨_,_,_,_,_⟩:=a;obtain⟨_,_,_,_,_⟩:=b;simp[cA.eqv,and_assoc]
structure dC where
 ct:Int
 tm:Int
 n:Int
instance:Inhabited dC:=⟨⟨0,0,0⟩⟩
def dC.cells(x:dC):List A:=[.int .i64 x.ct,.int .i64 x.tm,.int .i64 x.n]
def kC(l:List dC):A:=.sl 3 l.length (cO dC.cells l)
def dC.eqv(a b:dC):Bool:=a.ct==b.ct&&(a.tm==b.tm&&(a.n==b.n&&true))
theorem dC.n5{a b:dC}:a.eqv b=true↔a=b:=by
 obtain⟨_,_,_⟩:=a;obtain⟨_,_,_⟩:=b;simp[dC.eqv,and_assoc]
structure dR where
 fr:Int
 to:Int
 cap:Int
instance:Inhabited dR:=⟨⟨0,0,0⟩⟩
def dR.cells(x:dR):List A:=[.int .i64 x.fr,.int .i64 x.to,.int .i64 x.cap]
def fL(l:List dR):A:=.sl 3 l.length (cO dR.cells l)
def dR.eqv(a b:dR):Bool:=a.fr==b.fr&&(a.to==b.to&&(a.cap==b.cap&&true))
theorem dR.n5{a b:dR}:a.eqv b=true↔a=b:=by
 obtain⟨_,_,_⟩:=a;obtain⟨_,_,_⟩:=b;simp[dR.eqv,and_assoc]
def l5(c:fV):Int:=if !fY c.fr 0 15||(!fY c.to 0 15||(!fY c.gn 1 1000||(!fY c.c7 1 1048576|| !fY c.rH 0 16)))then 2 else if c.fr==c.to then 1 else if decide (c.start<0)||(decide (c.start>=c.stop)||decide (c.stop>af.wrap (1099511627776-af.wrap (2*c.c7))))then 2 else 0
theorem Kb{c:fV}(h:l5 c=0):0<=c.fr/\c.fr<=15/\0<=c.to/\c.to<=15/\1<=c.gn/\c.gn<=1000/\1<=c.c7/\c.c7<=1048576/\0<=c.rH/\c.rH<=16/\c.fr≠c.to/\0<=c.start/\c.start<c.stop/\c.stop<=1099511627776-2*c.c7:=by
 unfold l5 at h;split at h
 .cases h
 rename_i h1;split at h
 .cases h
 rename_i h2;split at h
 .cases h
 rename_i h3;simp only[aa,not_or,ae,Bool.not_eq_false,gH,dN,fY]at h1 h2 h3;have e1:af.wrap (2*c.c7)=2*c.c7:=dG;rw[e1,dG]at h3;omega
def l6(a b:fV):Bool:=l5 a==0&&(l5 b==0&&(a.fr==b.fr&&(a.to==b.to&&(decide (a.start<b.stop)&&decide (b.start<a.stop)))))
def oS:List Int->Int
 |[]=>0
 |q::l=>if decide (q<0)||decide (q>1073741824)then 2 else oS l
def qD(n:Int):List fV->List fV->Int
 |_,[]=>0
 |m,c::l=>if l5 c !=0 then l5 c else if decide (c.fr>=n)||decide (c.to>=n)then 2 else if m.any (λd=>l6 d c)then 14 else qD n (m++[c]) l
def jB(p:fE):Int:=if decide ((p.qs.length:Int)<1)||(decide ((p.qs.length:Int)>16)||decide ((p.bW.length:Int)>64))then 4 else if oS p.qs !=0 then oS p.qs else qD p.qs.length [] p.bW
structure Ui(n:Nat)(c:fV):Prop where
 fr:0<=c.fr/\c.fr<(n:Int)
 to:0<=c.to/\c.to<(n:Int)
 gn:1<=c.gn/\c.gn<=1000
 c7:1<=c.c7/\c.c7<=1048576
 rH:0<=c.rH/\c.rH<=16
 ne:c.fr≠c.to
 time:0<=c.start/\c.start<c.stop/\c.stop<=1099511627776-2*c.c7
 iY:l5 c=0
structure Kc(p:fE):Prop where
 n1:1<=p.qs.length
 n2:p.qs.length<=16
 m:p.bW.length<=64
 qs:∀ q∈p.qs,0<=q/\q<=1073741824
 bW:∀ c∈p.bW,Ui p.qs.length c
 ov:∀ k i,k<i->i<p.bW.length->l6 (p.bW.getD k ai) (p.bW.getD i ai)=false
theorem Uj:∀ {l:List Int},oS l=0-> ∀q∈l,0<=q/\q<=1073741824
 |[],_,q,h=>by cases h
 |x::l,h,q,hq=>by
  unfold oS at h;split at h
  .cases h
  rename_i h1;simp only[aa,dN,not_or]at h1;rcases aj.1 hq with rfl|hq
  .omega
  exact Uj h q hq
theorem Uk{n:Nat}:∀ {l m:List fV},qD n m l=0->(∀c∈l,Ui n c)/\(∀i,i<l.length->(∀d∈m,l6 d (l.getD i ai)=false)/\ ∀k,k<i->l6 (l.getD k ai) (l.getD i ai)=false)
 |[],m,_=>⟨(λc h=>by cases h),λi h=>by simp at h⟩
 |c::l,m,h=>by
  unfold qD at h;split at h
  .rename_i h1;rw[h]at h1;simp at h1
  rename_i h1;split at h
  .cases h
  rename_i h2;split at h
  .cases h
  rename_i h3;have h1:l5 c=0:=by simpa using h1
  simp only[aa,dN,not_or]at h2;have h3:∀ d∈m,l6 d c=false:=by
   intro d hd;have:=List.any_eq_false.1 (Bool.eq_false_iff.2 h3) d hd;simpa using this
  obtain⟨g1,g2⟩:=Uk h;have hc:=Kb h1;refine⟨λx hx=>?_,λi hi=>?_⟩
  .rcases aj.1 hx with rfl|hx
   .exact⟨by omega,by omega,by omega,by omega,by omega,hc.2.2.2.2.2.2.2.2.2.2.1,by omega,h1⟩
   exact g1 x hx
  cases i with
  |zero=>exact⟨h3,λk hk=>by omega⟩
  |succ i=>
   obtain⟨k1,k2⟩:=g2 i (by simpa using hi);refine⟨λd hd=>k1 d (List.mem_append_left _ hd),λk hk=>?_⟩;cases k with
   |zero=>exact k1 c (by simp)
   |succ k=>exact k2 k (by omega)
theorem Bb{p:fE}(h:jB p=0):Kc p:=by
 unfold jB at h;split at h
 .cases h
 rename_i h1;split at h
 .rename_i h2;rw[h]at h2;simp at h2
 rename_i h2;have h2:oS p.qs=0:=by simpa using h2
 simp only[aa,dN,not_or]at h1;obtain⟨g1,g2⟩:=Uk h;exact⟨by omega,by omega,by omega,Uj h2,g1,λk i hk hi=>(g2 i hi).2 k hk⟩
def kD(p:fE)(b:dE):Bool:=!(decide (b.ct<0)||(decide (b.ct>=(p.bW.length:Int))||(decide (b.tk<0)||decide (b.tk>1152921504606846976))))&&(decide ((p.bW.getD b.ct.toNat ai).start<=b.fr)&&(decide (b.fr<b.to)&&decide (b.to<=(p.bW.getD b.ct.toNat ai).stop)))
def gX:Option dE->dE->Int
 |none,_=>0
 |some a,b=>if b.ct>a.ct then 0 else if b.ct<a.ct||b.fr<=a.fr then 9 else if b.fr<a.to then 14 else 0
def oO(p:fE):Option dE->List dE->Int
 |_,[]=>0
 |a,b::l=>if !kD p b then 2 else if gX a b !=0 then gX a b else oO p (some b) l
def lB(p:fE)(l:List dE):Int:=if jB p !=0 then 1 else if decide ((l.length:Int)>512)then 4 else oO p none l
structure vU(p:fE)(b:dE):Prop where
 ct:0<=b.ct/\b.ct<(p.bW.length:Int)
 tk:0<=b.tk/\b.tk<=1152921504606846976
 lo:(p.bW.getD b.ct.toNat ai).start<=b.fr
 lt:b.fr<b.to
 hi:b.to<=(p.bW.getD b.ct.toNat ai).stop
def mU(a b:dE):Prop:=a.ct<b.ct\/(a.ct=b.ct/\a.fr<b.fr/\a.to<=b.fr)
structure yf(p:fE)(l:List dE):Prop where
 len:l.length<=512
 all:∀ b∈l,vU p b
 ord:l.Pairwise mU
theorem Th{p:fE}{b:dE}:kD p b=true↔vU p b:=by
 unfold kD;simp only[ab,ae,Bool.or_eq_false_iff,dN,gU];constructor
 .rintro⟨⟨h1,h2,h3,h4⟩,h5,h6,h7⟩;exact⟨by omega,by omega,h5,h6,h7⟩
 rintro⟨h1,h2,h3,h4,h5⟩;exact⟨⟨by omega,by omega,by omega,by omega⟩,h3,h4,h5⟩
theorem Ti{a b:dE}:gX (some a) b=0↔mU a b:=by
 show(if b.ct>a.ct then(0:Int)else if b.ct<a.ct||b.fr<=a.fr then 9 else if b.fr<a.to then 14 else 0)=0↔_;unfold mU;simp only[aa,dN]
 (repeat' split)<;>omega
theorem mU.trans{a b c:dE}(h:mU a b)(hb:b.fr<b.to)(h':mU b c):mU a c:=by unfold mU at *;omega
theorem Ul{p:fE}:∀ {l:List dE} {a:Option dE},oO p a l=0->(∀b∈l,vU p b)/\l.Pairwise mU/\ ∀x,a=some x-> ∀b∈l,mU x b
 |[],a,_=>⟨(λb h=>by cases h),List.Pairwise.nil,λx _ b h=>by cases h⟩
 |b::l,a,h=>by
  unfold oO at h;split at h
  .cases h
  rename_i h1;split at h
  .rename_i h2;rw[h]at h2;simp at h2
  rename_i h2;have h1:vU p b:=Th.1 (by simpa using h1);have h2:gX a b=0:=by simpa using h2
  obtain⟨g1,g2,g3⟩:=Ul h;refine⟨λx hx=>?_,ak.2 ⟨λx hx=>g3 b rfl x hx,g2⟩,λx hx y hy=>?_⟩
  .rcases aj.1 hx with rfl|hx
   .exact h1
   exact g1 x hx
  subst hx;have:=Ti.1 h2;rcases aj.1 hy with rfl|hy
  .exact this
  exact this.trans h1.lt (g3 b rfl y hy)
theorem ak5{p:fE}{l:List dE}(h:lB p l=0):yf p l:=by
 unfold lB at h;split at h
 .cases h
 split at h
 .cases h
 rename_i h2;have h2:¬ ((l.length:Int)>512):=by simpa using h2
 obtain⟨g1,g2,_⟩:=Ul h;exact⟨by omega,g1,g2⟩
def qv(p:fE)(h:di):Bool:=decide (h.node>=0)&&(decide (h.node<(p.qs.length:Int))&&(decide (h.fr>=0)&&(decide (h.fr<h.to)&&(decide (h.to<=1099511627776)&&(decide (h.size>=1)&&(decide (h.size<=65536)&&(decide (h.tk>=0)&&decide (h.tk<=1152921504606846976))))))))
def kT(a b:di):Bool:=if a.node !=b.node then decide (a.node<b.node)else if a.fr !=b.fr then decide (a.fr<b.fr)else if a.to !=b.to then decide (a.to<b.to)else if a.tk !=b.tk then decide (a.tk<b.tk)else decide (a.size<b.size)
def gz(node t:Int)(h:di):Bool:=h.node==node&&(decide (h.fr<=t)&&decide (t<h.to))
def e7(node t:Int):List di->Int
 |[]=>0
 |h::l=>(if gz node t h then h.size else 0)+e7 node t l
def rz(p:fE)(L:List di)(h:di):Bool:=decide (e7 h.node h.fr L<=p.qs.getD h.node.toNat ai)
def yg:Option di->di->Bool
 |none,_=>false
 |some a,b=>kT b a
def nX(p:fE):Option di->List di->Int
 |_,[]=>0
 |a,b::l=>if !qv p b then 2 else if yg a b then 9 else nX p (some b) l
def ui(p:fE)(l:List di):Int:=if jB p !=0 then 1 else if decide ((l.length:Int)>512)then 4 else if nX p none l !=0 then nX p none l else if l.all (rz p l)then 0 else 15
structure sF(p:fE)(h:di):Prop where
 node:0<=h.node/\h.node<(p.qs.length:Int)
 fr:0<=h.fr
 lt:h.fr<h.to
 to:h.to<=1099511627776
 size:1<=h.size/\h.size<=65536
 tk:0<=h.tk/\h.tk<=1152921504606846976
structure ye(p:fE)(l:List di):Prop where
 len:l.length<=512
 all:∀ h∈l,sF p h
 ord:l.Pairwise λa b=>kT b a=false
 fit:∀ h∈l,e7 h.node h.fr l<=p.qs.getD h.node.toNat ai
theorem JC{p:fE}{h:di}:qv p h=true↔sF p h:=by
 unfold qv;simp only[ab,dN];constructor
 .rintro⟨h1,h2,h3,h4,h5,h6,h7,h8,h9⟩;exact⟨⟨h1,h2⟩,h3,h4,h5,⟨h6,h7⟩,h8,h9⟩
 rintro⟨⟨h1,h2⟩,h3,h4,h5,⟨h6,h7⟩,h8,h9⟩;exact⟨h1,h2,h3,h4,h5,h6,h7,h8,h9⟩
def sI(a b:di):Prop:=a.node<b.node\/(a.node=b.node/\(a.fr<b.fr\/(a.fr=b.fr/\(a.to<b.to\/(a.to=b.to/\(a.tk<b.tk\/(a.tk=b.tk/\a.size<b.size)))))))
theorem JQ{a b:di}:kT a b=true↔sI a b:=by
 unfold kT sI;simp only[mX]
 (repeat' split)<;>simp only[dN]<;>omega
theorem ak6{a b c:di}(h:kT b a=false)(h':kT c b=false):kT c a=false:=by
 have e:∀ {x y:di},kT x y=false↔ ¬sI x y:=λ{x y}=>by rw[<-JQ];simp
 rw[e]at*;unfold sI at*;omega
theorem Kd{p:fE}:∀ {l:List di} {a:Option di},nX p a l=0->(∀b∈l,sF p b)/\(l.Pairwise λa b=>kT b a=false)/\ ∀x,a=some x-> ∀b∈l,kT b x=false
 |[],a,_=>⟨(λb h=>by cases h),List.Pairwise.nil,λx _ b h=>by cases h⟩
 |b::l,a,h=>by
  unfold nX at h;split at h
  .cases h
  rename_i h1;split at h
  .cases h
  rename_i h2;have h1:sF p b:=JC.1 (by simpa using h1);obtain⟨g1,g2,g3⟩:=Kd h;refine⟨λx hx=>?_,ak.2 ⟨λx hx=>g3 b rfl x hx,g2⟩,λx hx y hy=>?_⟩
  .rcases aj.1 hx with rfl|hx
   .exact h1
   exact g1 x hx
  subst hx;have h2:kT b x=false:=by simpa[yg]using h2
  rcases aj.1 hy with rfl|hy
  .exact h2
  exact ak6 h2 (g3 b rfl y hy)
theorem ak7{p:fE}{l:List di}(h:ui p l=0):ye p l:=by
 unfold ui at h;split at h
 .cases h
 split at h
 .cases h
 rename_i h2;split at h
 .rename_i h3;rw[h]at h3;simp at h3
 rename_i h3;split at h
 .rename_i h4;have h2:¬ ((l.length:Int)>512):=by simpa using h2
  have h3:nX p none l=0:=by simpa using h3
  obtain⟨g1,g2,_⟩:=Kd h3;refine⟨by omega,g1,g2,λx hx=>?_⟩;have:=List.all_eq_true.1 h4 x hx;simpa[rz]using this
 cases h
def fW(t:cE):Int:=if jB t.bO !=0 then jB t.bO else if lB t.bO t.dg !=0 then lB t.bO t.dg else ui t.bO t.dw
structure fj(t:cE):Prop where
 p:Kc t.bO
 b:yf t.bO t.dg
 h:ye t.bO t.dw
theorem kS{t:cE}(h:fW t=0):fj t:=by
 unfold fW at h;split at h
 .rename_i h1;rw[h]at h1;simp at h1
 rename_i h1;split at h
 .rename_i h2;rw[h]at h2;simp at h2
 rename_i h2;exact⟨Bb (by simpa using h1),ak5 (by simpa using h2),ak7 h⟩
def sL(n:Int)(d:cA):Bool:=if decide (d.src<0)||(decide (d.src>=n)||(decide (d.dst<0)||(decide (d.dst>=n)||(d.src==d.dst||(decide (d.fF<1)||decide (d.fF>1099511627776))))))then false else
 decide (d.ready>=0)&&(decide (d.ready<d.dead)&&(decide (d.dead<=1099511627776)&&decide (d.dead-d.ready<=100)))
structure gB(n:Nat)(d:cA):Prop where
 src:0<=d.src/\d.src<(n:Int)
 dst:0<=d.dst/\d.dst<(n:Int)
 ne:d.src≠d.dst
 fF:1<=d.fF/\d.fF<=1099511627776
 ready:0<=d.ready
 lt:d.ready<d.dead
 dead:d.dead<=1099511627776
 TJ:d.dead-d.ready<=100
theorem ak8{n:Nat}{d:cA}:sL n d=true↔0<=d.src/\d.src<(n:Int)/\0<=d.dst/\d.dst<(n:Int)/\d.src≠d.dst/\1<=d.fF/\d.fF<=1099511627776/\0<=d.ready/\d.ready<d.dead/\d.dead<=1099511627776/\d.dead-d.ready<=100:=by
 unfold sL;split
 .rename_i h;simp only[aa,dN,gH]at h;constructor
  .intro h;cases h
  rintro⟨h1,h2,h3,h4,h5,h6,h7,h8⟩;omega
 rename_i h;simp only[aa,dN,gH,not_or]at h;simp only[ab,dN];omega
def Bm(t:cE):Bool:=decide ((t.bO.qs.length:Int)>6)||(decide ((t.bO.bW.length:Int)>10)||(decide ((t.dg.length:Int)>30)||decide ((t.dw.length:Int)>30)))
def sK(t:cE)(d:cA):Bool:=Bm t||(decide (d.dead>af.wrap (d.ready+24))&&decide (d.dead<=af.wrap (d.ready+100)))
theorem ak9{n:Nat}{d:cA}:sL n d=true↔gB n d:=by
 unfold sL;split
 .rename_i h;simp only[aa,dN,gH]at h;constructor
  .intro h;cases h
  rintro⟨h1,h2,h3,h4,h5,h6,h7,h8⟩;omega
 rename_i h;simp only[aa,dN,gH,not_or]at h;simp only[ab,dN];constructor
 .rintro⟨h1,h2,h3,h4⟩;exact⟨by omega,by omega,h.2.2.2.2.1,by omega,h1,h2,h3,h4⟩
 rintro⟨h1,h2,h3,h4,h5,h6,h7,h8⟩;exact⟨by omega,by omega,by omega,by omega⟩
end Go.Mb
