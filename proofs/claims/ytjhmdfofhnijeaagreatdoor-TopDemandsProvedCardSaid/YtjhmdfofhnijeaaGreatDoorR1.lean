import Derived.Test.YtjhmdfofhnijeaaGreatDoorQ2
import Derived.Test.YtjhmdfofhnijeaaGreatDoorF1
open Go.Instr renaming checkKey->aa
open Go.IntKind renaming i64->ab
open Go.Proofs.Tryz renaming prog->ae, underlying188->af, underlying3->ai
open Inhabited renaming default->aj
open Int renaming natCast_mul->ak, ediv_eq_zero_of_lt->al, add_mul_ediv_right->aq, toNat_of_nonneg->ar, natCast_nonneg->au, natCast_emod->av, natCast_ediv->ay, natCast_add->az, add_comm->aA, le_refl->aB
open List renaming length_append->aC, getElem_mem->aD, length_map->aF, append_nil->aG, map_append->aH, range->aI, flatMap_append->aJ, length_range->aK, append_assoc->aL, map_nil->aM, flatMap_cons->aN, range_zero->aO, range_succ->aP
open Nat renaming mul_le_mul->aQ, mul_comm->aR, zero_le->aS
set_option linter.all false
namespace Go.Proofs.YtjhmdfofhnijeaaGreatDoor
open Go.Sy Go.Mb
set_option maxRecDepth 100000
set_option maxHeartbeats 4000000
theorem yb{P:Program}{t:TypeId}(ht:P.underlying t=some (.int .i64))(w:World)(cs:Array Value)(off:Nat)(v:Value)(h:cs[off]? =some v):(part t cs off).run P w= .ok v w:=by
 simp[part,isAgg,run_underlying ht,h]
theorem Jm{P:Program}{t:TypeId}(ht:P.underlying t=some (.int .i64))(w:World)(em:Bool)(n:Nat)(a:Int):(aa em (n+1) t (.int .i64 a)).run P w= .ok () w:=by
 unfold aa;simp only[Sem.run_bind,run_underlying ht,Result.andThen_ok];rfl
theorem ame(w:World)(em:Bool)(q:List Int)(hq:q.length=2):(aa em 10000 188 (ep true q)).run ae w= .ok () w:=by
 match q,hq with
 |[a,b],_=>
  rw[show(10000:Nat)=9998+1+1 from rfl];unfold aa;simp only[ep,Sem.run_bind,run_underlying af,Result.andThen_ok];have p0:=yb ai w #[Value.int .i64 a,Value.int .i64 b] 0 _ rfl;have p1:=yb ai w #[Value.int .i64 a,Value.int .i64 b] 1 _ rfl;simp[p0,p1,Jm ai w em 9998]
def KG:List (TypeId×List Go.Sy.CK):=[(188,[.i .i64,.i .i64])]
theorem Vg:tS ae KG:=by
 intro p hp;simp only[KG,List.mem_cons,List.not_mem_nil,or_false]at hp;rcases hp with rfl;exact⟨by kernel_rfl,by kernel_rfl,by rw[af];trivial⟩
theorem amf:xm ae [(190,true,2)]:=by
 intro p hp;obtain rfl:=List.mem_singleton.1 hp;exact⟨188,3,by kernel_rfl,Jo Vg rfl ⟨_,af⟩ ame⟩
noncomputable def Fv:Env:={ P:=ae,lJ:=lK KG,nO:=tT [(190,true,2)] }
theorem Vh:ib Fv:=zI Vg amf
noncomputable def E3:Cx:={ E:=Fv,inl:=[70,71,82,130,132,190],ok:=Vh }
def eR(r H:Int)(q:List Int):Int:=q.headD 0*H+(q.getD 1 0-r)
def kF(r H c:Int)(q:List Int):Bool:=decide (0<=q.headD 0/\r<=q.getD 1 0/\q.getD 1 0<r+H/\eR r H q<c)
def wt(r H c:Int):Ob:=.mp 190 true 2 true [] (kF r H c) (λq=>.int .i64 (eR r H q))
def mB(r H:Int)(i:Nat):List A:=[.int .i64 ((i:Int)/H),.int .i64 (r+(i:Int)%H)]
theorem amg{r H x y x' y':Int}(hx:r<=y/\y<r+H)(hx':r<=y'/\y'<r+H)(h:eR r H [x,y]=eR r H [x',y']):x=x'/\y=y':=by
 have h:x*H+(y-r)=x'*H+(y'-r):=h;have hH:H≠0:=by omega
 have e1:(x*H+(y-r))/H=x:=by rw[aA,aq _ _ hH,al (by omega) (by omega)];omega
 have e2:(x'*H+(y'-r))/H=x':=by rw[aA,aq _ _ hH,al (by omega) (by omega)];omega
 have e:x=x':=by rw[<-e1,<- e2,h]
 subst e;exact⟨rfl,by omega⟩
theorem KH{r H x y c:Int}(hx:0<=x)(hy:r<=y/\y<r+H)(hc:eR r H [x,y]=c){q:List Int}(hq:q.length=2):
  eu (kF r H c) (λq=>A.int .i64 (eR r H q)) [([x,y],some (.int .i64 c))] q=eu (kF r H (c+1)) (λq=>A.int .i64 (eR r H q)) [] q:=by
 match q,hq with
 |[a,b],_=>
  by_cases e:[a,b]=[x,y]
  .have h1:kE [a,b] [x,y]=true:=yw.2 e;have h2:kF r H (c+1) [a,b]=true:=by rw[e];exact cw ⟨hx,hy.1,hy.2,by omega⟩
   simp only[eu,h1,h2];rw[e,hc]
  have h1:kE [a,b] [x,y]=false:=Bo e;have h2:kF r H (c+1) [a,b]=kF r H c [a,b]:=by
   unfold kF;refine decide_eq_decide.2 ⟨λh=>⟨h.1,h.2.1,h.2.2.1,?_⟩,λh=>⟨h.1,h.2.1,h.2.2.1,by omega⟩⟩;have hne:eR r H [a,b]≠c:=λk=>by
    have:=amg (x:=a) (y:=b) (x':=x) (y':=y) ⟨h.2.1,h.2.2.1⟩ hy (k.trans hc.symm);exact e (by rw[this.1,this.2])
   omega
  simp only[eu,h1,h2]
theorem KI(r:Int)(h:Nat){q:List Int}(hq:q.length=2):eu (λ_=>false) (λ_=>A.dU) [] q=eu (kF r h ((0*h:Nat):Int)) (λq=>A.int .i64 (eR r h q)) [] q:=by
 have:kF r h ((0*h:Nat):Int) q=false:=dQ λk=>by
  obtain⟨h1,h2,h3,h4⟩:=k;unfold eR at h4;have:=Int.mul_nonneg h1 (au h);omega
 simp only[eu,this]
def rN(t:cE)(d:cA)(p m:A):List A:=[eD t.bO.qs,nv t.bO.bW,lU t.dg,jz t.dw,.int .i64 d.src,.int .i64 d.dst,.int .i64 d.fF,.int .i64 d.ready,.int .i64 d.dead,p,m]
theorem om(σ:Nat->Nat)(t:cE)(d:cA){i j k:Nat}(h:σ i=j)(h':σ k=k):qx σ (rN t d (.own i) (.dA k)) (rN t d (.own j) (.dA k)):=⟨_,_,rfl,rfl,_,_,rfl,rfl,_,_,rfl,rfl,_,_,rfl,rfl,_,_,rfl,rfl,_,_,rfl,rfl,_,_,rfl,rfl,_,_,rfl,rfl,_,_,rfl,rfl,_,_,rfl,by rw[<-h];rfl,_,_,rfl,by show A.dA k=A.dA (σ k);rw[h'],rfl⟩
def rowP(r:Int)(h c:Nat):Ob:=.row 188 2 c (λi j=>bT (mB r h i) j)
theorem KL{r x y:Int}{h n:Nat}(hx:0<=x/\x<(n:Int))(hy:r<=y/\y<r+(h:Int)):kF r h ((n*h:Nat):Int) [x,y]=true:=by
 refine cw ⟨hx.1,hy.1,hy.2,?_⟩;show x*(h:Int)+(y-r)<_;have h1:(x+1)*(h:Int)<=(n:Int)*(h:Int):=Int.mul_le_mul_of_nonneg_right (by omega) (by omega);rw[Int.add_mul]at h1;rw[ak];omega
theorem KM{r:Int}{h k m q j:Nat}(hm:m<h){ex:Nat->Nat->A}(hx:∀ j,j<2->ex 0 j=bT [.int .i64 (k:Nat),.int .i64 (r+(m:Nat))] j)(hq:q<k*h+m+1)(hj:j<2):(if q<k*h+m then bT (mB r h q) j else ex (q-(k*h+m)) j)=bT (mB r h q) j:=by
 by_cases c:q<k*h+m
 .rw[bS c]
 rw[bQ c];obtain rfl:q=k*h+m:=by omega
 rw[Nat.sub_self,hx j hj];have e1:((k*h+m:Nat):Int)/(h:Int)=(k:Int):=by
  rw[<-ay,aR,Nat.mul_add_div (by omega),Nat.div_eq_of_lt hm];rfl
 have e2:((k*h+m:Nat):Int)%(h:Int)=(m:Int):=by
  rw[<-av,aR,Nat.mul_add_mod,Nat.mod_eq_of_lt hm]
 unfold mB;rw[e1,e2]
theorem pH(r:Int)(h A B:Nat):eR r h [(A:Int),r+(B:Int)]=((A*h+B:Nat):Int):=by
 show(A:Int)*(h:Int)+(r+(B:Int)-r)=_;rw[az,ak];omega
theorem Fw(t:cE)(d:cA)(hp:fj t)(n:Nat)(el:Nat->Nat->A)(node time:Int)(hn:0<=node/\node<(t.bO.qs.length:Int)):cJ ae 131 [.ip 11 (bT (rN t d (.sl 2 n el) .dU)),.agg [.int .i64 node,.int .i64 time]] (.int .i64 (jm t d node time),none):=by
 obtain⟨R,hR⟩:∃ R,R=jm t d node time:=⟨_,rfl⟩;rw[<-hR];unfold jm at hR;have hl:=hp.h.len;have hq:=hp.p.qs (t.bO.qs.getD node.toNat aj) (by rw[cV (by omega)];exact aD _);refine c8 CM Tryz.func131 rfl ?_;refine cN zE ?_;have both:node=d.src\/node=d.dst->R=1099511627776:=λh=>by rw[hR,bS h]
 refine cK zE (λa=>?_) (λa=>?_)
 .have a:node=d.src:=ie (show(node==d.src)=true from a);exact cL zE rfl rfl (dY (((both (.inl a)).symm)))
 have a:node≠d.src:=ne_of_beq_false (show(node==d.src)=false from a);refine cK zE (λb=>?_) (λb=>?_)
 .have b:node=d.dst:=ie (show(node==d.dst)=true from b);exact cL zE rfl rfl (dY (((both (.inr b)).symm)))
 have b:node≠d.dst:=ne_of_beq_false (show(node==d.dst)=false from b);rw[bQ (by rintro(h|h);exact a h;exact b h)]at hR
 repeat' (first|(refine cN zE ?_)|(refine bU zE (by show decide (0<=node/\node<(t.bO.qs.length:Int))=true;exact cw hn) ?_))
 refine zG zE ?_;refine NS.loop (σ:={ q:Nat×Int // q.1<=t.dw.length/\oe node time (t.dw.drop q.1) q.2=R/\ -(65536*(q.1:Int))<=q.2/\q.2<=1073741824 }) (λq=>[(3,.ptr 3 0),(5,.int .i64 q.1.2),(40,jz t.dw),(41,.int .i64 t.dw.length),(42,.int .i64 (q.1.1:Nat))]) (λ_=>[(3,.box [.int .i64 node,.int .i64 time])]) (λq=>t.dw.length-q.1.1) ⟨(0,t.bO.qs.getD node.toNat aj),aS _,hR.symm,by show-(65536*(0:Int))<=_;omega,hq.2⟩ ?_ ?_
 .exact cB [] ⟨rfl,rfl,rfl,rfl,rfl,bP⟩ ⟨bV,bP⟩
 rintro⟨⟨k,n⟩,hk,hx,h1,h2⟩;have hk:k<=t.dw.length:=hk;have hx:oe node time (t.dw.drop k) n=R:=hx;have h1:-(65536*(k:Int))<=n:=h1;have h2:n<=1073741824:=h2;by_cases c:k<t.dw.length
 .have hs:=hp.h.all (t.dw.getD k aj) (by rw[cV c];exact aD _);have hs:=hs.size;rw[drop_cons c,oe]at hx;refine cD zE (er (show k<t.dw.length by omega)) (bU zE (cZ c) (cK zE (λb1=>?_) (λb1=>?_)))
  .have b1:((t.dw.getD k aj).node==node)=true:=b1;refine cK zE (λb2=>?_) (λb2=>?_)
   .have b2:decide ((t.dw.getD k aj).fr<=time)=true:=b2;refine cK zE (λb3=>?_) (λb3=>?_)
    .have b3:decide (time<(t.dw.getD k aj).to)=true:=b3;rw[bS (by unfold gz;rw[b1,b2,b3];rfl)]at hx;have e1:ab.wrap (n-(t.dw.getD k aj).size)=n-(t.dw.getD k aj).size:=dG;refine cH zE ⟨(k+1,n-(t.dw.getD k aj).size),c,hx,by show-(65536*((k+1:Nat):Int))<=n-_;omega,by show n-_<=1073741824;omega⟩ (by show t.dw.length-(k+1)<t.dw.length-k;omega) ?_;exact cB [] ⟨rfl,c9 rfl e1,rfl,rfl,c6 c,bP⟩ ⟨bV,bP⟩
    have b3:decide (time<(t.dw.getD k aj).to)=false:=b3;rw[bQ (by unfold gz;rw[b3];simp)]at hx;refine cH zE ⟨(k+1,n),c,hx,by show-(65536*((k+1:Nat):Int))<=n;omega,h2⟩ (by show t.dw.length-(k+1)<t.dw.length-k;omega) ?_;exact cB [] ⟨rfl,rfl,rfl,rfl,c6 c,bP⟩ ⟨bV,bP⟩
   have b2:decide ((t.dw.getD k aj).fr<=time)=false:=b2;rw[bQ (by unfold gz;rw[b2];simp)]at hx;refine cH zE ⟨(k+1,n),c,hx,by show-(65536*((k+1:Nat):Int))<=n;omega,h2⟩ (by show t.dw.length-(k+1)<t.dw.length-k;omega) ?_;exact cB [] ⟨rfl,rfl,rfl,rfl,c6 c,bP⟩ ⟨bV,bP⟩
  have b1:((t.dw.getD k aj).node==node)=false:=b1;rw[bQ (by unfold gz;rw[b1];simp)]at hx;refine cH zE ⟨(k+1,n),c,hx,by show-(65536*((k+1:Nat):Int))<=n;omega,h2⟩ (by show t.dw.length-(k+1)<t.dw.length-k;omega) ?_;exact cB [] ⟨rfl,rfl,rfl,rfl,c6 c,bP⟩ ⟨bV,bP⟩
 have c:t.dw.length=k:=by omega
 subst c;refine b8 zE eF (dt zE rfl zE ?_);rw[List.drop_length,oe]at hx;refine cL zE rfl rfl (bY.lr hx)
def pI(l:List dR):Ob:=.row 199 3 l.length (cO dR.cells l)
def eA(t:cE)(d:cA)(h k:Nat)(l:List Int):List dR:=(dV t d h (t.bO.qs.length*h)++(aI k).flatMap (iz t d h)++l.map (cX t d h k)).map XA.dv
theorem wu(t:cE)(d:cA)(h:Nat):eA t d h 0 []=(dV t d h (t.bO.qs.length*h)).map XA.dv:=by unfold eA;simp
def eC(t:cE)(d:cA)(k j m:Nat):List Int:=((ec t.bO t.dg k).take j).flatMap (rJ d (t.bO.bW.getD k aj).c7)++(aI m).map λi=>l7 d ((ec t.bO t.dg k).getD j aj)+(i:Nat)
theorem yD{α β:Type}{f:α->List β}{n:Nat}:∀ {L:List α},(∀x∈L,(f x).length<=n)->(L.flatMap f).length<=L.length*n
 |[],_=>aS _
 |x::L,h=>by
  have h1:=h x List.mem_cons_self;have h2:=yD (L:=L) λy hy=>h y (List.mem_cons_of_mem _ hy);rw[aN,aC,List.length_cons,Nat.add_mul];omega
theorem Fx(t:cE)(d:cA)(k:Nat):eC t d k (ec t.bO t.dg k).length 0=mA t d k:=by
 unfold eC mA;rw[List.take_length,aO,aM,aG]
theorem amh{t:cE}(ok:fj t)(d:cA)(k j m:Nat)(hh:d.dead-d.ready<=24):(eC t d k j m).length<=24+m:=by
 have h1:=Br ok d k;have h2:mA t d k=((ec t.bO t.dg k).take j).flatMap (rJ d (t.bO.bW.getD k aj).c7)++((ec t.bO t.dg k).drop j).flatMap (rJ d (t.bO.bW.getD k aj).c7):=by
  rw[<-aJ,List.take_append_drop];rfl
 rw[h2,aC]at h1;unfold eC;rw[aC,aF,aK];omega
theorem Fy{t:cE}(ok:fj t){d:cA}{h k j m:Nat}(hm:m<=25)(hk:k<t.bO.bW.length)(hh:d.dead-d.ready<=24):(eA t d h k (eC t d k j m)).length<=t.bO.qs.length*h+64*24+49:=by
 have h1:=uw t d h (t.bO.qs.length*h);have h2:=amh ok d k j m hh;have h3:((aI k).flatMap (iz t d h)).length<=(aI k).length*24:=yD λx _=>by
  unfold iz;rw[aF];have:=Br ok d x;omega
 have h4:=ok.p.m;rw[aK]at h3;unfold eA;rw[aF,aC,aC,aF];have:k*24<=64*24:=Nat.mul_le_mul_right 24 (by omega);omega
theorem Fz(t:cE)(d:cA)(k j m:Nat):eC t d k j (m+1)=eC t d k j m++[l7 d ((ec t.bO t.dg k).getD j aj)+(m:Nat)]:=by
 unfold eC;rw[aP,aH,<- aL];rfl
theorem BB{t:cE}{d:cA}{k j:Nat}(hj:j<(ec t.bO t.dg k).length):eC t d k (j+1) 0=eC t d k j (mz d (t.bO.bW.getD k aj).c7 ((ec t.bO t.dg k).getD j aj)-l7 d ((ec t.bO t.dg k).getD j aj)).toNat:=by
 unfold eC;rw[gg hj,aJ,aO,aM,aG];congr 1;rw[aN,List.flatMap_nil,aG];rfl
theorem FA(t:cE)(d:cA)(h k:Nat)(l:List Int)(u:Int):eA t d h k (l++[u])=eA t d h k l++[(cX t d h k u).dv]:=by
 unfold eA;rw[aH (f:=cX t d h k),<- aL,aH (l₂:=List.map (cX t d h k) [u])];rfl
theorem FB(t:cE)(d:cA)(h k:Nat):eA t d h k (mA t d k)=eA t d h (k+1) []:=by
 unfold eA;rw[aP,aJ,aM,aG,aL];simp[iz]
theorem FC(t:cE)(d:cA)(h:Nat):eA t d h t.bO.bW.length []=dq t d h:=by
 unfold eA dq dy;rw[aM,aG]
theorem KN{t:cE}(h:fW t=0):lB t.bO t.dg=0:=by
 unfold fW at h;split at h
 .rename_i h1;rw[h]at h1;exact dP h1 (by decide)
 split at h
 .rename_i h1;rw[h]at h1;exact dP h1 (by decide)
 rename_i h1;simpa using h1
def KO(t:cE)(d:cA)(h:Nat):List Go.Sy.A:=[.int .i64 ((t.bO.qs.length*h:Nat):Int),fL (dq t d h),.int .i64 ((d.src.toNat*h:Nat):Int),.int .i64 ((d.dst.toNat*h+(h-1):Nat):Int)]
theorem ami(t:cE)(d:cA)(h:Nat)(ht:fW t=0)(hd:gB t.bO.qs.length d)(hq:t.bO.qs.length<=6)(hH:d.dead=d.ready+h-1/\2<=h/\h<=25):cJ ae 56 [.agg t.cells,.agg d.cells] (.cG [.agg (KO t d h),.int .i64 0],none):=by
 have hh:d.dead-d.ready<=24:=by omega
 have n1:((d.src.toNat*h:Nat):Int)=eR d.ready h [d.src,d.ready]:=by have:=pH d.ready h d.src.toNat 0;rw[ar hd.src.1,Nat.add_zero]at this;rw[<-this];simp
 have n2:((d.dst.toNat*h+(h-1):Nat):Int)=eR d.ready h [d.dst,d.dead]:=by have:=pH d.ready h d.dst.toNat (h-1);rw[ar hd.dst.1,show d.ready+((h-1:Nat):Int)=d.dead by omega]at this;exact this.symm
 unfold KO;rw[<-FC,n1,n2];obtain⟨r,hr⟩:∃ r,r=d.ready:=⟨_,rfl⟩;have mO:=hd.ready;have hrd:=hd.dead;have jg:=kS ht;have hb:=KN ht;have dF:=jg.b.len;have hc:=jg.p.m;refine c8 E3 Tryz.func56 rfl ?_;refine cj zE (KF t d ht hd) (b8 zE (rfl) ?_);refine eG zE t.bO.qs.length (λk=>[(3,.ptr 22 0),(6,.ptr 37 0),(22,.int .i64 t.bO.qs.length),(23,.int .i64 (k:Nat))]) (λk=>[(22,.box d.cells),(35,wt d.ready h ((k*h:Nat):Int)),(37,.box (rN t d (.own 79) (.dA 35))),(79,rowP d.ready h (k*h))]) ?_ ?_
 .refine(oM 37 9 79 188 2 (λi j=>bT (mB d.ready h i) j) rfl rfl rfl).trans ?_;exact dD [] ⟨rfl,rfl,rfl,rfl,bP⟩ ⟨bV,⟨_,_,_,rfl,rfl,λq hq=>KI d.ready h hq⟩,⟨_,rfl,om _ _ _ rfl rfl⟩,df rfl (by show 0=0*h;omega) (λq hq=>dP hq (by show¬q<0*h;omega)),bP⟩
 rintro⟨k,(hk:k<=t.bO.qs.length)⟩;by_cases a:k<t.bO.qs.length
 .refine cD zE (er (show k<t.bO.qs.length by omega)) ?_;refine eG zE h (λm=>[(3,.ptr 22 0),(6,.ptr 37 0),(7,.int .i64 (k:Nat)),(8,.int .i64 (d.ready+(m:Nat))),(22,.int .i64 t.bO.qs.length),(23,.int .i64 (k:Nat))]) (λm=>[(22,.box d.cells),(35,wt d.ready h ((k*h+m:Nat):Int)),(37,.box (rN t d (.own 79) (.dA 35))),(79,rowP d.ready h (k*h+m))]) ?_ ?_
  .exact dD [] ⟨rfl,rfl,rfl,c9 rfl (by show d.ready=d.ready+((0:Nat):Int);omega),rfl,rfl,bP⟩ ⟨bV,⟨_,_,_,rfl,rfl,λq hq=>rfl⟩,⟨_,rfl,om _ _ _ rfl rfl⟩,ee,bP⟩
  rintro⟨m,(hm:m<=h)⟩;by_cases b:m<h
  .refine cD zE (by show decide (d.ready+(m:Int)<=d.dead)=true;exact cw (by omega)) ?_;have hb:k*h+m<=150:=by have:=aQ (show k<=5 by omega) hH.2.2;omega
   refine cN zE ?_;refine cN zE ?_;refine bU zE (cw (by show(k*h+m+1)*(15+1+1)<=du;simp only[du];omega)) ?_;have hw:ab.wrap (d.ready+(m:Int)+1)=d.ready+((m+1:Nat):Int):=by rw[dG];omega
   have hn:eR d.ready h [(k:Int),d.ready+(m:Int)]=((k*h+m:Nat):Int):=by unfold eR;show(k:Int)*(h:Int)+(d.ready+(m:Int)-d.ready)=_;rw[az,ak];omega
   refine cH zE ⟨m+1,b⟩ (dp b) ?_;exact dD [(79,73)] ⟨rfl,rfl,rfl,c9 rfl hw,rfl,rfl,bP⟩ ⟨bV,⟨_,_,_,rfl,rfl,λq hq=>KH (au k) (by omega) hn hq⟩,⟨_,rfl,om _ _ _ rfl rfl⟩,df rfl rfl (λq hq j hj=>by show(if q<k*h+m then bT (mB d.ready h q) j else(λi j=>bT [.int .i64 (k:Nat),.int .i64 (d.ready+(m:Nat))] (i*2+j)) (q-(k*h+m)) j)=bT (mB d.ready h q) j;exact KM (r:=d.ready) (ex:=λi j=>bT [.int .i64 (k:Nat),.int .i64 (d.ready+(m:Nat))] (i*2+j)) b (λj hj=>by show bT _ (0*2+j)=_;rw[Nat.zero_mul,Nat.zero_add]) hq hj),bP⟩
  have b:h=m:=by omega
  subst b;refine b8 zE (by show decide (d.ready+(h:Int)<=d.dead)=false;exact dQ (by omega)) (dt zE rfl zE ?_);have e:k*h+h=(k+1)*h:=(Nat.succ_mul k h).symm;refine cH zE ⟨k+1,a⟩ (dp a) ?_;exact dD [] ⟨rfl,rfl,rfl,c6 a,bP⟩ ⟨bV,⟨_,_,_,rfl,rfl,λq hq=>by rw[e]⟩,⟨_,rfl,om _ _ _ rfl rfl⟩,df rfl e (λq hq j hj=>rfl),bP⟩
 have a:t.bO.qs.length=k:=by omega
 subst a;refine b8 zE eF (dt zE rfl zE ?_);have hin:∀ x y:Int,0<=x/\x<(t.bO.qs.length:Int)->d.ready<=y/\y<=d.dead->kF d.ready h ((t.bO.qs.length*h:Nat):Int) [x,y]=true:=λx y hx hy=>KL hx (by omega);refine cN zE ?_;refine cD zE (hin _ _ hd.src ⟨aB _,by omega⟩) (cD zE (hin _ _ hd.dst ⟨by omega,aB _⟩) ?_);refine eG zE (t.bO.qs.length*h) (λi=>[(0,.dA 136),(1,.ptr 135 0),(2,.ptr 139 0),(13,.own 79),(14,.int .i64 ((t.bO.qs.length*h:Nat):Int)),(15,.int .i64 (i:Nat))]) (λi=>[(83,.box [.int .i64 ((t.bO.qs.length*h:Nat):Int),.own 150,.int .i64 (eR d.ready h [d.src,d.ready]),.int .i64 (eR d.ready h [d.dst,d.dead])]),(139,.box [.dA 136]),(150,pI ((dV t d h i).map XA.dv))]) ?_ ?_
 .refine(oM 83 1 150 199 3 (cO dR.cells []) rfl rfl rfl).trans ?_;exact dD [] ⟨rfl,rfl,rfl,rfl,rfl,rfl,bP⟩ ⟨bV,bV,df rfl rfl (λq hq=>dP hq (Nat.not_lt_zero q)),bP⟩
 rintro⟨i,(hi:i<=t.bO.qs.length*h)⟩;by_cases a:i<t.bO.qs.length*h
 .refine cD zE (er (show i<(t.bO.qs.length*h:Nat) by omega)) (bU zE (cZ a) (bU zE (gw a) ?_));obtain⟨A,B,hA,hB,rfl⟩:∃ A B:Nat,A<t.bO.qs.length/\B<h/\i=A*h+B:=⟨i/h,i%h,wo (by omega) a⟩;have hN:t.bO.qs.length*h<=150:=by have:=aQ hq hH.2.2;omega
  have q1:((A*h+B:Nat):Int)/(h:Int)=(A:Int):=by rw[<-ay,l8 hB]
  have q2:((A*h+B:Nat):Int)%(h:Int)=(B:Int):=by rw[<-av,jT hB]
  have q3:(A*h+B)%h=B:=jT hB;have q4:(A*h+B)/h=A:=l8 hB;refine cN zE ?_;by_cases b:B=h-1
  .have wE:dV t d h (A*h+B+1)=dV t d h (A*h+B):=by rw[rK,q3,bS b,aG]
   refine cD zE (by show((d.ready+((A*h+B:Nat):Int)%(h:Int))==d.dead)=true;rw[q2,b];exact beq_iff_eq.2 (by omega)) (cH zE ⟨A*h+B+1,a⟩ (by show t.bO.qs.length*h-(A*h+B+1)<t.bO.qs.length*h-(A*h+B);omega) ?_);exact dD [] ⟨rfl,rfl,rfl,rfl,rfl,c6 a,bP⟩ ⟨bV,bV,df rfl (by rw[wE]) (λq hq j hj=>by rw[wE]),bP⟩
  have wE:dV t d h (A*h+B+1)=dV t d h (A*h+B)++[wX t d h (A*h+B)]:=by rw[rK,q3,bQ b]
  have q5:ab.wrap (d.ready+(B:Int)+1)=d.ready+((B+1:Nat):Int):=by rw[dG];omega
  refine b8 zE (by show((d.ready+((A*h+B:Nat):Int)%(h:Int))==d.dead)=false;rw[q2];exact jd (by omega)) (cN zE ?_);refine cD zE (by show kF d.ready h ((t.bO.qs.length*h:Nat):Int) [((A*h+B:Nat):Int)/(h:Int),d.ready+((A*h+B:Nat):Int)%(h:Int)]=true;rw[q1,q2];exact hin _ _ (by omega) (by omega)) (cD zE (by show kF d.ready h ((t.bO.qs.length*h:Nat):Int) [((A*h+B:Nat):Int)/(h:Int),ab.wrap (d.ready+((A*h+B:Nat):Int)%(h:Int)+1)]=true;rw[q1,q2,q5];exact hin _ _ (by omega) (by omega)) (cj zE ((Fw t d (kS ht) (t.bO.qs.length*h) (λi j=>bT (mB d.ready h i) j) A (d.ready+(B:Int)) (by omega)).le (db.cons (bY.refl _) (db.cons (bY.of (by show Go.Sy.A.agg [.int .i64 (((A*h+B:Nat):Int)/(h:Int)),.int .i64 (d.ready+((A*h+B:Nat):Int)%(h:Int))]=_;rw[q1,q2])) db.nil))) (bU zE (cw (by have:=uw t d h (A*h+B);show(((dV t d h (A*h+B)).map XA.dv).length+1)*(23+1+1)<=du;rw[aF];simp only[du];omega)) ?_)));have hcs:[Go.Sy.A.int .i64 (eR d.ready h [((A*h+B:Nat):Int)/(h:Int),d.ready+((A*h+B:Nat):Int)%(h:Int)]),.int .i64 (eR d.ready h [((A*h+B:Nat):Int)/(h:Int),ab.wrap (d.ready+((A*h+B:Nat):Int)%(h:Int)+1)]),.int .i64 (jm t d A (d.ready+(B:Int)))]=dR.cells (wX t d h (A*h+B)).dv:=by
   have e3:(wX t d h (A*h+B)).dv=⟨((A*h+B:Nat):Int),((A*h+B:Nat):Int)+1,jm t d A (d.ready+(B:Int))⟩:=by unfold wX sS;rw[q3,q4]
   rw[e3,q1,q2,q5,pH,pH];rfl
  refine cH zE ⟨A*h+B+1,a⟩ (by show t.bO.qs.length*h-(A*h+B+1)<t.bO.qs.length*h-(A*h+B);omega) ?_;exact dD [(150,293)] ⟨rfl,rfl,rfl,rfl,rfl,c6 a,bP⟩ ⟨bV,bV,df rfl (by rw[wE,aH];simp) (λq hq j hj=>by rw[wE,aH]at hq ⊢;exact gE (cells:=dR.cells) (x:=(wX t d h (A*h+B)).dv) hcs q (by simpa using hq) j hj),bP⟩
 have a:t.bO.qs.length*h=i:=by omega
 subst a;refine b8 zE eF (dt zE rfl zE ?_);refine eG zE t.bO.bW.length (λk=>[(0,.dA 136),(1,.ptr 135 0),(2,.ptr 139 0),(61,nv t.bO.bW),(62,.int .i64 t.bO.bW.length),(63,.int .i64 (k:Nat))]) (λk=>[(83,.box [.int .i64 ((t.bO.qs.length*h:Nat):Int),.own 150,.int .i64 (eR d.ready h [d.src,d.ready]),.int .i64 (eR d.ready h [d.dst,d.dead])]),(139,.box [.dA 136]),(150,pI (eA t d h k []))]) ?_ ?_
 .exact dD [] ⟨rfl,rfl,rfl,rfl,rfl,rfl,bP⟩ ⟨bV,bV,df rfl (by rw[wu]) (λq hq j hj=>by rw[wu]),bP⟩
 rintro⟨k,(hk:k<=t.bO.bW.length)⟩;by_cases a:k<t.bO.bW.length
 .refine cD zE (er (show k<t.bO.bW.length by omega)) (bU zE (cZ a) ?_);have cF:=Fu t.bO t.dg k a hb (by omega) (by omega) (by omega);refine cN zE ?_;refine bU zE (cZ a) (cN zE ?_);refine cj zE (cF) ?_;obtain⟨c,fG⟩:∃ c,c=t.bO.bW.getD k aj:=⟨_,rfl⟩;have gW:=jg.p.bW c (by rw[fG,cV a];exact aD _);have gx:(ec t.bO t.dg k).length<=1000:=by
   have:=Bp (t.bO.bW.getD k aj).stop (eO t.dg k) (t.bO.bW.getD k aj).start [];have h1:=ue t.dg k;unfold ec;simp only[List.length_nil]at this;omega
  have wv:=free_spec jg.b k;refine eG zE ((ec t.bO t.dg k).length) (λj=>[(0,.dA 246),(1,.ptr 244 0),(2,.ptr 245 0),(4,.ptr 251 0),(34,fM (ec t.bO t.dg k)),(35,.int .i64 (ec t.bO t.dg k).length),(36,.int .i64 (j:Nat))]) (λj=>[(83,.box [.int .i64 ((t.bO.qs.length*h:Nat):Int),.own 260,.int .i64 (eR d.ready h [d.src,d.ready]),.int .i64 (eR d.ready h [d.dst,d.dead])]),(150,.dead),(251,.box (t.bO.bW.getD k aj).cells),(260,pI (eA t d h k (eC t d k j 0)))]) ?_ ?_
  .refine(AJ 83 1 150 260 rfl rfl rfl rfl).gv.trans ?_;exact dD [] ⟨rfl,rfl,rfl,rfl,rfl,rfl,rfl,bP⟩ ⟨bV,rfl,bV,ee,bP⟩
  rintro⟨j,(hj:j<=(ec t.bO t.dg k).length)⟩;by_cases b:j<(ec t.bO t.dg k).length
  .obtain⟨x,hx⟩:∃ x,x=(ec t.bO t.dg k).getD j aj:=⟨_,rfl⟩;have hxs:=wv.all x (by rw[hx,cV b];exact aD _);refine cD zE (er (show j<(ec t.bO t.dg k).length by omega)) (bU zE (cZ b) (cN zE ?_));obtain⟨L,hL⟩:∃ L,L=l7 d x:=⟨_,rfl⟩;obtain⟨M,hM⟩:∃ M,M=(mz d c.c7 x-L).toNat:=⟨_,rfl⟩;have qq:d.ready<=L/\x.lo<=L/\(L=d.ready\/L=x.lo):=by rw[hL];unfold l7;split<;>omega
   have ny:∀ m:Nat,m<M↔L+(m:Int)<x.hi/\L+(m:Int)+1+c.c7<=d.dead:=by intro m;rw[hM];unfold mz;split<;>omega
   have FD:M<=25:=by rw[hM];unfold mz;have:=gW.c7;split<;>omega
   have vH:=gW.time;rw[<-fG]at hxs;have KP:=gW.c7;refine eG zE M (λm=>[(0,.dA 246),(1,.ptr 244 0),(2,.ptr 245 0),(4,.ptr 251 0),(8,.ptr 255 0),(9,.int .i64 (L+(m:Nat))),(34,fM (ec t.bO t.dg k)),(35,.int .i64 (ec t.bO t.dg k).length),(36,.int .i64 (j:Nat))]) (λm=>[(83,.box [.int .i64 ((t.bO.qs.length*h:Nat):Int),.own 260,.int .i64 (eR d.ready h [d.src,d.ready]),.int .i64 (eR d.ready h [d.dst,d.dead])]),(150,.dead),(251,.box c.cells),(255,.box x.cells),(260,pI (eA t d h k (eC t d k j m)))]) ?_ ?_
   .exact dD [] ⟨rfl,rfl,rfl,rfl,rfl,c9 rfl (by rw[hL,hx];exact(Int.add_zero _).symm),rfl,rfl,rfl,bP⟩ ⟨bV,rfl,⟨_,rfl,by rw[fG];exact oR _ _⟩,⟨_,rfl,by rw[hx];exact⟨_,_,rfl,rfl,_,_,rfl,rfl,rfl⟩⟩,ee,bP⟩
   rintro⟨m,(hm:m<=M)⟩;have w1:ab.wrap (L+(m:Int)+1)=L+((m+1:Nat):Int):=by rw[dG];omega
   have w2:ab.wrap (ab.wrap (L+(m:Int)+1)+c.c7)=L+(m:Int)+1+c.c7:=by rw[w1,dG];omega
   refine cN zE ?_;by_cases e:m<M
   .obtain⟨e1,e2⟩:=(ny m).1 e;refine cD zE (by show decide (L+(m:Int)<x.hi)=true;exact cw e1) (cD zE (by show decide (ab.wrap (ab.wrap (L+(m:Int)+1)+c.c7)<=d.dead)=true;rw[w2];exact cw e2) (cN zE ?_));have k1:0<=(t.bO.bW.getD k aj).fr/\(t.bO.bW.getD k aj).fr<(t.bO.qs.length:Int):=by rw[<-fG];exact gW.fr
    have k2:0<=(t.bO.bW.getD k aj).to/\(t.bO.bW.getD k aj).to<(t.bO.qs.length:Int):=by rw[<-fG];exact gW.to
    have w3:ab.wrap (ab.wrap (L+(m:Int)+1)+(t.bO.bW.getD k aj).c7)=L+(m:Int)+1+c.c7:=by rw[<-fG];exact w2
    refine cD zE (hin _ _ k1 (by show d.ready<=L+(m:Int)/\L+(m:Int)<=d.dead;omega)) (cD zE (hin _ _ k2 (by show d.ready<=ab.wrap (ab.wrap (L+(m:Int)+1)+(t.bO.bW.getD k aj).c7)/\ab.wrap (ab.wrap (L+(m:Int)+1)+(t.bO.bW.getD k aj).c7)<=d.dead;rw[w3];omega)) ?_);have hlen:=Fy jg (h:=h) (k:=k) (j:=j) (m:=m) (by omega) a hh;have oU:t.bO.qs.length*h<=150:=by have:=aQ hq hH.2.2;omega
    refine bU zE (cw (by show((eA t d h k (eC t d k j m)).length+1)*(23+1+1)<=du;simp only[du];omega)) ?_;have hcs:[Go.Sy.A.int .i64 (eR d.ready h [(t.bO.bW.getD k aj).fr,L+(m:Int)]),.int .i64 (eR d.ready h [(t.bO.bW.getD k aj).to,ab.wrap (ab.wrap (L+(m:Int)+1)+(t.bO.bW.getD k aj).c7)]),.int .i64 (t.bO.bW.getD k aj).gn]=dR.cells (cX t d h k (L+(m:Int))).dv:=by
     rw[w3,fG];rfl
    have hsn:eA t d h k (eC t d k j (m+1))=eA t d h k (eC t d k j m)++[(cX t d h k (L+(m:Int))).dv]:=by rw[Fz,<- hx,<- hL,FA]
    refine cH zE ⟨m+1,e⟩ (dp e) ?_;exact dD [(260,475)] ⟨rfl,rfl,rfl,rfl,rfl,c9 rfl w1,rfl,rfl,rfl,bP⟩ ⟨bV,rfl,bV,bV,df rfl (by rw[hsn,aC];rfl) (λq hq j hj=>by rw[hsn]at hq ⊢;exact gE (cells:=dR.cells) (x:=(cX t d h k (L+(m:Int))).dv) hcs q (by simpa using hq) j hj),bP⟩
   have e:M=m:=by omega
   subst e;have e3:=λq=>(ny M).2 q;have hsp:eA t d h k (eC t d k j M)=eA t d h k (eC t d k (j+1) 0):=by rw[BB b,<- hx,<- fG,<- hL,<- hM]
   by_cases e1:L+(M:Int)<x.hi
   .refine cD zE (by show decide (L+(M:Int)<x.hi)=true;exact cw e1) (b8 zE (by show decide (ab.wrap (ab.wrap (L+(M:Int)+1)+c.c7)<=d.dead)=false;rw[w2];exact dQ λq=>Nat.lt_irrefl _ (e3 ⟨e1,q⟩)) (dt zE rfl zE (cH zE ⟨j+1,b⟩ (dp b) ?_)));exact dD [] ⟨rfl,rfl,rfl,rfl,rfl,rfl,c6 b,bP⟩ ⟨bV,rfl,⟨_,rfl,by rw[fG];exact oR _ _⟩,df rfl (by rw[hsp]) (λq hq j hj=>by rw[hsp]),bP⟩
   refine b8 zE (by show decide (L+(M:Int)<x.hi)=false;exact dQ e1) (dt zE rfl zE (cH zE ⟨j+1,b⟩ (dp b) ?_));exact dD [] ⟨rfl,rfl,rfl,rfl,rfl,rfl,c6 b,bP⟩ ⟨bV,rfl,⟨_,rfl,by rw[fG];exact oR _ _⟩,df rfl (by rw[hsp]) (λq hq j hj=>by rw[hsp]),bP⟩
  have b:(ec t.bO t.dg k).length=j:=by omega
  subst b;refine b8 zE eF (dt zE rfl zE ?_);have iT:eA t d h k (eC t d k (ec t.bO t.dg k).length 0)=eA t d h (k+1) []:=by rw[Fx,FB]
  refine cH zE ⟨k+1,a⟩ (dp a) ?_;exact dD [(150,260)] ⟨rfl,rfl,rfl,rfl,rfl,c6 a,bP⟩ ⟨bV,bV,df rfl (by rw[iT]) (λq hq j hj=>by rw[iT]),bP⟩
 have a:t.bO.bW.length=k:=by omega
 subst a;exact b8 zE eF (dt zE rfl zE (cL zE rfl rfl (bY.refl _)))
theorem KQ{t:cE}(ok:fj t)(d:cA){a:Nat}(ha:a<t.bO.qs.length)(u:Int):0<=jm t d (a:Nat) u/\jm t d (a:Nat) u<=1099511627776:=by
 unfold jm;split
 .omega
 rw[A8];have h1:=A9 ok.p ok.h.all ok.h.fit ha u;have h2:=Bx (node:=(a:Int)) (t:=u) (l:=t.dw) λx hx=>(ok.h.all x hx).size;have h3:=ok.p.qs (t.bO.qs.getD a aj) (by rw[cV ha];exact aD _);have h4:t.bO.qs.getD (a:Int).toNat 0=t.bO.qs.getD a aj:=rfl;rw[h4];omega
theorem vW{t:cE}(ok:fj t){d:cA}{h:Nat}(h2:2<=h)(hv:d.dead=d.ready+(h:Int)-1):∀ a∈dq t d h,mh (t.bO.qs.length*h) a:=by
 intro a ha;obtain⟨y,hy,rfl⟩:=List.mem_map.1 ha;obtain⟨g1,g2,g3,g4,g5⟩:=alD ok h2 hv hy;refine⟨⟨g1,g2⟩,⟨g3,g4⟩,g5,?_⟩;rcases(Bu ok).1 hy with ⟨i,hi,hm,rfl⟩|⟨ct,u,hc,hu,rfl⟩
 .exact KQ ok d (UQ (by omega) hi hm).1 _
 have:=(ok.p.bW (t.bO.bW.getD ct aj) (by rw[cV hc];exact aD _)).gn;show 0<=(t.bO.bW.getD ct aj).gn/\(t.bO.bW.getD ct aj).gn<=1099511627776;omega
theorem JT{t:cE}(ok:fj t){d:cA}{h:Nat}(hq:t.bO.qs.length<=6)(h25:h<=25)(hh:d.dead-d.ready<=24):(dq t d h).length<=20000:=by
 have h1:=uw t d h (t.bO.qs.length*h);have h3:((aI t.bO.bW.length).flatMap (iz t d h)).length<=(aI t.bO.bW.length).length*24:=yD λx _=>by
  unfold iz;rw[aF];have:=Br ok d x;omega
 have h4:=ok.p.m;have h5:=aQ hq h25;rw[aK]at h3;rw[Bt];unfold dy;rw[aC];omega
def ji(t:cE)(d:cA)(h:Nat):Int:=AE (b9 (dq t d h)) (t.bO.qs.length*h) (d.src.toNat*h) (d.dst.toNat*h+(h-1))
def jU(t:cE)(d:cA)(h:Nat):List Int:=kv (dq t d h) (t.bO.qs.length*h) (d.src.toNat*h) (d.dst.toNat*h+(h-1))
theorem sJ{t:cE}(ok:fj t){d:cA}(hd:gB t.bO.qs.length d){h:Nat}(h2:2<=h)(hv:d.dead=d.ready+(h:Int)-1):d.src.toNat*h<t.bO.qs.length*h/\d.dst.toNat*h+(h-1)<t.bO.qs.length*h/\d.src.toNat*h≠d.dst.toNat*h+(h-1)/\iF (b9 (dq t d h)) (t.bO.qs.length*h) (d.src.toNat*h) (d.dst.toNat*h+(h-1)):=by
 have hs:=hd.src;have ht:=hd.dst;have hne:=hd.ne;have n1:=sU (h:=h) (a:=d.src.toNat) (b:=0) (N:=t.bO.qs.length) (by omega) (by omega);have n2:=sU (h:=h) (a:=d.dst.toNat) (b:=h-1) (N:=t.bO.qs.length) (by omega) (by omega);have n3:d.src.toNat*h≠d.dst.toNat*h+(h-1):=λe=>by
  have:=(ux (h:=h) (a:=d.src.toNat) (b:=0) (a':=d.dst.toNat) (b':=h-1) (by omega) (by omega)).1 (by omega);omega
 exact⟨by omega,n2,n3,Ay (vW ok h2 hv) (by omega) n2 n3⟩
theorem Vi(t:cE)(d:cA)(h:Nat)(ht:fW t=0)(hd:gB t.bO.qs.length d)(hq:t.bO.qs.length<=6)(hH:d.dead=d.ready+h-1/\2<=h/\h<=25):cJ ae 20 [.agg t.cells,.agg d.cells] (.cG [.agg (KO t d h),eD (jU t d h),.int .i64 (ji t d h),.int .i64 0],none):=by
 have ok:=kS ht;obtain⟨n1,n2,n3,n4⟩:=sJ ok hd hH.2.1 hH.1;have hN:=aQ hq hH.2.2;have cg:=ami t d h ht hd hq hH;have cm:=aia (t.bO.qs.length*h) (dq t d h) (d.src.toNat*h) (d.dst.toNat*h+(h-1)) (by omega) (JT ok hq hH.2.2 (by omega)) (vW ok hH.2.1 hH.1) n1 n2 n3;refine c8 CM Tryz.func20 rfl ?_;exact cj zE (cg) (b8 zE (rfl) (cj zE (cm) (b8 zE (rfl) (cL zE rfl rfl (bY.refl _)))))
theorem aj4(t:cE)(d:cA)(h:Nat)(ht:fW t=0)(hd:gB t.bO.qs.length d)(hq:t.bO.qs.length<=6)(hH:d.dead=d.ready+h-1/\2<=h/\h<=25):cJ ae 7 [.agg t.cells,.agg d.cells] (.cG [.int .i64 (ji t d h),.int .i64 0],none):=by
 have cm:=Vi t d h ht hd hq hH;refine c8 CM Tryz.func7 rfl ?_;exact cj zE (cm) (cL zE rfl rfl (bY.refl _))
theorem amj{t:cE}(ok:fj t){d:cA}(hd:gB t.bO.qs.length d){h:Nat}(h2:2<=h)(hv:d.dead=d.ready+(h:Int)-1){S:Nat->Bool}(hs:S (d.src.toNat*h)=true)(ht:S (d.dst.toNat*h+(h-1))=false):ji t d h<=cT (λa:dR=>if S a.fr.toNat=true/\S a.to.toNat=false then a.cap else 0) (dq t d h):=by
 obtain⟨n1,n2,n3,n4⟩:=sJ ok hd h2 hv;rw[<-US];refine alB n4 (λk hk=>?_) hs ht;exact(vW ok h2 hv _ (by rw[cV hk];exact aD _)).cap.1
end Go.Proofs.YtjhmdfofhnijeaaGreatDoor
