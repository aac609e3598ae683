import Derived.Test.YtjhmdfofhnijeaaGreatDoorH1
import Derived.WalkKit
import Derived.ProofKit
open Go.IntKind renaming i64->aa
open Go.Proofs renaming ltOf->ab
open Go.Proofs.Tryz renaming prog->ae, func90->af, func47->ai, func45->aj
open Go.Sort renaming SWO->ak
open Inhabited renaming default->al
open Int renaming natCast_nonneg->aq
open List renaming length_append->ar, length_set->au, length_map->av
open Nat renaming lt_one_iff->ay, le_refl->az
set_option linter.all false
namespace Go.Mb
open Go.Sy
structure ig where
 ct:Int
 tm:Int
instance:Inhabited ig:=⟨⟨0,0⟩⟩
def ig.cells(x:ig):List A:=[.int .i64 x.ct,.int .i64 x.tm]
def lT(a b:ig):Int:=mr [gK a.ct b.ct,gK a.tm b.tm]
theorem AP(a b:ig):ab lT a b=decide (a.ct<b.ct\/a.ct=b.ct/\a.tm<b.tm):=by
 unfold ab lT;rw[decide_eq_decide];simp only[AQ,vN,AR,x7];simp
theorem AU(a b:dE):ab kQ a b=decide (a.ct<b.ct\/a.ct=b.ct/\a.fr<b.fr):=by
 unfold ab kQ;rw[decide_eq_decide];simp only[AQ,vN,AR,x7];simp
theorem AV(a b:di):ab kz a b=decide (a.node<b.node\/a.node=b.node/\(a.fr<b.fr\/a.fr=b.fr/\(a.to<b.to\/a.to=b.to/\(a.tk<b.tk\/a.tk=b.tk/\a.size<b.size)))):=by
 unfold ab kz;rw[decide_eq_decide];simp only[AQ,vN,AR,x7];simp
theorem Je:ak (ab lT) where
 irrefl x:=by rw[AP];simp
 trans x y z h1 h2:=by rw[AP]at *;simp at *;omega
 ntrans x y z h1 h2:=by rw[AP]at *;simp at *;omega
theorem Jf:ak (ab kQ) where
 irrefl x:=by rw[AU];simp
 trans x y z h1 h2:=by rw[AU]at *;simp at *;omega
 ntrans x y z h1 h2:=by rw[AU]at *;simp at *;omega
theorem Jg:ak (ab kz) where
 irrefl x:=by rw[AV];simp
 trans x y z h1 h2:=by rw[AV,dN]at *;omega
 ntrans x y z h1 h2:=by rw[AV,gU]at *;omega
def EG(x:ig):List Value:=[.int .i64 x.ct,.int .i64 x.tm]
def x8(x:dE):List Value:=[.int .i64 x.ct,.int .i64 x.fr,.int .i64 x.to,.int .i64 x.tk]
def vO(x:di):List Value:=[.int .i64 x.node,.int .i64 x.fr,.int .i64 x.to,.int .i64 x.size,.int .i64 x.tk]
theorem SL:Go.Sy.sy EG 2 ig.cells where
 pos:=by omega
 len _:=rfl
 one x v hv:=by simp[EG]at hv;rcases hv with rfl|rfl<;>rfl
 cell x j hj w O u:=by
  match j,hj with
  |0,_=>simp[ig.cells,EG,Go.Sy.bT,Go.Sy.R,iP]
  |1,_=>simp[ig.cells,EG,Go.Sy.bT,Go.Sy.R,iP]
theorem SM:Go.Sy.sy x8 4 dE.cells where
 pos:=by omega
 len _:=rfl
 one x v hv:=by simp[x8]at hv;rcases hv with rfl|rfl|rfl|rfl<;>rfl
 cell x j hj w O u:=by
  match j,hj with
  |0,_=>simp[dE.cells,x8,Go.Sy.bT,Go.Sy.R,iP]
  |1,_=>simp[dE.cells,x8,Go.Sy.bT,Go.Sy.R,iP]
  |2,_=>simp[dE.cells,x8,Go.Sy.bT,Go.Sy.R,iP]
  |3,_=>simp[dE.cells,x8,Go.Sy.bT,Go.Sy.R,iP]
theorem SN:Go.Sy.sy vO 5 di.cells where
 pos:=by omega
 len _:=rfl
 one x v hv:=by simp[vO]at hv;rcases hv with rfl|rfl|rfl|rfl|rfl<;>rfl
 cell x j hj w O u:=by
  match j,hj with
  |0,_=>simp[di.cells,vO,Go.Sy.bT,Go.Sy.R,iP]
  |1,_=>simp[di.cells,vO,Go.Sy.bT,Go.Sy.R,iP]
  |2,_=>simp[di.cells,vO,Go.Sy.bT,Go.Sy.R,iP]
  |3,_=>simp[di.cells,vO,Go.Sy.bT,Go.Sy.R,iP]
  |4,_=>simp[di.cells,vO,Go.Sy.bT,Go.Sy.R,iP]
end Go.Mb
namespace Go.Proofs.YtjhmdfofhnijeaaGreatDoor
open Go.Sy Go.Mb Go.Shelf Go.RowKit Go.Lib Go.Sort
set_option maxRecDepth 100000
set_option maxHeartbeats 4000000
noncomputable def Ji:Cx:={ E:=EM,inl:=[],ok:=qf }
section
variable [fI]
theorem aiY(x y:ig):cJ ae 90 [.agg x.cells,.agg y.cells] (.int .i64 (lT x y),none):=by
 refine c8 Ji af rfl ?_;refine cN zE ?_;refine cj zE (mS _ _) (cj zE (mS _ _) (cj zE ((AW [gK x.ct y.ct,gK x.tm y.tm] (by simp)).le (db.cons (bY.sl rfl λi hi w hw=>?_) db.nil)) ?_))
 .obtain rfl:w=0:=ay.1 hw
  match i,hi with
  |0,_=>rfl
  |1,_=>rfl
 exact cL zE rfl rfl (bY.refl _)
theorem aiZ(x y:dE):cJ ae 45 [.agg x.cells,.agg y.cells] (.int .i64 (kQ x y),none):=by
 refine c8 Ji aj rfl ?_;refine cN zE ?_;refine cj zE (mS _ _) (cj zE (mS _ _) (cj zE ((AW [gK x.ct y.ct,gK x.fr y.fr] (by simp)).le (db.cons (bY.sl rfl λi hi w hw=>?_) db.nil)) ?_))
 .obtain rfl:w=0:=ay.1 hw
  match i,hi with
  |0,_=>rfl
  |1,_=>rfl
 exact cL zE rfl rfl (bY.refl _)
theorem ai0(x y:di):cJ ae 47 [.agg x.cells,.agg y.cells] (.int .i64 (kz x y),none):=by
 refine c8 Ji ai rfl ?_;refine cN zE ?_;refine cj zE (mS _ _) (cj zE (mS _ _) (cj zE (mS _ _) (cj zE (mS _ _) (cj zE (mS _ _) (cj zE ((AW [gK x.node y.node,gK x.fr y.fr,gK x.to y.to,gK x.tk y.tk,gK x.size y.size] (by simp)).le (db.cons (bY.sl rfl λi hi w hw=>?_) db.nil)) ?_)))))
 .obtain rfl:w=0:=ay.1 hw
  match i,hi with
  |0,_=>rfl
  |1,_=>rfl
  |2,_=>rfl
  |3,_=>rfl
  |4,_=>rfl
 exact cL zE rfl rfl (bY.refl _)
end
theorem ai1(zs:List ig)(hsz:zs.length<4611686018427387904):mq ae 89 [.own 0,.fn 90 []] (.row 215 2 zs.length (cO ig.cells zs)) (λob r=>(∃zs':List ig,zs'.Perm zs/\zs'.Pairwise (λa b=>ltOf lT b a=false)/\ob= .row 215 2 zs.length (cO ig.cells zs'))/\r= .cG []):=
 Ja Tryz.aiQ (by kernel_rfl) SL Tryz.isAgg215 Tryz.sizeOf215 lT Je 90 (enters_of af (by kernel_rfl) rfl) (Jd SL (λ_=>rfl) λx y=>@aiY x6 x y) zs _ hsz
theorem ai2(zs:List dE)(hsz:zs.length<4611686018427387904):mq ae 44 [.own 0,.fn 45 []] (.row 126 4 zs.length (cO dE.cells zs)) (λob r=>(∃zs':List dE,zs'.Perm zs/\zs'.Pairwise (λa b=>ltOf kQ b a=false)/\ob= .row 126 4 zs.length (cO dE.cells zs'))/\r= .cG []):=
 Ja Tryz.aiS (by kernel_rfl) SM Tryz.isAgg126 Tryz.sizeOf126 kQ Jf 45 (enters_of aj (by kernel_rfl) rfl) (Jd SM (λ_=>rfl) λx y=>@aiZ x6 x y) zs _ hsz
theorem ai3(zs:List di)(hsz:zs.length<4611686018427387904):mq ae 46 [.own 0,.fn 47 []] (.row 130 5 zs.length (cO di.cells zs)) (λob r=>(∃zs':List di,zs'.Perm zs/\zs'.Pairwise (λa b=>ltOf kz b a=false)/\ob= .row 130 5 zs.length (cO di.cells zs'))/\r= .cG []):=
 Ja Tryz.aiU (by kernel_rfl) SN Tryz.isAgg130 Tryz.sizeOf130 kz Jg 47 (enters_of ai (by kernel_rfl) rfl) (Jd SN (λ_=>rfl) λx y=>@ai0 x6 x y) zs _ hsz
end Go.Proofs.YtjhmdfofhnijeaaGreatDoor
namespace Go.Mb
open Go.Sy
def ka{α:Type}(cf:α->α->Int)(zs:List α):List α:=zs.mergeSort λa b=>!ab cf b a
theorem rq{α:Type}(cf:α->α->Int)(zs:List α):(ka cf zs).Perm zs:=List.mergeSort_perm _ _
theorem EH{α:Type}{cf:α->α->Int}(hO:ak (ab cf))(zs:List α):(ka cf zs).Pairwise λa b=>ab cf b a=false:=by
 have h:=List.pairwise_mergeSort (le:=λa b=>!ab cf b a) (λa b c h1 h2=>by
  simp only[Bool.not_eq_true']at h1 h2⊢;exact hO.ntrans c b a h2 h1) (λa b=>by
  cases h1:ab cf b a with
  |false=>rfl
  |true=>
   cases h2:ab cf a b with
   |false=>rfl
   |true=>
    have h3:=hO.trans a b a h2 h1;rw[hO.irrefl]at h3;cases h3) zs
 exact h.imp λ{a b} q=>by simpa using q
theorem Jj{α:Type}{cf:α->α->Int}(hO:ak (ab cf)){zs zs':List α}(hp:zs'.Perm zs)(hs:zs'.Pairwise λa b=>ab cf b a=false)(ha:∀ a b,a∈zs->b∈zs->ab cf b a=false->ab cf a b=false->a=b):zs'=ka cf zs:=
 List.Perm.eq_of_pairwise (λa b h1 h2 q1 q2=>ha a b (hp.mem_iff.1 h1) ((rq cf zs).mem_iff.1 h2) q1 q2) hs (EH hO zs) (hp.trans (rq cf zs).symm)
def jx(l:List dC):List ig:=l.map λx=>⟨x.ct,x.tm⟩
def nW(o:List dE)(x:ig):List dE:=if 0<o.length/\(o.getD (o.length-1) al).ct=x.ct/\(o.getD (o.length-1) al).to=x.tm then o.set (o.length-1) { o.getD (o.length-1) al with to:=(o.getD (o.length-1) al).to+1 }else o++[⟨x.ct,x.tm,x.tm+1,0⟩]
def jy(zs:List ig):List dE:=zs.foldl nW []
def iG(l:List dC):List dE:=jy (ka lT (jx l))
theorem Jk(zs:List ig)(x:ig):jy (zs++[x])=nW (jy zs) x:=by unfold jy;rw[List.foldl_append];rfl
theorem ai4(o:List dE)(x:ig):(nW o x).length<=o.length+1:=by
 unfold nW;split
 .rw[au];omega
 rw[ar];exact az _
theorem Jl(zs:List ig):∀ k,k<=zs.length->(jy (zs.take k)).length<=k
 |0,_=>by rw[List.take_zero];exact az _
 |k+1,h=>by
  have h1:=Jl zs k (by omega);have:zs.take (k+1)=zs.take k++[zs.getD k al]:=gg h;rw[this,Jk];have:=ai4 (jy (zs.take k)) (zs.getD k al);omega
end Go.Mb
namespace Go.Proofs.YtjhmdfofhnijeaaGreatDoor
open Go.Sy Go.Mb
set_option maxRecDepth 100000
set_option maxHeartbeats 4000000
def SO(l:List ig):Go.Sy.A:=.sl 2 l.length (cO ig.cells l)
noncomputable def SP:Env:={ P:=ae,lJ:=lK [],mu:=[89] }
theorem ai5:ib SP:=qf
noncomputable def CBk:Cx:={ E:=SP,inl:=[],ok:=ai5 }
def EI(l:List dC)(k i j:Nat):Go.Sy.A:=if i<k then cO ig.cells (jx l) i j else .int .i64 0
theorem ai6(l:List dC)(hl:l.length<=1600)(hb:∀ x∈l,0<=x.tm/\x.tm<=1099511627776):cJ ae 42 [kC l] (lU (iG l),none):=by
 have htl:(jx l).length=l.length:=by unfold jx;rw[av]
 refine c8 CBk Tryz.func42 rfl ?_;refine bU zE (cw (by show(0:Int)<=(l.length:Int)/\(l.length:Int)<=(l.length:Int)/\((l.length:Int)).toNat*(15+1+1)<=du;simp only[du];omega)) ?_;refine eG zE l.length (λk=>[(3,.own 12),(13,kC l),(14,.int .i64 l.length),(15,.int .i64 (k:Nat))]) (λk=>[(12,.row 215 2 l.length (EI l k))]) ?_ ?_
 .exact cB [] ⟨rfl,rfl,rfl,rfl,bP⟩ ⟨df rfl rfl (λq hq j hj=>by match j,hj with|0,_=>rfl|1,_=>rfl),bP⟩
 rintro⟨k,(hk:k<=l.length)⟩;by_cases a:k<l.length
 .refine cD zE (er (show k<l.length by omega)) (bU zE (cw ⟨aq k,by show(k:Int)<(l.length:Int);omega⟩) (bU zE (cw ⟨aq k,by show(k:Int)<(l.length:Int);omega⟩) (bU zE (cw a) (cH zE ⟨k+1,a⟩ (dp a) ?_))));refine cB [] ⟨rfl,rfl,rfl,c6 a,bP⟩ ⟨df rfl rfl (λq hq j hj=>?_),bP⟩;have hx:(jx l).getD k al=⟨(l.getD k al).ct,(l.getD k al).tm⟩:=by
   unfold jx;rw[cV (by rw[av];exact a),List.getElem_map,cV a]
  show(if q=k/\0<=j/\j<0+2 then bT [Go.Sy.A.int .i64 (l.getD k al).ct,.int .i64 (l.getD k al).tm] (j-0)else EI l k q j)=EI l (k+1) q j;unfold EI;by_cases e:q=k
  .rw[bS ⟨e,Nat.zero_le _,by omega⟩,bS (by omega),e];show _=bT (ig.cells ((jx l).getD k al)) j;rw[hx];rfl
  rw[bQ (λh=>e h.1)];by_cases e2:q<k
  .rw[bS e2,bS (by omega)]
  rw[bQ e2,bQ (by omega)]
 have a:l.length=k:=by omega
 subst a;refine b8 zE eF (dt zE rfl zE ?_);have c3:=ai1 (jx l) (by omega);rw[htl]at c3;refine zG zE (NS.mut 12 (Eq.refl _) rfl (mq.AX c3 λi hi j hj=>bS hi) rfl ?_);rintro ob r ⟨⟨zs,hp,hs,rfl⟩,rfl⟩;obtain rfl:=Jj Je hp hs λa b _ _ h1 h2=>by
  rw[AP,gU]at h1 h2;cases a;cases b;simp only[ig.mk.injEq]at*;omega
 have hzl:(ka lT (jx l)).length=l.length:=by rw[(rq lT (jx l)).length_eq,htl]
 obtain⟨zs,hzs⟩:∃ zs,zs=ka lT (jx l):=⟨_,rfl⟩;rw[<-hzs]at hzl;have hres:iG l=jy zs:=by rw[hzs];rfl
 rw[hres,<- hzs];refine Sat.goN 2 (Eq.refl _) (NS.stop ?_);refine Sat.wk (ED 3 12 rfl rfl) ?_;refine eG zE zs.length (λk=>[(6,.own 90),(31,SO zs),(32,.int .i64 zs.length),(33,.int .i64 (k:Nat))]) (λk=>[(90,.row 126 4 (jy (zs.take k)).length (cO dE.cells (jy (zs.take k))))]) ?_ ?_
 .refine(rj 6 90 126 4 (cO dE.cells []) rfl rfl).trans ((AY 31 (x:=SO zs) ?_).trans ?_)
  .exact bY.sl hzl.symm λi hi j hj=>rfl
  exact cB [] ⟨rfl,rfl,c9 rfl (by rw[hzl]),rfl,bP⟩ ⟨df rfl rfl (λq hq=>dP hq (Nat.not_lt_zero q)),bP⟩
 rintro⟨k,(hk:k<=zs.length)⟩;by_cases a:k<zs.length
 .obtain⟨x,hx⟩:∃ x,x=zs.getD k al:=⟨_,rfl⟩;obtain⟨o,ho⟩:∃ o,o=jy (zs.take k):=⟨_,rfl⟩;have hsn:jy (zs.take (k+1))=nW o x:=by rw[gg a,Jk,<- ho,hx]
  have hxb:0<=x.tm/\x.tm<=1099511627776:=by
   have h1:x∈ka lT (jx l):=by rw[<-hzs,hx,cV a];exact List.getElem_mem _
   obtain⟨y,hy,rfl⟩:=List.mem_map.1 ((rq _ _).mem_iff.1 h1);exact hb y hy
  have AZ:o.length<=k:=by rw[ho];exact Jl zs k hk
  rw[<-ho];refine cD zE (er (show k<zs.length by omega)) (bU zE (cw ⟨aq k,by show(k:Int)<(zs.length:Int);omega⟩) (cN zE ?_));by_cases c1:0<o.length
  .obtain⟨y,hy⟩:∃ y,y=o.getD (o.length-1) al:=⟨_,rfl⟩;have w1:aa.wrap ((o.length:Int)-1)=((o.length-1:Nat):Int):=by rw[dG];omega
   refine cD zE (by show decide ((o.length:Int)>0)=true;exact cw (by omega)) (bU zE (cw (by show 0<=aa.wrap ((o.length:Int)-1)/\aa.wrap ((o.length:Int)-1)<(o.length:Int);rw[w1];omega)) (bU zE (cw (by show(aa.wrap ((o.length:Int)-1)).toNat<o.length;rw[w1];omega)) ?_));have w2:(aa.wrap ((o.length:Int)-1)).toNat=o.length-1:=by rw[w1,Int.toNat_natCast]
   by_cases c2:y.ct=x.ct
   .refine cD zE (by show((o.getD (aa.wrap ((o.length:Int)-1)).toNat al).ct==(zs.getD k al).ct)=true;rw[w2,<- hy,<- hx];exact beq_iff_eq.2 c2) (bU zE (cw (by show 0<=aa.wrap ((o.length:Int)-1)/\aa.wrap ((o.length:Int)-1)<(o.length:Int);rw[w1];omega)) (bU zE (cw (by show(aa.wrap ((o.length:Int)-1)).toNat<o.length;rw[w1];omega)) ?_));by_cases c3:y.to=x.tm
    .refine cD zE (by show((o.getD (aa.wrap ((o.length:Int)-1)).toNat al).to==(zs.getD k al).tm)=true;rw[w2,<- hy,<- hx];exact beq_iff_eq.2 c3) ?_;have e:nW o x=o.set (o.length-1) { y with to:=y.to+1 }:=by unfold nW;rw[bS ⟨c1,by rw[<-hy];exact c2,by rw[<-hy];exact c3⟩,<- hy]
     refine bU zE (cw (by show 0<=aa.wrap ((o.length:Int)-1)/\aa.wrap ((o.length:Int)-1)<(o.length:Int);rw[w1];omega)) (bU zE (cw (by show(aa.wrap ((o.length:Int)-1)).toNat<o.length;rw[w1];omega)) (bU zE (cw (by show 0<=aa.wrap ((o.length:Int)-1)/\aa.wrap ((o.length:Int)-1)<(o.length:Int);rw[w1];omega)) (bU zE (cw (by show(aa.wrap ((o.length:Int)-1)).toNat<o.length;rw[w1];omega)) (cH zE ⟨k+1,a⟩ (dp a) ?_))));refine cB [] ⟨rfl,rfl,rfl,c6 a,bP⟩ ⟨df rfl (by show o.length=(jy (zs.take (k+1))).length;rw[hsn,e,au]) (λq hq j hj=>?_),bP⟩;show(if q=(aa.wrap ((o.length:Int)-1)).toNat/\2<=j/\j<2+1 then bT [Go.Sy.A.int .i64 (aa.wrap ((o.getD (aa.wrap ((o.length:Int)-1)).toNat al).to+1))] (j-2)else cO dE.cells o q j)=cO dE.cells (jy (zs.take (k+1))) q j;rw[hsn,e];show _=bT (dE.cells ((o.set (o.length-1) { y with to:=y.to+1 }).getD q al)) j;rw[x9 _ _ _ _ (by omega)];by_cases g:q=o.length-1
     .rw[bS g]
      match j,hj with
      |0,_=>rw[bQ (by omega),g];show bT (dE.cells (o.getD (o.length-1) al)) 0=_;rw[<-hy];rfl
      |1,_=>rw[bQ (by omega),g];show bT (dE.cells (o.getD (o.length-1) al)) 1=_;rw[<-hy];rfl
      |2,_=>rw[bS ⟨g.trans w2.symm,az _,by omega⟩,w2,<- hy];show Go.Sy.A.int .i64 (aa.wrap (y.to+1))= .int .i64 (y.to+1);rw[dG]
      |3,_=>rw[bQ (by omega),g];show bT (dE.cells (o.getD (o.length-1) al)) 3=_;rw[<-hy];rfl
     rw[bQ (λh=>g (h.1.trans w2)),bQ g];rfl
    have e:nW o x=o++[⟨x.ct,x.tm,x.tm+1,0⟩]:=by unfold nW;rw[bQ (λq=>c3 (by rw[hy];exact q.2.2))]
    refine b8 zE (by show((o.getD (aa.wrap ((o.length:Int)-1)).toNat al).to==(zs.getD k al).tm)=false;rw[w2,<- hy,<- hx];exact jd c3) (bU zE (cw (by show(o.length+1)*(31+1+1)<=du;simp only[du];omega)) (cH zE ⟨k+1,a⟩ (dp a) ?_));refine cB [(90,82)] ⟨rfl,rfl,rfl,c6 a,bP⟩ ⟨df rfl (by show o.length+1=(jy (zs.take (k+1))).length;rw[hsn,e,ar];rfl) (λq hq j hj=>?_),bP⟩;show(if q<o.length then cO dE.cells o q j else bT [Go.Sy.A.int .i64 (zs.getD k al).ct,.int .i64 (zs.getD k al).tm,.int .i64 (aa.wrap ((zs.getD k al).tm+1)),.int .i64 0] ((q-o.length)*4+j))=cO dE.cells (jy (zs.take (k+1))) q j;have hq:q<(jy (zs.take (k+1))).length:=hq;rw[hsn,e,ar]at hq;rw[hsn,e,<- hx,dG];exact gE (cells:=dE.cells) (c:=4) (l:=o) (x:=⟨x.ct,x.tm,x.tm+1,0⟩) rfl q hq j hj
   have e:nW o x=o++[⟨x.ct,x.tm,x.tm+1,0⟩]:=by unfold nW;rw[bQ (λq=>c2 (by rw[hy];exact q.2.1))]
   refine b8 zE (by show((o.getD (aa.wrap ((o.length:Int)-1)).toNat al).ct==(zs.getD k al).ct)=false;rw[w2,<- hy,<- hx];exact jd c2) (bU zE (cw (by show(o.length+1)*(31+1+1)<=du;simp only[du];omega)) (cH zE ⟨k+1,a⟩ (dp a) ?_));refine cB [(90,82)] ⟨rfl,rfl,rfl,c6 a,bP⟩ ⟨df rfl (by show o.length+1=(jy (zs.take (k+1))).length;rw[hsn,e,ar];rfl) (λq hq j hj=>?_),bP⟩;show(if q<o.length then cO dE.cells o q j else bT [Go.Sy.A.int .i64 (zs.getD k al).ct,.int .i64 (zs.getD k al).tm,.int .i64 (aa.wrap ((zs.getD k al).tm+1)),.int .i64 0] ((q-o.length)*4+j))=cO dE.cells (jy (zs.take (k+1))) q j;have hq:q<(jy (zs.take (k+1))).length:=hq;rw[hsn,e,ar]at hq;rw[hsn,e,<- hx,dG];exact gE (cells:=dE.cells) (c:=4) (l:=o) (x:=⟨x.ct,x.tm,x.tm+1,0⟩) rfl q hq j hj
  have e:nW o x=o++[⟨x.ct,x.tm,x.tm+1,0⟩]:=by unfold nW;rw[bQ (λq=>c1 q.1)]
  refine b8 zE (by show decide ((o.length:Int)>0)=false;exact dQ (by omega)) (bU zE (cw (by show(o.length+1)*(31+1+1)<=du;simp only[du];omega)) (cH zE ⟨k+1,a⟩ (dp a) ?_));refine cB [(90,82)] ⟨rfl,rfl,rfl,c6 a,bP⟩ ⟨df rfl (by show o.length+1=(jy (zs.take (k+1))).length;rw[hsn,e,ar];rfl) (λq hq j hj=>?_),bP⟩;show(if q<o.length then cO dE.cells o q j else bT [Go.Sy.A.int .i64 (zs.getD k al).ct,.int .i64 (zs.getD k al).tm,.int .i64 (aa.wrap ((zs.getD k al).tm+1)),.int .i64 0] ((q-o.length)*4+j))=cO dE.cells (jy (zs.take (k+1))) q j;have hq:q<(jy (zs.take (k+1))).length:=hq;rw[hsn,e,ar]at hq;rw[hsn,e,<- hx,dG];exact gE (cells:=dE.cells) (c:=4) (l:=o) (x:=⟨x.ct,x.tm,x.tm+1,0⟩) rfl q hq j hj
 have a:zs.length=k:=by omega
 subst a;exact b8 zE eF (dt zE rfl zE (cL zE rfl rfl (by rw[List.take_length];exact bY.refl _)))
end Go.Proofs.YtjhmdfofhnijeaaGreatDoor
