import Derived.Test.YtjhmdfofhnijeaaGreatDoorR1
import Derived.Test.YtjhmdfofhnijeaaGreatDoorU1
open Bool renaming and_eq_true->aa, true_and->ab, eq_iff_iff->ae, false_and->af, not_eq_false->ai, or_false->aj, not_eq_true->ak, or_eq_true->al, and_eq_false_iff->aq, not_eq_true'->ar, eq_false_iff->au
open Go.IntKind renaming i64->av
open Go.Proofs.Tryz renaming prog->ay, underlying91->az, underlying3->aA, func255->aB, func13->aC
open Go.Sy.NS renaming ret->aD, loop->aF, gu->aG
open Inhabited renaming default->aH
open Int renaming add_zero->aI, toNat_of_nonneg->aJ, toNat_natCast->aK, natCast_nonneg->aL, le_refl->aM, natCast_emod->aN, natCast_ediv->aO, le_trans->aP, natCast_mul->aQ, natCast_add->aR, sub_self->aS, le_of_lt->aT, not_lt->aU
open List renaming getElem_mem->aV, length_append->aW, mem_singleton->aX, mem_cons_self->aY, mem_range->aZ, mem_cons_of_mem->a6, append_nil->a7, range->a8, length_singleton->ba, mem_append->bc, length_map->bd, length_range->bg, map_append->bh, length_take->bj, take_length->bk, mem_map->bl, getElem_of_mem->bn, append_assoc->bp, pairwise_iff_getElem->bq, all_eq_true->br, flatMap_append->bu, pairwise_lt_range->bw, length_pos_iff->bx, mem_cons->bz, mem_flatMap->bA, length_cons->bB, length_filter_le->bD, any_append->bE, mem_append_left->bF, take_zero->bG, pairwise_cons->bH, getElem_take->bI, any_eq_false->bJ, all_eq_false->bK, map_nil->bL, range_succ->bM, length_nil->AI, getElem_append_right->AS, getElem_append_left->AT, any_cons->By, flatMap_singleton->BY, pairwise_flatMap->IN, getD->IS, any_nil->IT, dropLast_subset->No, pairwise_map->OF, flatMap_def->abi, any_eq_true->acK, nodup_cons->adv, mem_filter->anc, length_set->api, range_add->arc
open Nat renaming mul_le_mul->ar0, le_refl->ar1, zero_lt_one->ar2, not_lt_zero->ar3, zero_le->ar4, div_lt_iff_lt_mul->ar5, div_add_mod->ar6, lt_irrefl->ar7, add_zero->ar8, mod_lt->ar9, add_sub_cancel->asa, lt_one_iff->asb, zero_mul->asc, zero_add->asd, mul_comm->ase, mul_mod_left->asf, mod_eq_of_lt->asg, lt_succ_self->ash, div_eq_of_lt->asi, mul_add_div->asj, succ_mul->asl, le_trans->asm, one_pos->asn
set_option linter.all false
namespace Go.Proofs.YtjhmdfofhnijeaaGreatDoor
open Go.Sy Go.Mb
set_option maxRecDepth 100000
set_option maxHeartbeats 4000000
theorem apE(w:World)(em:Bool)(q:List Int)(hq:q.length=2):(Instr.checkKey em 10000 91 (ep true q)).run ay w= .ok () w:=by
 match q,hq with
 |[a,b],_=>
  rw[show(10000:Nat)=9998+1+1 from rfl];unfold Instr.checkKey;simp only[ep,Sem.run_bind,run_underlying az,Result.andThen_ok];have p0:=yb aA w #[Value.int .i64 a,Value.int .i64 b] 0 _ rfl;have p1:=yb aA w #[Value.int .i64 a,Value.int .i64 b] 1 _ rfl;simp[p0,p1,Jm aA w em 9998]
def N5:List (TypeId×List Go.Sy.CK):=[(91,[.i .i64,.i .i64])]
theorem YI:tS ay N5:=by
 intro p hp;simp only[N5,bz,List.not_mem_nil,or_false]at hp;rcases hp with rfl;exact⟨by kernel_rfl,by kernel_rfl,by rw[az];trivial⟩
theorem apF:xm ay [(86,true,2)]:=by
 intro p hp;obtain rfl:=aX.1 hp;exact⟨91,4,by kernel_rfl,Jo YI rfl ⟨_,az⟩ apE⟩
noncomputable def YJ:Env:={ P:=ay,lJ:=lK N5,nO:=tT [(86,true,2)] }
theorem apG:ib YJ:=zI YI apF
noncomputable def CSl:Cx:={ E:=YJ,inl:=[],ok:=apG }
def p7(f:Nat->Int):Nat->Int
 |0=>f 0
 |n+1=>if f (n+1)<p7 f n then f (n+1)else p7 f n
theorem JH(f:Nat->Int):∀ n,0<=p7 f n↔ ∀i,i<=n->0<=f i
 |0=>⟨λh i hi=>by rw[show i=0 by omega];exact h,λh=>h 0 (ar1 _)⟩
 |n+1=>by
  have ih:=JH f n;simp only[p7];constructor
  .intro h i hi;by_cases e:i=n+1
   .subst e;split at h<;>omega
   exact(ih.1 (by split at h<;>omega)) i (by omega)
  intro h;have h1:=ih.2 λi hi=>h i (by omega);have h2:=h (n+1) (ar1 _);split<;>omega
theorem apH(f:Nat->Int)(n:Nat)(hn:n<=1000000):cJ ay 25 [.sl 1 (n+1) (λb _=>.int .i64 (f b))] (.int .i64 (p7 f n),none):=by
 refine c8 CM Tryz.func25 rfl ?_;refine b8 zE (by show decide (((n+1:Nat):Int)<1)=false;exact dQ (by omega)) (bU zE (cw (by show 0<=(0:Int)/\(0:Int)<((n+1:Nat):Int);omega)) ?_);refine eG zE n (λk=>[(0,.sl 1 (n+1) (λb _=>.int .i64 (f b))),(3,.int .i64 (p7 f k)),(4,.int .i64 ((k+1:Nat):Int))]) (λ_=>[]) ?_ ?_
 .exact cB [] ⟨rfl,rfl,rfl,bP⟩ trivial
 rintro⟨k,(hk:k<=n)⟩;by_cases a:k<n
 .refine cD zE (er (show(k+1:Nat)<(n+1:Nat) by omega)) (bU zE (cw (by show 0<=((k+1:Nat):Int)/\((k+1:Nat):Int)<((n+1:Nat):Int);omega)) (cH zE ⟨k+1,a⟩ (dp a) ?_));exact cB [] ⟨rfl,c9 rfl rfl,c9 rfl (je (k:=k+1) (n:=n+1) (by omega) (by omega)),bP⟩ trivial
 have a:n=k:=by omega
 subst a;exact b8 zE eF (dt zE rfl zE (cL zE rfl rfl (bY.refl _)))
theorem YK(d:cA)(node:Int):cJ ay 24 [.int .i64 node,.ip 5 (bT d.cells)] (.bool (node !=d.src&&node !=d.dst),none):=by
 refine c8 CM Tryz.func24 rfl ?_
 repeat' (first|(refine cK zE (λh=>?_) (λh=>?_))|(refine cN zE ?_)|(exact cL zE rfl rfl (fk ((by simp only[*,ab,af])))))
def o8(t:cE)(d:cA):List dC->List dC->Int
 |_,[]=>0
 |m,x::l=>if nL t d x≠0 then nL t d x else if m.any (λy=>y.ct==x.ct&&y.tm==x.tm)=true then 14 else o8 t d (m++[x]) l
theorem apI{t:cE}{d:cA}{l:List dC}{k:Nat}(h:k<l.length):o8 t d (l.take k) (l.drop k)=if nL t d (l.getD k aH)≠0 then nL t d (l.getD k aH)else if(l.take k).any (λy=>y.ct==(l.getD k aH).ct&&y.tm==(l.getD k aH).tm)=true then 14 else o8 t d (l.take (k+1)) (l.drop (k+1)):=by
 rw[drop_cons h,o8,gg h]
theorem JG{t:cE}{d:cA}:∀ {l m:List dC},o8 t d m l=0->(∀x∈l,jA t d x)/\l.Pairwise lV/\ ∀y∈m,∀ x∈l,lV y x
 |[],m,_=>⟨(λx hx=>by cases hx),List.Pairwise.nil,λy _ x hx=>by cases hx⟩
 |x::l,m,h=>by
  unfold o8 at h;split at h
  .rename_i h1;exact(h1 h).elim
  rename_i h1;split at h
  .cases h
  rename_i h2;have h1:nL t d x=0:=by omega
  have h2:∀ y∈m,lV y x:=by
   intro y hy e;refine h2 (acK.2 ⟨y,hy,?_⟩);rw[aa,gH,gH];exact e
  obtain⟨g1,g2,g3⟩:=JG h;refine⟨λy hy=>?_,bH.2 ⟨λy hy=>g3 x (by simp) y hy,g2⟩,λy hy z hz=>?_⟩
  .rcases bz.1 hy with rfl|hy
   .exact YE.1 h1
   exact g1 y hy
  rcases bz.1 hz with rfl|hz
  .exact h2 y hy
  exact g3 y (bF _ hy) z hz
def mV(d:cA)(node:Int):Bool:=node !=d.src&&node !=d.dst
def pt(t:cE)(d:cA)(h:Nat)(l:List dC)(a:Nat):Bool:=decide (0<=p7 (λb=>stM t d l a b) (h-1))&& !(mV d a&&stM t d l a ((h-1:Nat):Int)!=0)
def qw(t:cE)(d:cA)(l:List dC)(a b:Nat):Bool:=!(mV d a&&decide (stM t d l a b>lC t a (d.ready+(b:Int))))
def rA(t:cE)(d:cA)(h:Nat)(l:List dC):Int×Int:=
 if o8 t d [] l≠0 then(0,o8 t d [] l)
 else if(a8 t.bO.qs.length).all (pt t d h l)=false then(0,24)
 else if((a8 t.bO.qs.length).all λa=>(a8 (h-1)).all (qw t d l a))=false then(0,15)
 else(stM t d l d.dst ((h-1:Nat):Int),0)
theorem SV{m:List dC}{x:dC}{q:List Int}(hq:q.length=2):eu (λq=>m.any λy=>y.ct==q.headD 0&&y.tm==q.getD 1 0) (λ_=>Go.Sy.A.kb true) [([x.ct,x.tm],some (.kb true))] q=eu (λq=>(m++[x]).any λy=>y.ct==q.headD 0&&y.tm==q.getD 1 0) (λ_=>Go.Sy.A.kb true) [] q:=by
 match q,hq with
 |[a,b],_=>
  by_cases e:[a,b]=[x.ct,x.tm]
  .have h1:kE [a,b] [x.ct,x.tm]=true:=yw.2 e;simp only[List.cons.injEq,pz]at e;have h2:((m++[x]).any λy=>y.ct==([a,b]:List Int).headD 0&&y.tm==([a,b]:List Int).getD 1 0)=true:=by
    rw[bE,al];refine .inr ?_;simp[e.1,e.2]
   simp only[eu,h1,h2]
  have h1:kE [a,b] [x.ct,x.tm]=false:=Bo e;have h2:((m++[x]).any λy=>y.ct==([a,b]:List Int).headD 0&&y.tm==([a,b]:List Int).getD 1 0)=m.any λy=>y.ct==([a,b]:List Int).headD 0&&y.tm==([a,b]:List Int).getD 1 0:=by
   rw[bE];have:([x].any λy=>y.ct==([a,b]:List Int).headD 0&&y.tm==([a,b]:List Int).getD 1 0)=false:=by
    simp only[By,IT,aj];by_cases e1:x.ct=a
    .have e2:x.tm≠b:=λe2=>e (by rw[e1,e2]);show(x.ct==a&&x.tm==b)=false;rw[show(x.tm==b)=false from jd e2,Bool.and_false]
    show(x.ct==a&&x.tm==b)=false;rw[show(x.ct==a)=false from jd e1,af]
   rw[this,aj]
  simp only[eu,h1,h2]
def yc(m:List dC)(q:List Int):Bool:=m.any λy=>y.ct==q.headD 0&&y.tm==q.getD 1 0
theorem apJ(t:cE)(d:cA)(h:Nat)(l:List dC)(ht:fW t=0)(hd:gB t.bO.qs.length d)(hH:d.dead=d.ready+h-1/\2<=h/\h<=25)(hlen:l.length<=1600):cJ ay 8 [.agg t.cells,.agg d.cells,kC l] (.cG [.int .i64 (rA t d h l).1,.int .i64 (rA t d h l).2],none):=by
 have ok:=kS ht;have hN:=ok.p.n2;have mO:=hd.ready;have hrd:=hd.dead;obtain⟨R,hR⟩:∃ R,R=rA t d h l:=⟨_,rfl⟩;rw[<-hR];unfold rA at hR;have cc:=Vf t d ht hd;refine c8 CSl Tryz.func8 rfl ?_;refine cj zE (cc) (b8 zE (rfl) ?_);refine zG zE ?_;refine aF (σ:={ k:Nat // k<=l.length/\o8 t d (l.take k) (l.drop k)=o8 t d [] l }) (λk=>[(2,kC l),(3,.ptr 3 0),(4,.ptr 4 0),(9,.dA 29),(30,kC l),(31,.int .i64 l.length),(32,.int .i64 (k.1:Nat))]) (λk=>[(3,.box t.cells),(4,.box d.cells),(29,.mp 86 true 2 true [] (yc (l.take k.1)) (λ_=>.kb true))]) (λk=>l.length-k.1) ⟨0,ar4 _,rfl⟩ ?_ ?_
 .exact cB [] ⟨rfl,rfl,rfl,rfl,rfl,rfl,rfl,bP⟩ ⟨bV,bV,⟨_,_,_,rfl,rfl,λq hq=>rfl⟩,bP⟩
 rintro⟨k,(hk:k<=l.length),hc⟩;by_cases a:k<l.length
 .rw[apI a]at hc;refine cD zE (er (show k<l.length by omega)) (bU zE (cZ a) (cj zE (apB t d (l.getD k aH) ok) (cK zE (λb=>?_) (λb=>?_))))
  .have b:nL t d (l.getD k aH)≠0:=bne_iff_ne.1 (show(nL t d (l.getD k aH)!=0)=true from b);rw[bS b]at hc;rw[<-hc,bS b]at hR;exact zG zE (aG rfl zE (aD rfl rfl (bY.of (by rw[hR]))))
  have b:¬ nL t d (l.getD k aH)≠0:=by rw[<-mX (b:=(0:Int))];rw[show(nL t d (l.getD k aH)!=0)=false from b];decide
  rw[bQ b]at hc;refine cK zE (λc=>?_) (λc=>?_)
  .have c:(l.take k).any (λy=>y.ct==(l.getD k aH).ct&&y.tm==(l.getD k aH).tm)=true:=c;rw[bS c]at hc;rw[<-hc,bS (by decide)]at hR;exact zG zE (aG rfl zE (aD rfl rfl (bY.of (by rw[hR]))))
  have c:(l.take k).any (λy=>y.ct==(l.getD k aH).ct&&y.tm==(l.getD k aH).tm)=false:=c;rw[bQ (by rw[c];decide)]at hc;refine cH zE ⟨k+1,a,hc⟩ (dp a) ?_;exact cB [] ⟨rfl,rfl,rfl,rfl,rfl,rfl,c6 a,bP⟩ ⟨bV,bV,⟨_,_,_,rfl,rfl,λq hq=>by show _=eu (yc (l.take (k+1))) _ _ q;rw[gg a];exact SV hq⟩,bP⟩
 have a:l.length=k:=by omega
 subst a;rw[List.drop_length,o8]at hc;rw[bQ (by rw[<-hc];decide)]at hR;obtain⟨g1,g2,_⟩:=JG (t:=t) (d:=d) (l:=l) (m:=[]) hc.symm;have wH:av.wrap (d.dead-d.ready)=((h-1:Nat):Int):=by rw[dG];omega
 refine b8 zE eF (dt zE rfl zE (cj zE (apD t d h l ok hd hH g1 hlen) ?_));obtain⟨T,hT⟩:∃ T:Go.Sy.A,T= .sl 1 t.bO.qs.length (λa _=>.sl 1 h (λb _=>.int .i64 (stM t d l a b))):=⟨_,rfl⟩;refine zG zE ?_;refine aF (σ:={ i:Nat // i<=t.bO.qs.length/\ ∀j,j<i->pt t d h l j=true }) (λi=>[(3,.ptr 3 0),(4,.ptr 4 0),(14,.sl 1 t.bO.qs.length (λa _=>.sl 1 h (λb _=>.int .i64 (stM t d l a b)))),(15,.int .i64 ((h-1:Nat):Int)),(16,.fn 24 [.ptr 4 0]),(64,.sl 1 t.bO.qs.length (λa _=>.sl 1 h (λb _=>.int .i64 (stM t d l a b)))),(65,.int .i64 t.bO.qs.length),(66,.int .i64 (i.1:Nat))]) (λ_=>[(3,.box t.cells),(4,.box d.cells)]) (λi=>t.bO.qs.length-i.1) ⟨0,ar4 _,λj hj=>dP hj (ar3 j)⟩ ?_ ?_
 .exact cB [] ⟨rfl,rfl,rfl,c9 rfl wH,rfl,rfl,rfl,rfl,bP⟩ ⟨bV,bV,bP⟩
 rintro⟨i,(hi:i<=t.bO.qs.length),hok⟩;by_cases a:i<t.bO.qs.length
 .refine cD zE (er (show i<t.bO.qs.length by omega)) (bU zE (cZ a) (cj zE ((apH (λb=>stM t d l i b) (h-1) (by omega)).le (db.cons (bY.sl (show h=h-1+1 by omega) (λq hq j hj=>rfl)) db.nil)) ?_));have fail:pt t d h l i=false->R=(0,24):=λe=>by
   rw[hR,bS];exact bK.2 ⟨i,aZ.2 a,by rw[e];decide⟩
  refine cK zE (λb=>?_) (λb=>?_)
  .have b:p7 (λb=>stM t d l i b) (h-1)<0:=fv (show decide (p7 (λb=>stM t d l i b) (h-1)<0)=true from b);have hf:=fail (by unfold pt;rw[dQ (by omega)];rfl);exact zG zE (aG rfl zE (aD rfl rfl (bY.of (by rw[hf]))))
  have b:¬ p7 (λb=>stM t d l i b) (h-1)<0:=eY (show decide (p7 (λb=>stM t d l i b) (h-1)<0)=false from b);have hmin:decide (0<=p7 (λb=>stM t d l i b) (h-1))=true:=cw (by omega);refine cj zE (YK d i) ?_;have YL:pt t d h l i=true-> ∀j,j<i+1->pt t d h l j=true:=λe j hj=>by
   by_cases e1:j<i
   .exact hok j e1
   rw[show j=i by omega];exact e
  refine cK zE (λc=>?_) (λc=>?_)
  .have c:mV d i=true:=c;refine bU zE (cw (by show 0<=((h-1:Nat):Int)/\((h-1:Nat):Int)<(h:Int);omega)) (cK zE (λe=>?_) (λe=>?_))
   .have e:(stM t d l i ((h-1:Nat):Int)!=0)=true:=e;have hf:=fail (by unfold pt;rw[hmin,c,e];rfl);exact zG zE (aG rfl zE (aD rfl rfl (bY.of (by rw[hf]))))
   have e:(stM t d l i ((h-1:Nat):Int)!=0)=false:=e;refine cH zE ⟨i+1,a,YL (by unfold pt;rw[hmin,c,e];rfl)⟩ (dp a) ?_;exact cB [] ⟨rfl,rfl,rfl,rfl,rfl,rfl,rfl,c6 a,bP⟩ ⟨bV,bV,bP⟩
  have c:mV d i=false:=c;refine cH zE ⟨i+1,a,YL (by unfold pt;rw[hmin,c];rfl)⟩ (dp a) ?_;exact cB [] ⟨rfl,rfl,rfl,rfl,rfl,rfl,rfl,c6 a,bP⟩ ⟨bV,bV,bP⟩
 have a:t.bO.qs.length=i:=by omega
 subst a;rw[bQ (by rw[ai];exact br.2 λj hj=>hok j (aZ.1 hj))]at hR;refine b8 zE eF (dt zE rfl zE ?_);refine zG zE ?_;refine aF (σ:={ i:Nat // i<=t.bO.qs.length/\ ∀j,j<i->(a8 (h-1)).all (qw t d l j)=true }) (λi=>[(3,.ptr 3 0),(4,.ptr 4 0),(14,.sl 1 t.bO.qs.length (λa _=>.sl 1 h (λb _=>.int .i64 (stM t d l a b)))),(15,.int .i64 ((h-1:Nat):Int)),(16,.fn 24 [.ptr 4 0]),(87,.sl 1 t.bO.qs.length (λa _=>.sl 1 h (λb _=>.int .i64 (stM t d l a b)))),(88,.int .i64 t.bO.qs.length),(89,.int .i64 (i.1:Nat))]) (λ_=>[(3,.box t.cells),(4,.box d.cells)]) (λi=>t.bO.qs.length-i.1) ⟨0,ar4 _,λj hj=>dP hj (ar3 j)⟩ ?_ ?_
 .exact cB [] ⟨rfl,rfl,rfl,rfl,rfl,rfl,rfl,rfl,bP⟩ ⟨bV,bV,bP⟩
 rintro⟨i,(hi:i<=t.bO.qs.length),YM⟩;by_cases a:i<t.bO.qs.length
 .refine cD zE (er (show i<t.bO.qs.length by omega)) (bU zE (cZ a) (bU zE (cw (by show(0:Int)<=0/\(0:Int)<=((h-1:Nat):Int)/\((h-1:Nat):Int)<=(h:Int);omega)) ?_));have fail:∀ b,b<h-1->qw t d l i b=false->R=(0,15):=λb hb e=>by
   rw[hR,bS];exact bK.2 ⟨i,aZ.2 a,by rw[ak];exact bK.2 ⟨b,aZ.2 hb,by rw[e];decide⟩⟩
  refine zG zE ?_;refine aF (σ:={ k:Nat // k<=h-1/\ ∀b,b<k->qw t d l i b=true }) (λk=>[(3,.ptr 3 0),(4,.ptr 4 0),(14,.sl 1 t.bO.qs.length (λa _=>.sl 1 h (λb _=>.int .i64 (stM t d l a b)))),(15,.int .i64 ((h-1:Nat):Int)),(16,.fn 24 [.ptr 4 0]),(19,.int .i64 (i:Nat)),(87,.sl 1 t.bO.qs.length (λa _=>.sl 1 h (λb _=>.int .i64 (stM t d l a b)))),(88,.int .i64 t.bO.qs.length),(89,.int .i64 (i:Nat)),(96,.sl 1 (h-1) (λb _=>.int .i64 (stM t d l i b))),(97,.int .i64 ((h-1:Nat):Int)),(98,.int .i64 (k.1:Nat))]) (λ_=>[(3,.box t.cells),(4,.box d.cells)]) (λk=>h-1-k.1) ⟨0,ar4 _,λj hj=>dP hj (ar3 j)⟩ ?_ ?_
  .have e0:(((h-1:Nat):Int)-((0:Nat):Int)).toNat=h-1:=by omega
   refine(AY 96 (x:=.sl 1 (h-1) (λb _=>.int .i64 (stM t d l i b))) ?_).trans ?_
   .exact bY.sl e0 λq hq j hj=>fU (λz:Nat=>Go.Sy.A.int .i64 (stM t d l (i:Nat) (z:Nat))) (show 0+q=q from asd q)
   exact cB [] ⟨rfl,rfl,rfl,rfl,rfl,rfl,rfl,rfl,rfl,rfl,c9 rfl (by show((((h-1:Nat):Int)-((0:Nat):Int)).toNat:Int)=_;rw[e0]),rfl,bP⟩ ⟨bV,bV,bP⟩
  rintro⟨k,(hk:k<=h-1),YN⟩;by_cases b:k<h-1
  .have C7:qw t d l i k=true-> ∀b,b<k+1->qw t d l i b=true:=λe j hj=>by
    by_cases e1:j<k
    .exact YN j e1
    rw[show j=k by omega];exact e
   have wk:av.wrap (d.ready+(k:Int))=d.ready+(k:Int):=dG;refine cD zE (er (show k<(h-1:Nat) by omega)) (bU zE (cZ b) (cj zE (YK d i) (cK zE (λc=>?_) (λc=>?_))))
   .have c:mV d i=true:=c;refine cj zE ((YC t ok i (d.ready+(k:Int)) (by omega)).le (db.cons (bY.refl _) (db.cons (bY.refl _) (db.cons (bY.lr wk) db.nil)))) (cK zE (λe=>?_) (λe=>?_))
    .have e:decide (stM t d l i k>lC t i (d.ready+(k:Int)))=true:=e;have hf:=fail k b (by unfold qw;rw[c,e];rfl);exact zG zE (aG rfl zE (aD rfl rfl (bY.of (by rw[hf]))))
    have e:decide (stM t d l i k>lC t i (d.ready+(k:Int)))=false:=e;refine cH zE ⟨k+1,b,C7 (by unfold qw;rw[c,e];rfl)⟩ (dp b) ?_;exact cB [] ⟨rfl,rfl,rfl,rfl,rfl,rfl,rfl,rfl,rfl,rfl,rfl,c6 b,bP⟩ ⟨bV,bV,bP⟩
   have c:mV d i=false:=c;refine cH zE ⟨k+1,b,C7 (by unfold qw;rw[c];rfl)⟩ (dp b) ?_;exact cB [] ⟨rfl,rfl,rfl,rfl,rfl,rfl,rfl,rfl,rfl,rfl,rfl,c6 b,bP⟩ ⟨bV,bV,bP⟩
  have b:h-1=k:=by omega
  refine b8 zE (by show decide ((k:Int)<((h-1:Nat):Int))=false;exact dQ (by omega)) (dt zE rfl zE (cH zE ⟨i+1,a,λj hj=>?_⟩ (dp a) ?_))
  .by_cases e1:j<i
   .exact YM j e1
   rw[show j=i by omega];exact br.2 λb' hb'=>YN b' (by have:=aZ.1 hb';omega)
  exact cB [] ⟨rfl,rfl,rfl,rfl,rfl,rfl,rfl,c6 a,bP⟩ ⟨bV,bV,bP⟩
 have a:t.bO.qs.length=i:=by omega
 subst a;rw[bQ (by rw[ai];exact br.2 λj hj=>YM j (aZ.1 hj))]at hR;refine b8 zE eF (dt zE rfl zE (bU zE (cw (by have:=hd.dst;show 0<=d.dst/\d.dst<(t.bO.qs.length:Int);omega)) (bU zE (cw (by show 0<=((h-1:Nat):Int)/\((h-1:Nat):Int)<(h:Int);omega)) (cL zE rfl rfl (bY.of ?_)))));rw[hR];show Go.Sy.A.cG [.int .i64 (stM t d l ((d.dst.toNat:Nat):Int) ((h-1:Nat):Int)),.int .i64 0]=_;rw[aJ hd.dst.1]
theorem apK{x:cU}(h1:decide (x.lo<x.hi)=true)(h2:decide (x.lo>= -1152921504606846976)=true):decide (x.hi<=1152921504606846976)=vS x:=by
 have N6:decide (-1152921504606846976<=x.lo)=true:=h2;simp only[vS,h1,N6,ab]
theorem apL{x:cU}(h1:decide (x.lo<x.hi)=false):false=vS x:=by simp only[vS,h1,af]
theorem apM{x:cU}(h1:decide (x.lo<x.hi)=true)(h2:decide (x.lo>= -1152921504606846976)=false):false=vS x:=by
 have N6:decide (-1152921504606846976<=x.lo)=false:=h2;simp only[vS,h1,N6,ab,af]
theorem apN(x:cU):cJ ay 60 [.agg x.cells] (.bool (vS x),none):=by
 refine c8 CM Tryz.func60 rfl ?_;refine cK zE (λh=>?_) (λh=>?_)
 .refine cK zE (λh2=>?_) (λh2=>?_)
  .exact cL zE rfl rfl (fk ((apK h h2)))
  exact cL zE rfl rfl (fk ((apM h h2)))
 exact cL zE rfl rfl (fk ((apL h)))
def qV(l:List cU):Nat->Option Int
 |0=>none
 |k+1=>some (l.getD k aH).hi
def nM(l:List cU)(k:Nat):Int:=wh (qV l k) (l.drop k)
theorem YO{l:List cU}{k:Nat}(h:k<l.length)(hv:vS (l.getD k aH)=false):nM l k=2:=by
 unfold nM;rw[drop_cons h,wh,bQ (by rw[hv];simp)]
theorem YP{l:List cU}{k:Nat}(h:k<l.length)(hv:vS (l.getD k aH)=true)(hg:sQ (qV l k) (l.getD k aH)=true):nM l k=9:=by
 unfold nM;rw[drop_cons h,wh,bS hv,bS hg]
theorem He{l:List cU}{k:Nat}(h:k<l.length)(hv:vS (l.getD k aH)=true)(hg:sQ (qV l k) (l.getD k aH)=false):nM l k=nM l (k+1):=by
 unfold nM;rw[drop_cons h,wh,bS hv,bQ (by rw[hg];simp)];rfl
theorem YQ{l:List cU}{k:Nat}(h:l.length<=k):nM l k=0:=by
 unfold nM;rw[ao8 h];cases qV l k<;>rfl
theorem apO{l:List cU}(h:decide ((l.length:Int)>1000)=true):ja l=4:=by
 unfold ja;rw[bS (by simp at h;omega)]
theorem N7{l:List cU}(h:decide ((l.length:Int)>1000)=false):ja l=nM l 0:=by
 unfold ja;rw[bQ (by simp at h;omega)];rfl
theorem Hf(l:List cU):cJ ay 27 [fM l] (.int .i64 (ja l),none):=by
 refine c8 CM Tryz.func27 rfl ?_;refine cK zE (λh0=>?_) (λh0=>?_)
 .exact cL zE rfl rfl (dY ((apO h0).symm))
 have hl:l.length<=1000:=by simp at h0;omega
 rw[N7 h0];refine zG zE ?_;refine aF (σ:={ k:Nat // k<=l.length/\nM l 0=nM l k }) (λk=>[(0,fM l),(8,fM l),(9,.int .i64 l.length),(10,.int .i64 k.1)]) (λ_=>[]) (λk=>l.length-k.1) ⟨0,ar4 _,rfl⟩ ?_ ?_
 .exact cB [] ⟨rfl,rfl,rfl,rfl,bP⟩ trivial
 rintro⟨k,hk,hn⟩;refine cK zE (λh=>?_) (λh=>?_)
 .simp at h;refine bU zE (by simp;omega) (cj zE (apN (l.getD k aH)) (cK zE (λh2=>?_) (λh2=>?_)))
  .refine zG zE (aG rfl zE (aD rfl rfl (bY.of (fU (A.int .i64) ?_))));rw[hn,YO h (ur h2)]
  have hv:=vZ h2;refine cN zE ?_;refine cK zE (λh3=>?_) (λh3=>?_)
  .obtain⟨m,rfl⟩:∃ m,k=m+1:=⟨k-1,by simp at h3;omega⟩;have e1:av.wrap (((m+1:Nat):Int)-1)=(m:Int):=ao9 (n:=l.length) (by omega) (by omega);refine bU zE (by rw[e1];simp;omega) ?_;rw[e1];refine cK zE (λh4=>?_) (λh4=>?_)
   .refine zG zE (aG rfl zE (aD rfl rfl (bY.of (fU (A.int .i64) ?_))));rw[hn,YP h hv h4]
   refine cH zE ⟨m+2,by omega,hn.trans (He h hv h4)⟩ (by simp;omega) ?_;exact cB [] ⟨rfl,rfl,rfl,c9 rfl (je (k:=m+1) (n:=l.length) (by omega) (by omega)),bP⟩ trivial
  obtain rfl:k=0:=by simp at h3;omega
  refine cH zE ⟨1,by omega,hn.trans (He h hv rfl)⟩ (by simp;omega) ?_;exact cB [] ⟨rfl,rfl,rfl,c9 rfl (je (k:=0) (n:=l.length) (by omega) (by omega)),bP⟩ trivial
 simp at h;refine dt zE rfl zE (cL zE rfl rfl (bY.of (fU (A.int .i64) ?_)));rw[hn,YQ h]
theorem apP(x:cU)(t:Int):cJ ay 62 [.agg x.cells,.ip 1 (bT [.int .i64 t])] (.bool (iH t x),none):=by
 refine c8 CM Tryz.func62 rfl ?_;refine cK zE (λh=>?_) (λh=>?_)
 .refine cL zE rfl rfl (bY.of (fU A.bool ?_));simp only[iH,h,ab]
 refine cL zE rfl rfl (bY.of (fU A.bool ?_));simp only[iH,h,af]
def gy(l:List cU)(t:Int):Bool:=(ja l==0)&&Ka l t
theorem N8{l:List cU}(h:ja l=0):l.length<=1000:=by
 unfold ja at h;split at h
 .cases h
 omega
theorem se(l:List cU)(t:Int):cJ ay 28 [fM l,.int .i64 t] (.bool (gy l t),none):=by
 refine c8 CM Tryz.func28 rfl ?_;refine cj zE (Hf l) (cK zE (λh=>?_) (λh=>?_))
 .have h:(ja l==0)=true:=h;exact cj zE (Jq l (by have:=N8 (ie h);omega) 62 1 (bT [.int .i64 t]) (iH t) (λx _=>apP x t)) (cL zE rfl rfl (fk ((by unfold gy;rw[h];rfl))))
 have h:(ja l==0)=false:=h;exact cL zE rfl rfl (fk ((by unfold gy;rw[h];rfl)))
def si(c:List (List cU)):Go.Sy.A:=.sl 1 c.length (λi _=>fM (c.getD i aH))
def qW(d:cA)(l:List cU):Bool:=ja l !=0||(decide ((l.length:Int)>0)&&(decide ((l.getD 0 aH).lo<d.ready)||decide ((l.getD (l.length-1) aH).hi>d.dead+1)))
def C8(d:cA)(h:Nat)(c:List (List cU))(v:Nat):Bool:=gy (c.getD (v/h) aH) (d.ready+((v%h:Nat):Int))
def fJ(S:Nat->Bool)(a:dR):Int:=if S a.fr.toNat=true/\S a.to.toNat=false then a.cap else 0
def xf(t:cE)(d:cA)(h:Nat)(c:List (List cU)):Int×Int:=
 if c.length≠t.bO.qs.length then(0,10)
 else if c.any (qW d)=true then(0,2)
 else if gy (c.getD d.src.toNat aH) d.ready=false\/gy (c.getD d.dst.toNat aH) d.dead=true then(0,24)
 else(cT (fJ (C8 d h c)) (dq t d h),0)
theorem N9{S:Nat->Bool}:∀ {L:List dR},(∀a∈L,0<=a.cap/\a.cap<=1099511627776)->0<=cT (fJ S) L/\cT (fJ S) L<=1099511627776*(L.length:Int)
 |[],_=>by simp[cT]
 |a::L,h=>by
  have h1:=N9 (S:=S) (L:=L) λx hx=>h x (a6 _ hx);have h2:=h a aY;have h3:0<=fJ S a/\fJ S a<=1099511627776:=by unfold fJ;split<;>omega
  simp only[cT,bB]
  push_cast
  omega
theorem YR{t:cE}(ok:fj t){d:cA}{h n:Nat}(hn:n<=t.bO.qs.length*h):∀ a∈(dV t d h n).map XA.dv,0<=a.cap/\a.cap<=1099511627776:=by
 intro a ha;obtain⟨y,hy,rfl⟩:=bl.1 ha;obtain⟨i,hi,_,rfl⟩:=wq.1 hy;have h0:0<h:=by
  rcases Nat.eq_zero_or_pos h with e|e
  .subst e;simp at hn;omega
  exact e
 exact KQ ok d (wo (N:=t.bO.qs.length) h0 (by omega)).1 _
theorem apQ{t:cE}(ok:fj t){d:cA}{h k:Nat}{l:List Int}(hk:k<t.bO.bW.length):∀ a∈eA t d h k l,0<=a.cap/\a.cap<=1099511627776:=by
 have hr:∀ ct,ct<t.bO.bW.length->0<=(t.bO.bW.getD ct aH).gn/\(t.bO.bW.getD ct aH).gn<=1099511627776:=λct hc=>by
  have:=(ok.p.bW (t.bO.bW.getD ct aH) (by rw[cV hc];exact aV _)).gn;omega
 intro a ha;unfold eA at ha;rw[bh,bh]at ha;rcases bc.1 ha with ha|ha
 .rcases bc.1 ha with ha|ha
  .exact YR ok (ar1 _) a ha
  obtain⟨y,hy,rfl⟩:=bl.1 ha;obtain⟨ct,hc,hy⟩:=bA.1 hy;unfold iz at hy;obtain⟨u,_,rfl⟩:=bl.1 hy;exact hr ct (by have:=aZ.1 hc;omega)
 obtain⟨y,hy,rfl⟩:=bl.1 ha;obtain⟨u,_,rfl⟩:=bl.1 hy;exact hr k hk
theorem apR{t:cE}(ok:fj t){d:cA}{h k:Nat}{l:List Int}(hk:k<t.bO.bW.length)(hh:d.dead-d.ready<=24):(eA t d h k l).length<=t.bO.qs.length*h+64*24+l.length:=by
 have h1:=uw t d h (t.bO.qs.length*h);have h3:((a8 k).flatMap (iz t d h)).length<=(a8 k).length*24:=yD λx _=>by
  unfold iz;rw[bd];have:=Br ok d x;omega
 have h4:=ok.p.m;rw[bg]at h3;unfold eA;rw[bd,aW,aW,bd];have:k*24<=64*24:=Nat.mul_le_mul_right 24 (by omega);omega
noncomputable def CCp:Cx:={ E:=EM,inl:=[29],ok:=qf }
theorem apS(t:cE)(d:cA)(h:Nat)(c:List (List cU))(ht:fW t=0)(hd:gB t.bO.qs.length d)(hq:t.bO.qs.length<=6)(hH:d.dead=d.ready+h-1/\2<=h/\h<=25)(hlen:c.length<=1000000):cJ ay 9 [.agg t.cells,.agg d.cells,si c] (.cG [.int .i64 (xf t d h c).1,.int .i64 (xf t d h c).2],none):=by
 have ok:=kS ht;have mO:=hd.ready;have hrd:=hd.dead;have hs:=hd.src;have hdt:=hd.dst;have hm:=ok.p.m;obtain⟨R,hR⟩:∃ R,R=xf t d h c:=⟨_,rfl⟩;rw[<-hR];unfold xf at hR;have cc:=Vf t d ht hd;refine c8 CCp Tryz.func9 rfl ?_;refine cj zE (cc) (b8 zE (rfl) ?_);by_cases a:c.length=t.bO.qs.length
 .rw[bQ (by omega)]at hR;refine b8 zE (by show((c.length:Int)!=(t.bO.qs.length:Int))=false;rw[a];exact np _) ?_;refine zG zE ?_;refine aF (σ:={ k:Nat // k<=c.length/\ ∀i,i<k->qW d (c.getD i aH)=false }) (λk=>[(3,.ptr 3 0),(4,.ptr 4 0),(5,.ptr 5 0),(32,si c),(33,.int .i64 c.length),(34,.int .i64 (k.1:Nat))]) (λ_=>[(3,.box t.cells),(4,.box d.cells),(5,.box [si c])]) (λk=>c.length-k.1) ⟨0,ar4 _,λi hi=>dP hi (ar3 i)⟩ ?_ ?_
  .exact cB [] ⟨rfl,rfl,rfl,rfl,rfl,rfl,bP⟩ ⟨bV,bV,bV,bP⟩
  rintro⟨k,(hk:k<=c.length),hb⟩;by_cases b:k<c.length
  .obtain⟨l,hl⟩:∃ l,l=c.getD k aH:=⟨_,rfl⟩;have fail:qW d l=true->R=(0,2):=λe=>by
    rw[hR,bS];exact acK.2 ⟨l,by rw[hl,cV b];exact aV _,e⟩
   have C7:qW d l=false-> ∀i,i<k+1->qW d (c.getD i aH)=false:=λe i hi=>by
    by_cases e1:i<k
    .exact hb i e1
    rw[show i=k by omega,<- hl];exact e
   refine cD zE (er (show k<c.length by omega)) (bU zE (cZ b) (cN zE ?_));refine cj zE ((Hf l).le (db.cons (bY.of (by rw[hl];rfl)) db.nil)) (cK zE (λb1=>?_) (λb1=>?_))
   .have b1:(ja l !=0)=true:=b1;have hf:=fail (by unfold qW;rw[b1];rfl);exact zG zE (aG rfl zE (aD rfl rfl (bY.of (by rw[hf]))))
   have b1:(ja l !=0)=false:=b1;have lg:=N8 (l:=l) (by simpa using b1);refine cK zE (λb2=>?_) (λb2=>?_)
   .have b2:decide ((l.length:Int)>0)=true:=by rw[hl];exact b2
    have b2':=fv b2;refine bU zE (cw (by show 0<=(0:Int)/\(0:Int)<((c.getD k aH).length:Int);rw[<-hl];omega)) (cK zE (λb3=>?_) (λb3=>?_))
    .have b3:decide ((l.getD 0 aH).lo<d.ready)=true:=by rw[hl];exact b3
     have hf:=fail (by unfold qW;rw[b2,b3];simp);exact zG zE (aG rfl zE (aD rfl rfl (bY.of (by rw[hf]))))
    have b3:decide ((l.getD 0 aH).lo<d.ready)=false:=by rw[hl];exact b3
    have w1:av.wrap (((c.getD k aH).length:Int)-1)=((l.length-1:Nat):Int):=by rw[<-hl,dG];omega
    have w2:av.wrap (d.dead+1)=d.dead+1:=dG;refine bU zE (cw (by show 0<=av.wrap (((c.getD k aH).length:Int)-1)/\av.wrap (((c.getD k aH).length:Int)-1)<((c.getD k aH).length:Int);rw[w1,<- hl];omega)) ?_;have key:decide (((c.getD k aH).getD (av.wrap (((c.getD k aH).length:Int)-1)).toNat aH).hi>av.wrap (d.dead+1))=decide ((l.getD (l.length-1) aH).hi>d.dead+1):=by rw[w1,w2,<- hl];rfl
    refine cK zE (λb4=>?_) (λb4=>?_)
    .have b4:decide ((l.getD (l.length-1) aH).hi>d.dead+1)=true:=by rw[<-key];exact b4
     have hf:=fail (by unfold qW;rw[b2,b4];simp);exact zG zE (aG rfl zE (aD rfl rfl (bY.of (by rw[hf]))))
    have b4:decide ((l.getD (l.length-1) aH).hi>d.dead+1)=false:=by rw[<-key];exact b4
    refine cH zE ⟨k+1,b,C7 (by unfold qW;rw[b1,b3,b4];simp)⟩ (dp b) ?_;exact cB [] ⟨rfl,rfl,rfl,rfl,rfl,c6 b,bP⟩ ⟨bV,bV,bV,bP⟩
   have b2:decide ((l.length:Int)>0)=false:=by rw[hl];exact b2
   refine cH zE ⟨k+1,b,C7 (by unfold qW;rw[b1,b2];simp)⟩ (dp b) ?_;exact cB [] ⟨rfl,rfl,rfl,rfl,rfl,c6 b,bP⟩ ⟨bV,bV,bV,bP⟩
  have b:c.length=k:=by omega
  subst b;rw[bQ (by rw[ak];exact bJ.2 λx hx=>by obtain⟨i,hi,rfl⟩:=bn hx;rw[<-cV hi,hb i hi];decide)]at hR;refine b8 zE eF (dt zE rfl zE ?_);have hcs:d.src<(c.length:Int):=by omega
  have hcd:d.dst<(c.length:Int):=by omega
  refine cN zE ?_;refine bU zE (cw (by show 0<=d.src/\d.src<(c.length:Int);omega)) (cj zE (se (c.getD d.src.toNat aH) d.ready) (cK zE (λb1=>?_) (λb1=>?_)))
  .have b1:gy (c.getD d.src.toNat aH) d.ready=false:=ur b1;rw[bS (.inl b1)]at hR;exact cL zE rfl rfl (bY.of (by rw[hR]))
  have b1:gy (c.getD d.src.toNat aH) d.ready=true:=vZ b1;refine bU zE (cw (by show 0<=d.dst/\d.dst<(c.length:Int);omega)) (cj zE (se (c.getD d.dst.toNat aH) d.dead) (cK zE (λb2=>?_) (λb2=>?_)))
  .have b2:gy (c.getD d.dst.toNat aH) d.dead=true:=b2;rw[bS (.inr b2)]at hR;exact cL zE rfl rfl (bY.of (by rw[hR]))
  have b2:gy (c.getD d.dst.toNat aH) d.dead=false:=b2;rw[bQ (by rw[b1,b2];simp)]at hR;obtain⟨S,hS⟩:∃ S,S=C8 d h c:=⟨_,rfl⟩;have Hg:∀ A B:Nat,B<h->S (A*h+B)=gy (c.getD A aH) (d.ready+(B:Int)):=λA B hB=>by rw[hS];unfold C8;rw[l8 hB,jT hB]
  rw[<-hS]at hR;refine eG zE c.length (λi=>[(3,.ptr 3 0),(4,.ptr 4 0),(5,.ptr 5 0),(11,.ptr 11 0),(12,.fn 29 [.ptr 5 0,.ptr 11 0]),(90,.int .i64 c.length),(91,.int .i64 (i:Nat))]) (λi=>[(3,.box t.cells),(4,.box d.cells),(5,.box [si c]),(11,.box [.int .i64 (cT (fJ S) ((dV t d h (i*h)).map XA.dv))])]) ?_ ?_
  .exact cB [] ⟨rfl,rfl,rfl,rfl,rfl,rfl,rfl,bP⟩ ⟨bV,bV,bV,⟨_,rfl,_,_,rfl,c9 rfl (by show 0=cT (fJ S) ((dV t d h (0*h)).map XA.dv);rw[asc];rfl),rfl⟩,bP⟩
  rintro⟨A,(hA:A<=c.length)⟩;by_cases e:A<c.length
  .have YS:A<t.bO.qs.length:=by omega
   refine cD zE (er (show A<c.length by omega)) ?_;refine eG zE (h-1) (λb=>[(3,.ptr 3 0),(4,.ptr 4 0),(5,.ptr 5 0),(11,.ptr 11 0),(12,.fn 29 [.ptr 5 0,.ptr 11 0]),(13,.int .i64 (A:Nat)),(14,.int .i64 (d.ready+(b:Nat))),(90,.int .i64 c.length),(91,.int .i64 (A:Nat))]) (λb=>[(3,.box t.cells),(4,.box d.cells),(5,.box [si c]),(11,.box [.int .i64 (cT (fJ S) ((dV t d h (A*h+b)).map XA.dv))])]) ?_ ?_
   .exact cB [] ⟨rfl,rfl,rfl,rfl,rfl,rfl,c9 rfl (by show d.ready=d.ready+((0:Nat):Int);omega),rfl,rfl,bP⟩ ⟨bV,bV,bV,bV,bP⟩
   rintro⟨B,(hB:B<=h-1)⟩;by_cases f:B<h-1
   .obtain⟨s0,hs0⟩:∃ s0,s0=cT (fJ S) ((dV t d h (A*h+B)).map XA.dv):=⟨_,rfl⟩;have hlt:=sU (h:=h) (a:=A) (b:=B) (N:=t.bO.qs.length) (by omega) YS;have hN:=ar0 hq hH.2.2;have hsb:0<=s0/\s0<=1099511627776*150:=by
     have h1:=N9 (S:=S) (L:=(dV t d h (A*h+B)).map XA.dv) (YR ok (by omega));have h2:=uw t d h (A*h+B);rw[bd]at h1;rw[hs0];have h3:(1099511627776:Int)*((dV t d h (A*h+B)).length:Int)<=1099511627776*150:=by omega
     omega
    have gT:=KQ ok d YS (d.ready+(B:Int));have iV:cT (fJ S) ((dV t d h (A*h+(B+1))).map XA.dv)=s0+if gy (c.getD A aH) (d.ready+(B:Int))=true/\gy (c.getD A aH) (d.ready+((B+1:Nat):Int))=false then jm t d A (d.ready+(B:Int))else 0:=by
     rw[<-Nat.add_assoc,rK,jT (by omega),bQ (by omega),bh,nu,<- hs0];simp only[List.map_cons,bL,cT];have e1:(wX t d h (A*h+B)).dv.fr.toNat=A*h+B:=rfl;have e2:(wX t d h (A*h+B)).dv.to.toNat=A*h+(B+1):=Bv t d h (A*h+B);have e3:(wX t d h (A*h+B)).dv.cap=jm t d A (d.ready+(B:Int)):=by unfold wX sS;rw[l8 (by omega),jT (by omega)]
     unfold fJ;rw[e1,e2,e3,Hg A B (by omega),Hg A (B+1) (by omega),aI]
    have w1:av.wrap (d.ready+(B:Int)+1)=d.ready+((B+1:Nat):Int):=by rw[dG];omega
    refine cD zE (by show decide (d.ready+(B:Int)<d.dead)=true;exact cw (by omega)) ?_;by_cases c1:(A:Int)=d.src
    .have hcap:jm t d A (d.ready+(B:Int))=1099511627776:=by unfold jm;rw[bS (.inl c1)]
     refine b8 zE (by show((A:Int)!=d.src)=false;rw[c1];exact np _) ?_;have YT:av.wrap (d.ready+(B:Int)+1)=d.ready+((B+1:Nat):Int):=w1;refine bU zE (cZ e) (cj zE (se (c.getD A aH) (d.ready+(B:Int))) (cK zE (λg1=>?_) (λg1=>?_)))
     .have g1:gy (c.getD A aH) (d.ready+(B:Int))=true:=g1;refine bU zE (cZ e) (cj zE ((se (c.getD A aH) (d.ready+((B+1:Nat):Int))).le (db.cons (bY.refl _) (db.cons (bY.lr w1) db.nil))) (cK zE (λg2=>?_) (λg2=>?_)))
      .have g2:gy (c.getD A aH) (d.ready+((B+1:Nat):Int))=false:=ur g2;rw[bS ⟨g1,g2⟩]at iV;refine cH zE ⟨B+1,f⟩ (dp f) ?_;exact cB [] ⟨rfl,rfl,rfl,rfl,rfl,rfl,c9 rfl w1,rfl,rfl,bP⟩ ⟨bV,bV,bV,⟨_,rfl,_,_,rfl,c9 rfl (by show av.wrap (cT (fJ S) ((dV t d h (A*h+B)).map XA.dv)+1099511627776)=cT (fJ S) ((dV t d h (A*h+(B+1))).map XA.dv);rw[iV,<- hs0,hcap,dG]),rfl⟩,bP⟩
      have g2:gy (c.getD A aH) (d.ready+((B+1:Nat):Int))=true:=vZ g2;rw[bQ (by rw[g2];simp)]at iV;refine cH zE ⟨B+1,f⟩ (dp f) ?_;exact cB [] ⟨rfl,rfl,rfl,rfl,rfl,rfl,c9 rfl w1,rfl,rfl,bP⟩ ⟨bV,bV,bV,⟨_,rfl,_,_,rfl,c9 rfl (by show cT (fJ S) ((dV t d h (A*h+B)).map XA.dv)=cT (fJ S) ((dV t d h (A*h+(B+1))).map XA.dv);rw[iV,<- hs0,aI]),rfl⟩,bP⟩
     have g1:gy (c.getD A aH) (d.ready+(B:Int))=false:=g1;rw[bQ (by rw[g1];simp)]at iV;refine cH zE ⟨B+1,f⟩ (dp f) ?_;exact cB [] ⟨rfl,rfl,rfl,rfl,rfl,rfl,c9 rfl w1,rfl,rfl,bP⟩ ⟨bV,bV,bV,⟨_,rfl,_,_,rfl,c9 rfl (by show cT (fJ S) ((dV t d h (A*h+B)).map XA.dv)=cT (fJ S) ((dV t d h (A*h+(B+1))).map XA.dv);rw[iV,<- hs0,aI]),rfl⟩,bP⟩
    refine cD zE (by show((A:Int)!=d.src)=true;exact bne_iff_ne.2 c1) ?_;by_cases c2:(A:Int)=d.dst
    .have hcap:jm t d A (d.ready+(B:Int))=1099511627776:=by unfold jm;rw[bS (.inr c2)]
     refine b8 zE (by show((A:Int)!=d.dst)=false;rw[c2];exact np _) ?_;have YT:av.wrap (d.ready+(B:Int)+1)=d.ready+((B+1:Nat):Int):=w1;refine bU zE (cZ e) (cj zE (se (c.getD A aH) (d.ready+(B:Int))) (cK zE (λg1=>?_) (λg1=>?_)))
     .have g1:gy (c.getD A aH) (d.ready+(B:Int))=true:=g1;refine bU zE (cZ e) (cj zE ((se (c.getD A aH) (d.ready+((B+1:Nat):Int))).le (db.cons (bY.refl _) (db.cons (bY.lr w1) db.nil))) (cK zE (λg2=>?_) (λg2=>?_)))
      .have g2:gy (c.getD A aH) (d.ready+((B+1:Nat):Int))=false:=ur g2;rw[bS ⟨g1,g2⟩]at iV;refine cH zE ⟨B+1,f⟩ (dp f) ?_;exact cB [] ⟨rfl,rfl,rfl,rfl,rfl,rfl,c9 rfl w1,rfl,rfl,bP⟩ ⟨bV,bV,bV,⟨_,rfl,_,_,rfl,c9 rfl (by show av.wrap (cT (fJ S) ((dV t d h (A*h+B)).map XA.dv)+1099511627776)=cT (fJ S) ((dV t d h (A*h+(B+1))).map XA.dv);rw[iV,<- hs0,hcap,dG]),rfl⟩,bP⟩
      have g2:gy (c.getD A aH) (d.ready+((B+1:Nat):Int))=true:=vZ g2;rw[bQ (by rw[g2];simp)]at iV;refine cH zE ⟨B+1,f⟩ (dp f) ?_;exact cB [] ⟨rfl,rfl,rfl,rfl,rfl,rfl,c9 rfl w1,rfl,rfl,bP⟩ ⟨bV,bV,bV,⟨_,rfl,_,_,rfl,c9 rfl (by show cT (fJ S) ((dV t d h (A*h+B)).map XA.dv)=cT (fJ S) ((dV t d h (A*h+(B+1))).map XA.dv);rw[iV,<- hs0,aI]),rfl⟩,bP⟩
     have g1:gy (c.getD A aH) (d.ready+(B:Int))=false:=g1;rw[bQ (by rw[g1];simp)]at iV;refine cH zE ⟨B+1,f⟩ (dp f) ?_;exact cB [] ⟨rfl,rfl,rfl,rfl,rfl,rfl,c9 rfl w1,rfl,rfl,bP⟩ ⟨bV,bV,bV,⟨_,rfl,_,_,rfl,c9 rfl (by show cT (fJ S) ((dV t d h (A*h+B)).map XA.dv)=cT (fJ S) ((dV t d h (A*h+(B+1))).map XA.dv);rw[iV,<- hs0,aI]),rfl⟩,bP⟩
    have hcap:jm t d A (d.ready+(B:Int))=lC t A (d.ready+(B:Int)):=apz c1 c2 _;rw[hcap]at gT;refine cD zE (by show((A:Int)!=d.dst)=true;exact bne_iff_ne.2 c2) (cj zE (YC t ok A (d.ready+(B:Int)) (by omega)) ?_);have YT:av.wrap (d.ready+(B:Int)+1)=d.ready+((B+1:Nat):Int):=w1;refine bU zE (cZ e) (cj zE (se (c.getD A aH) (d.ready+(B:Int))) (cK zE (λg1=>?_) (λg1=>?_)))
    .have g1:gy (c.getD A aH) (d.ready+(B:Int))=true:=g1;refine bU zE (cZ e) (cj zE ((se (c.getD A aH) (d.ready+((B+1:Nat):Int))).le (db.cons (bY.refl _) (db.cons (bY.lr w1) db.nil))) (cK zE (λg2=>?_) (λg2=>?_)))
     .have g2:gy (c.getD A aH) (d.ready+((B+1:Nat):Int))=false:=ur g2;rw[bS ⟨g1,g2⟩]at iV;refine cH zE ⟨B+1,f⟩ (dp f) ?_;exact cB [] ⟨rfl,rfl,rfl,rfl,rfl,rfl,c9 rfl w1,rfl,rfl,bP⟩ ⟨bV,bV,bV,⟨_,rfl,_,_,rfl,c9 rfl (by show av.wrap (cT (fJ S) ((dV t d h (A*h+B)).map XA.dv)+lC t (A:Nat) (d.ready+(B:Int)))=cT (fJ S) ((dV t d h (A*h+(B+1))).map XA.dv);rw[iV,<- hs0,hcap,dG]),rfl⟩,bP⟩
     have g2:gy (c.getD A aH) (d.ready+((B+1:Nat):Int))=true:=vZ g2;rw[bQ (by rw[g2];simp)]at iV;refine cH zE ⟨B+1,f⟩ (dp f) ?_;exact cB [] ⟨rfl,rfl,rfl,rfl,rfl,rfl,c9 rfl w1,rfl,rfl,bP⟩ ⟨bV,bV,bV,⟨_,rfl,_,_,rfl,c9 rfl (by show cT (fJ S) ((dV t d h (A*h+B)).map XA.dv)=cT (fJ S) ((dV t d h (A*h+(B+1))).map XA.dv);rw[iV,<- hs0,aI]),rfl⟩,bP⟩
    have g1:gy (c.getD A aH) (d.ready+(B:Int))=false:=g1;rw[bQ (by rw[g1];simp)]at iV;refine cH zE ⟨B+1,f⟩ (dp f) ?_;exact cB [] ⟨rfl,rfl,rfl,rfl,rfl,rfl,c9 rfl w1,rfl,rfl,bP⟩ ⟨bV,bV,bV,⟨_,rfl,_,_,rfl,c9 rfl (by show cT (fJ S) ((dV t d h (A*h+B)).map XA.dv)=cT (fJ S) ((dV t d h (A*h+(B+1))).map XA.dv);rw[iV,<- hs0,aI]),rfl⟩,bP⟩
   have f:h-1=B:=by omega
   refine b8 zE (by show decide (d.ready+(B:Int)<d.dead)=false;exact dQ (by omega)) (dt zE rfl zE ?_);have hw:dV t d h ((A+1)*h)=dV t d h (A*h+B):=by
    rw[Nat.add_mul,Nat.one_mul,show A*h+h=A*h+B+1 by omega,rK,jT (by omega),bS (by omega),a7]
   refine cH zE ⟨A+1,e⟩ (dp e) ?_;exact cB [] ⟨rfl,rfl,rfl,rfl,rfl,rfl,c6 e,bP⟩ ⟨bV,bV,bV,⟨_,rfl,_,_,rfl,c9 rfl (by show cT (fJ S) ((dV t d h (A*h+B)).map XA.dv)=cT (fJ S) ((dV t d h ((A+1)*h)).map XA.dv);rw[hw]),rfl⟩,bP⟩
  have e:c.length=A:=by omega
  subst e;refine b8 zE eF (dt zE rfl zE ?_);refine eG zE t.bO.bW.length (λk=>[(3,.ptr 3 0),(4,.ptr 4 0),(5,.ptr 5 0),(11,.ptr 11 0),(12,.fn 29 [.ptr 5 0,.ptr 11 0]),(127,nv t.bO.bW),(128,.int .i64 t.bO.bW.length),(129,.int .i64 (k:Nat))]) (λk=>[(3,.box t.cells),(4,.box d.cells),(5,.box [si c]),(11,.box [.int .i64 (cT (fJ S) (eA t d h k []))])]) ?_ ?_
  .exact cB [] ⟨rfl,rfl,rfl,rfl,rfl,rfl,rfl,rfl,bP⟩ ⟨bV,bV,bV,⟨_,rfl,_,_,rfl,c9 rfl (by rw[wu,<- a]),rfl⟩,bP⟩
  rintro⟨k,(hk:k<=t.bO.bW.length)⟩;by_cases e:k<t.bO.bW.length
  .obtain⟨x,hx⟩:∃ x,x=t.bO.bW.getD k aH:=⟨_,rfl⟩;have qU:=ok.p.bW x (by rw[hx,cV e];exact aV _);have hxt:=qU.time;have hxr:=qU.c7;have hxf:=qU.fr;have hxo:=qU.to;have hxc:=qU.gn;obtain⟨L,hL⟩:∃ L,L=(if d.ready>x.start then d.ready else x.start):=⟨_,rfl⟩;have qq:d.ready<=L/\x.start<=L/\(L=d.ready\/L=x.start):=by rw[hL];split<;>omega
   obtain⟨M,hM⟩:∃ M,M=((if d.dead-x.c7<x.stop then d.dead-x.c7 else x.stop)-L).toNat:=⟨_,rfl⟩;have ny:∀ m:Nat,m<M↔L+(m:Int)<x.stop/\L+(m:Int)+1+x.c7<=d.dead:=by intro m;rw[hM];split<;>omega
   have FD:M<=25:=by rw[hM];split<;>omega
   refine cD zE (er (show k<t.bO.bW.length by omega)) (bU zE (cZ e) ?_);refine eG zE M (λm=>[(3,.ptr 3 0),(4,.ptr 4 0),(5,.ptr 5 0),(11,.ptr 11 0),(12,.fn 29 [.ptr 5 0,.ptr 11 0]),(16,.int .i64 (k:Nat)),(17,.ptr 17 0),(18,.int .i64 (L+(m:Nat))),(127,nv t.bO.bW),(128,.int .i64 t.bO.bW.length),(129,.int .i64 (k:Nat))]) (λm=>[(3,.box t.cells),(4,.box d.cells),(5,.box [si c]),(11,.box [.int .i64 (cT (fJ S) (eA t d h k (jl t d k L m)))]),(17,.box x.cells)]) ?_ ?_
   .exact cB [] ⟨rfl,rfl,rfl,rfl,rfl,rfl,rfl,c9 rfl (by rw[hL,hx];exact(aI _).symm),rfl,rfl,rfl,bP⟩ ⟨bV,bV,bV,bV,⟨_,rfl,by rw[hx];exact oR _ _⟩,bP⟩
   rintro⟨m,(hm:m<=M)⟩;have w1:av.wrap (L+(m:Int)+1)=L+((m+1:Nat):Int):=by rw[dG];omega
   have w2:av.wrap (av.wrap (L+(m:Int)+1)+x.c7)=L+(m:Int)+1+x.c7:=by rw[w1,dG];omega
   refine cN zE ?_;by_cases f:m<M
   .obtain⟨f1,f2⟩:=(ny m).1 f;refine cD zE (by show decide (L+(m:Int)<x.stop)=true;exact cw f1) (cj zE (zy x (L+(m:Int))) (cD zE (by show decide (av.wrap (av.wrap (L+(m:Int)+1)+x.c7)<=d.dead)=true;rw[w2];exact cw f2) (cj zE (YD t k (L+(m:Int)) (by have:=ok.b.len;omega)) ?_)));obtain⟨s0,hs0⟩:∃ s0,s0=cT (fJ S) (eA t d h k (jl t d k L m)):=⟨_,rfl⟩;have hsb:0<=s0/\s0<=1099511627776*2000:=by
     have h1:=N9 (S:=S) (L:=eA t d h k (jl t d k L m)) (apQ ok e);have h2:=apR ok (h:=h) (l:=jl t d k L m) e (show d.dead-d.ready<=24 by omega);have h3:(jl t d k L m).length<=m:=by unfold jl;exact asm (bD _ _) (by simp)
     have h4:=ar0 hq hH.2.2;rw[hs0];have h5:(1099511627776:Int)*((eA t d h k (jl t d k L m)).length:Int)<=1099511627776*2000:=by omega
     omega
    have mF:oT t d k (L+(m:Int))= !(eO t.dg k).any (iH (L+(m:Int))):=by
     unfold oT;rw[<-hx,cw (show x.start<=L+(m:Int) by omega),cw f1,cw (show d.ready<=L+(m:Int) by omega),cw f2];simp only[ab]
    have hF:S (cX t d h k (L+(m:Int))).dv.fr.toNat=gy (c.getD x.fr.toNat aH) (L+(m:Int)):=by
     have e1:(cX t d h k (L+(m:Int))).dv.fr=yA d h x.fr (L+(m:Int)):=by rw[hx];rfl
     rw[e1,Fq hxf.1 (by omega),aK,Hg _ _ (by omega),aJ (show 0<=L+(m:Int)-d.ready by omega)];congr 1;omega
    have hT:S (cX t d h k (L+(m:Int))).dv.to.toNat=gy (c.getD x.to.toNat aH) (L+(m:Int)+1+x.c7):=by
     have e1:(cX t d h k (L+(m:Int))).dv.to=yA d h x.to (L+(m:Int)+1+x.c7):=by rw[hx];rfl
     rw[e1,Fq hxo.1 (by omega),aK,Hg _ _ (by omega),aJ (show 0<=L+(m:Int)+1+x.c7-d.ready by omega)];congr 1;omega
    have hC:(cX t d h k (L+(m:Int))).dv.cap=x.gn:=by rw[hx];rfl
    refine cK zE (λg=>?_) (λg=>?_)
    .have g:(!(eO t.dg k).any (iH (L+(m:Int))))=true:=g;have iV:cT (fJ S) (eA t d h k (jl t d k L (m+1)))=s0+if gy (c.getD x.fr.toNat aH) (L+(m:Int))=true/\gy (c.getD x.to.toNat aH) (L+(m:Int)+1+x.c7)=false then x.gn else 0:=by
      rw[UC,bS (mF.trans g),FA,nu,<- hs0];simp only[cT];unfold fJ;rw[hF,hT,hC,aI]
     refine cN zE ?_;refine cj zE (zy x (L+(m:Int))) (bU zE (cw (by show 0<=x.fr/\x.fr<(c.length:Int);omega)) (cj zE (se (c.getD x.fr.toNat aH) (L+(m:Int))) (cK zE (λg1=>?_) (λg1=>?_))))
     .have g1:gy (c.getD x.fr.toNat aH) (L+(m:Int))=true:=g1;refine bU zE (cw (by show 0<=x.to/\x.to<(c.length:Int);omega)) (cj zE ((se (c.getD x.to.toNat aH) (L+(m:Int)+1+x.c7)).le (db.cons (bY.refl _) (db.cons (bY.lr w2) db.nil))) (cK zE (λg2=>?_) (λg2=>?_)))
      .have g2:gy (c.getD x.to.toNat aH) (L+(m:Int)+1+x.c7)=false:=ur g2;rw[bS ⟨g1,g2⟩]at iV;refine cH zE ⟨m+1,f⟩ (dp f) ?_;exact cB [] ⟨rfl,rfl,rfl,rfl,rfl,rfl,rfl,c9 rfl w1,rfl,rfl,rfl,bP⟩ ⟨bV,bV,bV,⟨_,rfl,_,_,rfl,c9 rfl (by show av.wrap (cT (fJ S) (eA t d h k (jl t d k L m))+x.gn)=cT (fJ S) (eA t d h k (jl t d k L (m+1)));rw[iV,<- hs0,dG]),rfl⟩,bV,bP⟩
      have g2:gy (c.getD x.to.toNat aH) (L+(m:Int)+1+x.c7)=true:=vZ g2;rw[bQ (by rw[g2];simp)]at iV;refine cH zE ⟨m+1,f⟩ (dp f) ?_;exact cB [] ⟨rfl,rfl,rfl,rfl,rfl,rfl,rfl,c9 rfl w1,rfl,rfl,rfl,bP⟩ ⟨bV,bV,bV,⟨_,rfl,_,_,rfl,c9 rfl (by show cT (fJ S) (eA t d h k (jl t d k L m))=cT (fJ S) (eA t d h k (jl t d k L (m+1)));rw[iV,<- hs0,aI]),rfl⟩,bV,bP⟩
     have g1:gy (c.getD x.fr.toNat aH) (L+(m:Int))=false:=g1;rw[bQ (by rw[g1];simp)]at iV;refine cH zE ⟨m+1,f⟩ (dp f) ?_;exact cB [] ⟨rfl,rfl,rfl,rfl,rfl,rfl,rfl,c9 rfl w1,rfl,rfl,rfl,bP⟩ ⟨bV,bV,bV,⟨_,rfl,_,_,rfl,c9 rfl (by show cT (fJ S) (eA t d h k (jl t d k L m))=cT (fJ S) (eA t d h k (jl t d k L (m+1)));rw[iV,<- hs0,aI]),rfl⟩,bV,bP⟩
    have g:(!(eO t.dg k).any (iH (L+(m:Int))))=false:=g;have iV:cT (fJ S) (eA t d h k (jl t d k L (m+1)))=s0+0:=by
     rw[UC,bQ (by rw[mF,g];decide),a7,<- hs0,aI]
    refine cH zE ⟨m+1,f⟩ (dp f) ?_;exact cB [] ⟨rfl,rfl,rfl,rfl,rfl,rfl,rfl,c9 rfl w1,rfl,rfl,rfl,bP⟩ ⟨bV,bV,bV,⟨_,rfl,_,_,rfl,c9 rfl (by show cT (fJ S) (eA t d h k (jl t d k L m))=cT (fJ S) (eA t d h k (jl t d k L (m+1)));rw[iV,<- hs0,aI]),rfl⟩,bV,bP⟩
   have f:M=m:=by omega
   subst f;have hM3:=λq=>(ny M).2 q;have iT:eA t d h k (jl t d k L M)=eA t d h (k+1) []:=by
    rw[<-FB,UD ok (lo:=L) (k:=M)];intro u hu;obtain⟨u1,u2,u3,u4,u5⟩:=qn.1 hu;rw[<-hx]at u1 u2 u4;have h1:L<=u:=by omega
    refine⟨h1,?_⟩;have h2:=(ny (u-L).toNat).2 (by rw[aJ (by omega)];omega);omega
   by_cases f1:L+(M:Int)<x.stop
   .have f2:¬ L+(M:Int)+1+x.c7<=d.dead:=λq=>ar7 _ (hM3 ⟨f1,q⟩);refine cD zE (by show decide (L+(M:Int)<x.stop)=true;exact cw f1) (cj zE (zy x (L+(M:Int))) (b8 zE (by show decide (av.wrap (av.wrap (L+(M:Int)+1)+x.c7)<=d.dead)=false;rw[w2];exact dQ f2) (dt zE rfl zE (cH zE ⟨k+1,e⟩ (dp e) ?_))));exact cB [] ⟨rfl,rfl,rfl,rfl,rfl,rfl,rfl,c6 e,bP⟩ ⟨bV,bV,bV,⟨_,rfl,_,_,rfl,c9 rfl (by rw[<-iT]),rfl⟩,bP⟩
   refine b8 zE (by show decide (L+(M:Int)<x.stop)=false;exact dQ f1) (dt zE rfl zE (cH zE ⟨k+1,e⟩ (dp e) ?_));exact cB [] ⟨rfl,rfl,rfl,rfl,rfl,rfl,rfl,c6 e,bP⟩ ⟨bV,bV,bV,⟨_,rfl,_,_,rfl,c9 rfl (by rw[<-iT]),rfl⟩,bP⟩
  have e:t.bO.bW.length=k:=by omega
  subst e;rw[<-FC]at hR;exact b8 zE eF (dt zE rfl zE (cL zE rfl rfl (bY.of (by rw[hR]))))
 rw[bS a]at hR;exact cD zE (by show((c.length:Int)!=(t.bO.qs.length:Int))=true;exact bne_iff_ne.2 (by omega)) (cL zE rfl rfl (bY.of (by rw[hR])))
theorem zA(l:List cU):cJ ay 255 [.ip 3 (bT [fM l,.int .i64 l.length,.bool false])] (.cG [.int .i64 0,.bool false],none):=by
 refine c8 CM aB rfl ?_;refine cN zE ?_;exact cD zE (beq_self_eq_true _) (cL zE rfl rfl (bY.refl _))
def apT(x:cU):Bool->Int
 |true=>x.hi
 |false=>x.lo
theorem p8(l:List cU)(i:Nat)(h:i<l.length)(b:Bool):cJ ay 255 [.ip 3 (bT [fM l,.int .i64 i,.bool b])] (.cG [.int .i64 (apT (l.getD i aH) b),.bool true],none):=by
 refine c8 CM aB rfl ?_;refine cN zE ?_;refine b8 zE (by show((i:Int)==(l.length:Int))=false;exact jd (by omega)) ?_;cases b
 .refine b8 zE (rfl) (cN zE ?_);exact bU zE (cZ h) (cL zE rfl rfl (bY.refl _))
 refine cD zE (rfl) (cN zE ?_);exact bU zE (cZ h) (cL zE rfl rfl (bY.refl _))
noncomputable def CU:Cx:={ E:=EM,inl:=[127,254,256],ok:=qf }
theorem apU(a b:List cU):cJ ay 188 [fM a,fM b] (.fn 254 [.ip 1 (bT [fM a]),.ip 1 (bT [fM b])],none):=by
 refine c8 CM Tryz.func188 rfl ?_;exact cL zE rfl rfl (bY.refl _)
theorem C9(a b:Bool):cJ ay 128 [.bool a,.bool b] (.bool (a||b),none):=by
 refine c8 CM Tryz.func128 rfl ?_;cases a
 .exact b8 zE (rfl) (cL zE rfl rfl (bY.refl _))
 exact cD zE (rfl) (cL zE rfl rfl (bY.refl _))
def iq(l:List cU)(t:Int):List cU:=if l≠[]/\(l.getD (l.length-1) aH).hi=t then l.dropLast++[⟨(l.getD (l.length-1) aH).lo,t+1⟩]else l++[⟨t,t+1⟩]
theorem Da{l:List cU}(h:ja l=0):∀ k,k<=l.length->nM l k=0/\(k<l.length->vS (l.getD k aH)=true/\sQ (qV l k) (l.getD k aH)=false)
 |k,hk=>by
  have h0:nM l k=0:=by
   cases k with
   |zero=>rw[<-N7 (by have:=N8 h;exact dQ (by omega))];exact h
   |succ k=>
    obtain⟨h1,h2⟩:=Da h k (by omega);obtain⟨h3,h4⟩:=h2 (by omega);rw[<-He (by omega) h3 h4];exact h1
  refine⟨h0,λhl=>?_⟩;cases hv:vS (l.getD k aH)
  .rw[YO hl hv]at h0;exact dP h0 (by decide)
  cases hg:sQ (qV l k) (l.getD k aH)
  .exact⟨rfl,rfl⟩
  rw[YP hl hv hg]at h0;exact dP h0 (by decide)
theorem Hh{l:List cU}(h:ja l=0){k:Nat}(hk:k<l.length):(l.getD k aH).lo<(l.getD k aH).hi:=by
 have h1:=((Da h k (by omega)).2 hk).1;unfold vS at h1;simp only[aa,dN]at h1;omega
theorem apV{l:List cU}(h:ja l=0){k:Nat}(hk:k+1<l.length):(l.getD k aH).hi<(l.getD (k+1) aH).lo:=by
 have h1:=((Da h (k+1) (by omega)).2 hk).2;simpa[qV,sQ]using h1
theorem YU(P:List cU)(x:cU){i:Nat}(h:i=P.length)(y:Int):(P++[x]).set i ⟨((P++[x]).getD i aH).lo,y⟩=P++[⟨x.lo,y⟩]:=by
 subst h;simp[IS]
theorem apW{l:List cU}{t:Int}(h:∀ j,j<l.length->(l.getD j aH).hi≠t):iq l t=l++[⟨t,t+1⟩]:=by
 unfold iq;rw[bQ];rintro⟨h1,h2⟩;exact h _ (by have:=bx.2 h1;omega) h2
theorem Oa{l:List cU}{t:Int}{i:Nat}(hi:i+1=l.length)(h:(l.getD i aH).hi=t):iq l t=l.take i++[⟨(l.getD i aH).lo,t+1⟩]:=by
 have e:l.length-1=i:=by omega
 unfold iq;rw[e,bS ⟨by rintro rfl;simp at hi,h⟩,List.dropLast_eq_take,e]
theorem Oc(l:List cU)(t:Int):(iq l t).length<=l.length+1:=by
 unfold iq;split<;>simp
theorem YV(o:List cU){n:Nat}{x y:Int}(hn:n<o.length)(hx:x=y)(q j:Nat)(hj:j<2):(if q=n/\1<=j/\j<1+1 then bT [A.int .i64 x] (j-1)else cO cU.cells o q j)=cO cU.cells (o.set n ⟨(o.getD n aH).lo,y⟩) q j:=by
 subst hx;unfold cO;rw[x9 _ _ _ _ hn];by_cases h:q=n
 .subst h;rw[bS rfl]
  match j,hj with
  |0,_=>rw[bQ (by omega)];rfl
  |1,_=>rw[bS (by omega)];rfl
 rw[bQ (by omega),bQ h]
structure YW(l:List cU)(t:Int)(i:Nat)(s:Bool)(y:Int)(z:Bool)(o:List cU):Prop where
 hi:i<=l.length
 hs:s=true->i<l.length
 hy:y=0/\z=false/\(∀j,j<i->(l.getD j aH).hi≠t)/\o=l.take i++(if s then[⟨(l.getD i aH).lo,0⟩]else[])\/y=0/\z=true/\(i=l.length/\s=false)/\(∃p lo,o=p++[⟨lo,0⟩]/\iq l t=p++[⟨lo,t+1⟩])\/y=1/\z=false/\(i=l.length/\s=false)/\o=iq l t
theorem apX(l:List cU)(t:Int)(hc:ja l=0)(hl:l.length<=999)(ht:∀ x∈l,x.hi<=t)(h0:0<=t/\t<=1099511627776):cJ ay 73 [fM l,fM [⟨t,t+1⟩]] (.cG [fM (iq l t),.int .i64 0],none):=by
 refine c8 CU Tryz.func73 rfl ?_;refine cj zE (Hf l) (b8 zE (by rw[hc];rfl) (cj zE (Hf [⟨t,t+1⟩]) ?_));have B9:ja [(⟨t,t+1⟩:cU)]=0:=by
  unfold ja;rw[bQ (by simp),wh,bS (by simp only[vS,aa,dN];omega),bQ (by simp[sQ])];rfl
 refine b8 zE (by rw[B9];rfl) (cj zE (apU l [⟨t,t+1⟩]) (cN zE ?_));refine zG zE ?_;refine aF (σ:={ s:Nat×Bool×Int×Bool×List cU // YW l t s.1 s.2.1 s.2.2.1 s.2.2.2.1 s.2.2.2.2 }) (λs=>[(0,.dA 72),(4,.ptr 86 0),(5,.ptr 89 0)]) (λs=>[(19,.box [.own 73]),(20,.box [.bool (s.1.2.1||s.1.2.2.2.1)]),(73,.row 100 2 s.1.2.2.2.2.length (cO cU.cells s.1.2.2.2.2)),(86,.box [fM l,.int .i64 (s.1.1:Nat),.bool s.1.2.1]),(89,.box [fM [⟨t,t+1⟩],.int .i64 s.1.2.2.1,.bool s.1.2.2.2.1])]) (λs=>2*(l.length-s.1.1)+4-2*s.1.2.2.1.toNat-(if s.1.2.2.2.1 then 1 else 0)-(if s.1.2.1 then 1 else 0)) ⟨(0,false,0,false,[]),ar4 _,(λh=>by cases h),.inl ⟨rfl,rfl,(λj h=>dP h (ar3 j)),rfl⟩⟩ ?_ ?_
 .refine(oM 19 0 73 100 2 (cO cU.cells []) rfl rfl rfl).trans ?_;exact dD [] ⟨rfl,rfl,rfl,bP⟩ ⟨bV,⟨_,rfl,_,_,rfl,aoX rfl rfl,rfl⟩,df rfl rfl (λ_ _ _ _=>rfl),⟨_,rfl,_,_,rfl,rfl,_,_,rfl,rfl,_,_,rfl,mN rfl rfl,rfl⟩,⟨_,rfl,_,_,rfl,rfl,_,_,rfl,rfl,_,_,rfl,mN rfl rfl,rfl⟩,bP⟩
 rintro⟨⟨i,s,y,z,o⟩,inv⟩;have inw:YW l t i s y z o:=inv;obtain⟨hi,hs,⟨e1,e2,hn,ho⟩|⟨e1,e2,⟨e3,e4⟩,p,lo,ho,hu⟩|⟨e1,e2,⟨e3,e4⟩,ho⟩⟩:=inw
 .have hi:i<=l.length:=hi;subst e1 e2;by_cases a:i<l.length
  .have hx:=ht (l.getD i aH) (by rw[cV a];exact aV _);have hlh:(l.getD i aH).lo<(l.getD i aH).hi:=Hh hc a;cases s
   .refine cj zE (p8 l i a false) (cj zE (p8 [⟨t,t+1⟩] 0 ar2 false) ?_)
    repeat' (first|(refine b8 zE (rfl) ?_)|(refine cD zE (rfl) ?_)|(refine cN zE ?_))
    refine b8 zE (by show decide (t<(l.getD i aH).lo)=false;exact dQ (by omega)) (cj zE (p8 l i a false) ?_)
    repeat' (first|(refine b8 zE (rfl) ?_)|(refine cD zE (rfl) ?_)|(refine cN zE ?_))
    refine b8 zE (by show((l.getD i aH).lo !=(l.getD i aH).lo)=false;exact np _) ?_
    repeat' (first|(refine b8 zE (rfl) ?_)|(refine cD zE (rfl) ?_)|(refine cN zE ?_))
    refine cj zE (p8 [⟨t,t+1⟩] 0 ar2 false) ?_
    repeat' (first|(refine b8 zE (rfl) ?_)|(refine cD zE (rfl) ?_)|(refine cN zE ?_))
    refine cD zE (by show(t !=(l.getD i aH).lo)=true;exact bne_iff_ne.2 (by omega)) ?_
    repeat' (first|(refine b8 zE (rfl) ?_)|(refine cD zE (rfl) ?_)|(refine cN zE ?_))
    refine cj zE (C9 true false) ?_
    repeat' (first|(refine b8 zE (rfl) ?_)|(refine cD zE (rfl) ?_)|(refine cN zE ?_))
    rw[bQ (by simp),a7]at ho;subst ho;refine bU zE (cw (by show((l.take i).length+1)*(15+1+1)<=du;simp only[du];rw[bj];omega)) (cH zE ⟨(i,true,0,false,l.take i++[⟨(l.getD i aH).lo,0⟩]),⟨hi,λ_=>a,.inl ⟨rfl,rfl,hn,rfl⟩⟩⟩ (by show 2*(l.length-i)+4-2*(0:Int).toNat-0-1<2*(l.length-i)+4-2*(0:Int).toNat-0-0;omega) ?_);exact dD [(73,179)] ⟨rfl,rfl,rfl,bP⟩ ⟨bV,⟨_,rfl,_,_,rfl,mN rfl rfl,rfl⟩,df rfl (by simp) (λq hq w hw=>gE (cells:=cU.cells) (x:=⟨(l.getD i aH).lo,0⟩) rfl q (by simpa using hq) w hw),⟨_,rfl,_,_,rfl,rfl,_,_,rfl,rfl,_,_,rfl,mN rfl rfl,rfl⟩,⟨_,rfl,_,_,rfl,rfl,_,_,rfl,rfl,_,_,rfl,mN rfl rfl,rfl⟩,bP⟩
   refine cj zE (p8 l i a true) (cj zE (p8 [⟨t,t+1⟩] 0 ar2 false) ?_)
   repeat' (first|(refine b8 zE (rfl) ?_)|(refine cD zE (rfl) ?_)|(refine cN zE ?_))
   refine b8 zE (by show decide (t<(l.getD i aH).hi)=false;exact dQ (by omega)) (cj zE (p8 l i a true) ?_)
   repeat' (first|(refine b8 zE (rfl) ?_)|(refine cD zE (rfl) ?_)|(refine cN zE ?_))
   refine b8 zE (by show((l.getD i aH).hi !=(l.getD i aH).hi)=false;exact np _) ?_
   repeat' (first|(refine b8 zE (rfl) ?_)|(refine cD zE (rfl) ?_)|(refine cN zE ?_))
   refine cj zE (p8 [⟨t,t+1⟩] 0 ar2 false) ?_
   repeat' (first|(refine b8 zE (rfl) ?_)|(refine cD zE (rfl) ?_)|(refine cN zE ?_))
   by_cases g:(l.getD i aH).hi=t
   .refine b8 zE (by show(t !=(l.getD i aH).hi)=false;rw[g];exact np _) ?_
    repeat' (first|(refine b8 zE (rfl) ?_)|(refine cD zE (rfl) ?_)|(refine cN zE ?_))
    refine cj zE (C9 false true) ?_
    repeat' (first|(refine b8 zE (rfl) ?_)|(refine cD zE (rfl) ?_)|(refine cN zE ?_))
    have YX:i+1=l.length:=by
     refine Nat.le_antisymm a (Nat.le_of_not_lt λq=>?_);have q1:=apV hc q;have q2:=Hh hc q;have q3:=ht (l.getD (i+1) aH) (by rw[cV q];exact aV _);omega
    refine cH zE ⟨(i+1,false,0,true,o),⟨a,(λh=>by cases h),.inr (.inl ⟨rfl,rfl,⟨YX,rfl⟩,_,_,ho,Oa YX g⟩)⟩⟩ (by show 2*(l.length-(i+1))+4-2*(0:Int).toNat-1-0<2*(l.length-i)+4-2*(0:Int).toNat-0-1;omega) ?_;exact dD [] ⟨rfl,rfl,rfl,bP⟩ ⟨bV,⟨_,rfl,_,_,rfl,mN rfl rfl,rfl⟩,df rfl rfl (λq hq w hw=>rfl),⟨_,rfl,_,_,rfl,rfl,_,_,rfl,c6 a,_,_,rfl,mN rfl rfl,rfl⟩,⟨_,rfl,_,_,rfl,rfl,_,_,rfl,rfl,_,_,rfl,mN rfl rfl,rfl⟩,bP⟩
   refine cD zE (by show(t !=(l.getD i aH).hi)=true;exact bne_iff_ne.2 (by omega)) ?_
   repeat' (first|(refine b8 zE (rfl) ?_)|(refine cD zE (rfl) ?_)|(refine cN zE ?_))
   refine cj zE (C9 false false) ?_
   repeat' (first|(refine b8 zE (rfl) ?_)|(refine cD zE (rfl) ?_)|(refine cN zE ?_))
   rw[bS rfl]at ho;have AZ:o.length=i+1:=by rw[ho,aW,bj,ba];omega
   have e1:av.wrap ((o.length:Int)-1)=(i:Nat):=by rw[AZ,dG];omega
   have e2:l.take (i+1)=o.set (av.wrap ((o.length:Int)-1)).toNat ⟨(o.getD (av.wrap ((o.length:Int)-1)).toNat aH).lo,(l.getD i aH).hi⟩:=by rw[e1,aK,ho,YU _ _ (by rw[bj];omega),gg a]
   refine bU zE (by show decide (0<=av.wrap ((o.length:Int)-1)/\av.wrap ((o.length:Int)-1)<(o.length:Int))=true;rw[e1];exact cw (by omega)) (bU zE (by show decide ((av.wrap ((o.length:Int)-1)).toNat<o.length)=true;rw[e1];exact cw (by omega)) ?_);have MQ:∀ j,j<i+1->(l.getD j aH).hi≠t:=λj hj=>by
    by_cases q:j=i
    .rw[q];exact g
    exact hn j (by omega)
   refine cH zE ⟨(i+1,false,0,false,l.take (i+1)),⟨a,(λh=>by cases h),.inl ⟨rfl,rfl,MQ,(a7 _).symm⟩⟩⟩ (by show 2*(l.length-(i+1))+4-2*(0:Int).toNat-0-0<2*(l.length-i)+4-2*(0:Int).toNat-0-1;omega) ?_;exact dD [] ⟨rfl,rfl,rfl,bP⟩ ⟨bV,⟨_,rfl,_,_,rfl,mN rfl rfl,rfl⟩,df rfl (by show o.length=(l.take (i+1)).length;rw[AZ,bj];omega) (λq hq w hw=>by show _=cO cU.cells (l.take (i+1)) q w;rw[e2];exact YV o (n:=(av.wrap ((o.length:Int)-1)).toNat) (by rw[e1,aK];omega) rfl q w hw),⟨_,rfl,_,_,rfl,rfl,_,_,rfl,c6 a,_,_,rfl,mN rfl rfl,rfl⟩,⟨_,rfl,_,_,rfl,rfl,_,_,rfl,rfl,_,_,rfl,mN rfl rfl,rfl⟩,bP⟩
  have a:l.length=i:=by omega
  subst a;have hs:s=false:=by cases s;rfl;exact dP (hs rfl) (ar7 _)
  subst hs;refine cj zE (zA l) (cj zE (p8 [⟨t,t+1⟩] 0 ar2 false) ?_)
  repeat' (first|(refine b8 zE (rfl) ?_)|(refine cD zE (rfl) ?_)|(refine cN zE ?_))
  refine cj zE (zA l) ?_
  repeat' (first|(refine b8 zE (rfl) ?_)|(refine cD zE (rfl) ?_)|(refine cN zE ?_))
  refine cj zE (p8 [⟨t,t+1⟩] 0 ar2 false) ?_
  repeat' (first|(refine b8 zE (rfl) ?_)|(refine cD zE (rfl) ?_)|(refine cN zE ?_))
  refine b8 zE (by show(t !=t)=false;exact np _) ?_
  repeat' (first|(refine b8 zE (rfl) ?_)|(refine cD zE (rfl) ?_)|(refine cN zE ?_))
  refine cj zE (C9 false true) ?_
  repeat' (first|(refine b8 zE (rfl) ?_)|(refine cD zE (rfl) ?_)|(refine cN zE ?_))
  rw[bQ (by simp),a7,bk]at ho;have LW:o=l:=ho;subst LW;refine bU zE (cw (by show(o.length+1)*(15+1+1)<=du;simp only[du];omega)) (cH zE ⟨(o.length,false,0,true,o++[⟨t,0⟩]),⟨ar1 _,(λh=>by cases h),.inr (.inl ⟨rfl,rfl,⟨rfl,rfl⟩,o,t,rfl,apW hn⟩)⟩⟩ (by show 2*(o.length-o.length)+4-2*(0:Int).toNat-1-0<2*(o.length-o.length)+4-2*(0:Int).toNat-0-0;omega) ?_);exact dD [(73,179)] ⟨rfl,rfl,rfl,bP⟩ ⟨bV,⟨_,rfl,_,_,rfl,mN rfl rfl,rfl⟩,df rfl (by simp) (λq hq w hw=>gE (cells:=cU.cells) (x:=⟨t,0⟩) rfl q (by simpa using hq) w hw),⟨_,rfl,_,_,rfl,rfl,_,_,rfl,rfl,_,_,rfl,mN rfl rfl,rfl⟩,⟨_,rfl,_,_,rfl,rfl,_,_,rfl,rfl,_,_,rfl,mN rfl rfl,rfl⟩,bP⟩
 .have e3:i=l.length:=e3;subst e1 e2 e3 e4;refine cj zE (zA l) (cj zE (p8 [⟨t,t+1⟩] 0 ar2 true) ?_)
  repeat' (first|(refine b8 zE (rfl) ?_)|(refine cD zE (rfl) ?_)|(refine cN zE ?_))
  refine cj zE (zA l) ?_
  repeat' (first|(refine b8 zE (rfl) ?_)|(refine cD zE (rfl) ?_)|(refine cN zE ?_))
  refine cj zE (p8 [⟨t,t+1⟩] 0 ar2 true) ?_
  repeat' (first|(refine b8 zE (rfl) ?_)|(refine cD zE (rfl) ?_)|(refine cN zE ?_))
  refine b8 zE (by show(t+1 !=t+1)=false;exact np _) ?_
  repeat' (first|(refine b8 zE (rfl) ?_)|(refine cD zE (rfl) ?_)|(refine cN zE ?_))
  refine cj zE (C9 false false) ?_
  repeat' (first|(refine b8 zE (rfl) ?_)|(refine cD zE (rfl) ?_)|(refine cN zE ?_))
  have ho:o=p++[⟨lo,0⟩]:=ho;have AZ:o.length=p.length+1:=by rw[ho,aW,ba]
  have nU:p.length<=l.length:=by have:=Oc l t;rw[hu,aW,ba]at this;omega
  have e1:av.wrap ((o.length:Int)-1)=(p.length:Nat):=by rw[AZ,dG];omega
  have e2:iq l t=o.set (av.wrap ((o.length:Int)-1)).toNat ⟨(o.getD (av.wrap ((o.length:Int)-1)).toNat aH).lo,t+1⟩:=by rw[e1,aK,ho,YU _ _ rfl,hu]
  refine bU zE (by show decide (0<=av.wrap ((o.length:Int)-1)/\av.wrap ((o.length:Int)-1)<(o.length:Int))=true;rw[e1];exact cw (by omega)) (bU zE (by show decide ((av.wrap ((o.length:Int)-1)).toNat<o.length)=true;rw[e1];exact cw (by omega)) (cH zE ⟨(l.length,false,1,false,iq l t),⟨ar1 _,(λh=>by cases h),.inr (.inr ⟨rfl,rfl,⟨rfl,rfl⟩,rfl⟩)⟩⟩ (by show 2*(l.length-l.length)+4-2*(1:Int).toNat-0-0<2*(l.length-l.length)+4-2*(0:Int).toNat-1-0;simp) ?_));exact dD [] ⟨rfl,rfl,rfl,bP⟩ ⟨bV,⟨_,rfl,_,_,rfl,mN rfl rfl,rfl⟩,df rfl (by show o.length=(iq l t).length;rw[e2,api]) (λq hq w hw=>by show _=cO cU.cells (iq l t) q w;rw[e2];exact YV o (n:=(av.wrap ((o.length:Int)-1)).toNat) (by rw[e1,aK];omega) rfl q w hw),⟨_,rfl,_,_,rfl,rfl,_,_,rfl,rfl,_,_,rfl,mN rfl rfl,rfl⟩,⟨_,rfl,_,_,rfl,rfl,_,_,rfl,c9 rfl rfl,_,_,rfl,mN rfl rfl,rfl⟩,bP⟩
 have e3:i=l.length:=e3;subst e1 e2 e3 e4;refine cj zE (zA l) (cj zE (zA [⟨t,t+1⟩]) ?_)
 repeat' (first|(refine b8 zE (rfl) ?_)|(refine cD zE (rfl) ?_)|(refine cN zE ?_))
 refine dt zE rfl zE ?_;have ho:o=iq l t:=ho;have h1:=Oc l t;subst ho;refine b8 zE (by show decide (((iq l t).length:Int)>1000)=false;exact dQ (by omega)) ?_;exact zG zE (aD rfl rfl (bY.refl _))
theorem apY{l:List cU}(hl:l.length<=1000)(h:∀ k,k<l.length->vS (l.getD k aH)=true/\sQ (qV l k) (l.getD k aH)=false):ja l=0:=by
 have h1:∀ n k,k+n=l.length->nM l k=0:=by
  intro n
  induction n with
  |zero=>intro k hk;exact YQ (by omega)
  |succ n ih=>
   intro k hk;obtain⟨a,b⟩:=h k (by omega);rw[He (by omega) a b];exact ih (k+1) (by omega)
 rw[N7 (dQ (by omega))];exact h1 l.length 0 (by omega)
theorem YY{l:List cU}{i k:Nat}{y:cU}(hi:i<=l.length)(hk:k<i):(l.take i++[y]).getD k aH=l.getD k aH:=by
 rw[cV (show k<(l.take i++[y]).length by simp;omega),cV (show k<l.length by omega),AT (by rw[bj];omega),bI]
theorem apZ{l:List cU}{i:Nat}{y:cU}(hi:i<=l.length):(l.take i++[y]).getD i aH=y:=by
 rw[cV (show i<(l.take i++[y]).length by simp;omega),AS (by rw[bj];omega)];simp
theorem YZ{l:List cU}{i:Nat}{y:cU}(hc:ja l=0)(hi:i<=l.length)(hl:i<=999)(hy:vS y=true)(hg:sQ (qV l i) y=false):ja (l.take i++[y])=0:=by
 have hlen:(l.take i++[y]).length=i+1:=by rw[aW,bj,ba];omega
 have hpv:∀ k,k<=i->qV (l.take i++[y]) k=qV l k:=λk hk=>by
  cases k with
  |zero=>rfl
  |succ k=>show some _=some _;rw[YY hi (by omega)]
 refine apY (by omega) λk hk=>?_;rw[hpv k (by omega)];by_cases a:k<i
 .rw[YY hi a];exact(Da hc k (by omega)).2 (by omega)
 have:k=i:=by omega
 subst this;rw[apZ hi];exact⟨hy,hg⟩
theorem Y0{x:cU}(h1:x.lo<x.hi)(h2:-1152921504606846976<=x.lo)(h3:x.hi<=1152921504606846976):vS x=true:=by
 unfold vS;simp only[aa,dN];omega
theorem Y1{l:List cU}{t:Int}(hc:ja l=0)(hl:l.length<=999)(ht:∀ x∈l,x.hi<=t)(h0:0<=t/\t<=1099511627776):ja (iq l t)=0:=by
 by_cases g:l≠[]/\(l.getD (l.length-1) aH).hi=t
 .obtain⟨g1,g2⟩:=g;have hp:=bx.2 g1;rw[Oa (i:=l.length-1) (by omega) g2];obtain⟨a,b⟩:=(Da hc (l.length-1) (by omega)).2 (by omega);have hlo:=Hh hc (k:=l.length-1) (by omega);refine YZ hc (by omega) (by omega) (Y0 (by show(l.getD (l.length-1) aH).lo<t+1;omega) ?_ (by show t+1<=_;omega)) b;unfold vS at a;simp only[aa,dN]at a;show _<=(l.getD (l.length-1) aH).lo;omega
 have e:iq l t=l.take l.length++[⟨t,t+1⟩]:=by unfold iq;rw[bQ g,bk]
 rw[e];refine YZ hc (ar1 _) hl (Y0 (by show t<t+1;omega) (by show _<=t;omega) (by show t+1<=_;omega)) ?_;cases hn:l.length with
 |zero=>rfl
 |succ n=>
  have h1:=ht (l.getD n aH) (by rw[cV (by omega)];exact aV _);have h2:(l.getD n aH).hi≠t:=λq=>g ⟨by rintro rfl;simp at hn,by rw[hn];exact q⟩;show decide (t<=(l.getD n aH).hi)=false;exact dQ (by omega)
theorem Y2{l:List cU}{t:Int}(ht:∀ x∈l,x.hi<=t):∀ x∈iq l t,x.hi<=t+1:=by
 intro x hx;unfold iq at hx;split at hx
 .rcases bc.1 hx with h|h
  .have:=ht x (No l h);omega
  rw[aX.1 h];exact aM _
 rcases bc.1 hx with h|h
 .have:=ht x h;omega
 rw[aX.1 h];exact aM _
theorem ap0{l:List cU}{t:Int}(hc:ja l=0)(hl:l.length<=999)(ht:∀ x∈l,x.hi<=t)(h0:0<=t/\t<=1099511627776)(u:Int):gy (iq l t) u=(gy l u||decide (u=t)):=by
 have hu:=Y1 hc hl ht h0;unfold gy;rw[hu,hc];by_cases g:l≠[]/\(l.getD (l.length-1) aH).hi=t
 .obtain⟨g1,g2⟩:=g;have hp:=bx.2 g1;have hlo:=Hh hc (k:=l.length-1) (by omega);have e1:l=l.take (l.length-1)++[l.getD (l.length-1) aH]:=by
   rw[<-gg (by omega),show l.length-1+1=l.length by omega,bk]
  rw[Oa (i:=l.length-1) (by omega) g2]
  conv=>rhs;rw[e1]
  simp only[Ka,bE,By,IT,aj,iH,Bool.or_assoc,beq_self_eq_true,ab];congr 1;rw[g2]at hlo⊢;rw[ae];simp only[aa,al,dN];omega
 have e:iq l t=l++[⟨t,t+1⟩]:=by unfold iq;rw[bQ g]
 rw[e];simp only[Ka,bE,By,IT,aj,iH,beq_self_eq_true,ab];congr 1;rw[ae];simp only[aa,dN];omega
def qX(d:cA)(h:Nat)(c:List (List cU))(v:Nat):List (List cU):=c.set (v/h) (iq (c.getD (v/h) aH) (d.ready+(v%h:Nat)))
def ir(d:cA)(h n:Nat)(S:List Nat):List (List cU):=S.foldl (qX d h) (List.replicate n [])
theorem Hi(d:cA)(h n:Nat)(S:List Nat)(v:Nat):ir d h n (S++[v])=qX d h (ir d h n S) v:=by
 unfold ir;rw[List.foldl_append];rfl
theorem Db(d:cA)(h n k:Nat):(ir d h n []).getD k aH=[]:=by
 unfold ir;rw[List.foldl_nil];by_cases a:k<n
 .rw[cV (by simpa using a),List.getElem_replicate]
 rw[IS,List.getElem?_eq_none (by simpa using a)];rfl
structure Y3(d:cA)(h n:Nat)(c:List (List cU))(m:Nat)(R:List Nat):Prop where
 len:c.length=n
 ok:∀ k,k<n->ja (c.getD k aH)=0/\(c.getD k aH).length<=m
 hi:∀ k,k<n-> ∀x∈c.getD k aH,∀ v∈R,v/h=k->x.hi<=d.ready+(v%h:Nat)
theorem xg{d:cA}{h n:Nat}{S:List Nat}(hr:0<=d.ready)(hd:d.ready+(h:Int)<=1099511627777)(hh:0<h)(hp:S.Pairwise (· < ·))(hS:∀ v∈S,v<n*h)(hl:S.length<=999):∀ j,j<=S.length->Y3 d h n (ir d h n (S.take j)) j (S.drop j)
 |0,_=>by
  rw[bG];refine⟨by unfold ir;simp,λk hk=>?_,λk hk x hx=>?_⟩
  .rw[Db];exact⟨rfl,ar1 _⟩
  rw[Db]at hx;cases hx
 |j+1,hj=>by
  have ih:=xg hr hd hh hp hS hl j (by omega);have hj:j<S.length:=hj;rw[gg hj,Hi];obtain⟨v,hv⟩:∃ v,v=S.getD j aH:=⟨_,rfl⟩;obtain⟨c,hc⟩:∃ c,c=ir d h n (S.take j):=⟨_,rfl⟩;rw[<-hv,<- hc];rw[<-hc,drop_cons hj,<- hv]at ih;have tR:v<n*h:=hS v (by rw[hv,cV hj];exact aV _);have hA:v/h<n:=(ar5 hh).2 tR;have hB:v%h<h:=ar9 _ hh;obtain⟨i1,i2⟩:=ih.ok _ hA;have i3:=λx hx=>ih.hi _ hA x hx v aY rfl;have mL:∀ w∈S.drop (j+1),v<w:=by
   have h1:(S.drop j).Pairwise (· < ·):=hp.sublist (List.drop_sublist j S);rw[drop_cons hj,<- hv,bH]at h1;exact h1.1
  have get:∀ k,(qX d h c v).getD k aH=if k=v/h then iq (c.getD (v/h) aH) (d.ready+(v%h:Nat))else c.getD k aH:=λk=>by
   unfold qX;exact x9 _ _ _ _ (by rw[ih.len];exact hA)
  refine⟨by unfold qX;rw[api,ih.len],λk hk=>?_,λk hk x hx w hw he=>?_⟩
  .rw[get];by_cases e:k=v/h
   .rw[bS e];exact⟨Y1 i1 (by omega) i3 (by omega),by have:=Oc (c.getD (v/h) aH) (d.ready+(v%h:Nat));omega⟩
   rw[bQ e];have:=ih.ok k hk;exact⟨this.1,by omega⟩
  rw[get]at hx;by_cases e:k=v/h
  .rw[bS e]at hx;have h1:=Y2 i3 x hx;have h2:=mL w hw;have h3:v%h<w%h:=by
    have a1:=ar6 v h;have a2:=ar6 w h;rw[he,e]at a2;omega
   omega
  rw[bQ e]at hx;exact ih.hi k hk x hx w (a6 _ hw) he
theorem Y4{d:cA}{h n:Nat}{S:List Nat}(hr:0<=d.ready)(hd:d.ready+(h:Int)<=1099511627777)(hh:0<h)(hp:S.Pairwise (· < ·))(hS:∀ v∈S,v<n*h)(hl:S.length<=999){k i:Nat}(hk:k<n)(hi:i<h):∀ j,j<=S.length->gy ((ir d h n (S.take j)).getD k aH) (d.ready+(i:Nat))=decide (k*h+i∈S.take j)
 |0,_=>by
  rw[bG,Db];exact(dQ (by simp)).symm
 |j+1,hj=>by
  have ih:=Y4 hr hd hh hp hS hl hk hi j (by omega);have inv:=xg hr hd hh hp hS hl j (by omega);have hj:j<S.length:=hj;rw[gg hj,Hi];obtain⟨v,hv⟩:∃ v,v=S.getD j aH:=⟨_,rfl⟩;obtain⟨c,hc⟩:∃ c,c=ir d h n (S.take j):=⟨_,rfl⟩;rw[<-hv,<- hc];rw[<-hc]at ih inv;rw[drop_cons hj,<- hv]at inv;have tR:v<n*h:=hS v (by rw[hv,cV hj];exact aV _);have hA:v/h<n:=(ar5 hh).2 tR;have hB:v%h<h:=ar9 _ hh;have a1:=ar6 v h;obtain⟨i1,i2⟩:=inv.ok _ hA;have i3:=λx hx=>inv.hi _ hA x hx v aY rfl;have get:(qX d h c v).getD k aH=if k=v/h then iq (c.getD (v/h) aH) (d.ready+(v%h:Nat))else c.getD k aH:=by
   unfold qX;exact x9 _ _ _ _ (by rw[inv.len];exact hA)
  rw[get];by_cases e:k=v/h
  .rw[bS e,ap0 i1 (by omega) i3 (by omega),<- e,ih];rw[ae];simp only[al,dN,bc,aX];refine or_congr Iff.rfl ?_;rw[<-e,ase h k]at a1;omega
  rw[bQ e,ih];rw[ae];simp only[dN,bc,aX];refine⟨.inl,λq=>q.elim id λq=>dP ?_ e⟩;rw[<-q,ase k h,asj hh,asi hi,ar8]
theorem ap1{l:List cU}{t b:Int}(hb:∀ x∈l,b<=x.lo)(ht:b<=t):∀ x∈iq l t,b<=x.lo:=by
 intro x hx;unfold iq at hx;split at hx
 .rename_i g;rcases bc.1 hx with h|h
  .exact hb x (No l h)
  rw[aX.1 h];have hp:=bx.2 g.1;exact hb (l.getD (l.length-1) aH) (by rw[cV (show l.length-1<l.length by omega)];exact aV _)
 rcases bc.1 hx with h|h
 .exact hb x h
 rw[aX.1 h];exact ht
section
variable {d:cA} {h n:Nat} {S:List Nat} (hr:0<=d.ready) (hd:d.ready+(h:Int)<=1099511627777) (hh:0<h) (hp:S.Pairwise (· < ·)) (hS:∀ v∈S,v<n*h) (hl:S.length<=999)
include hr hd hh hp hS hl
theorem Y5{k:Nat}(hk:k<n):∀ j,j<=S.length-> ∀x∈(ir d h n (S.take j)).getD k aH,d.ready<=x.lo/\x.hi<=d.ready+(h:Int)
 |0,_=>by
  intro x hx;rw[bG,Db]at hx;cases hx
 |j+1,hj=>by
  have ih:=Y5 hk j (by omega);have inv:=xg hr hd hh hp hS hl j (by omega);have hj:j<S.length:=hj;rw[gg hj,Hi];obtain⟨v,hv⟩:∃ v,v=S.getD j aH:=⟨_,rfl⟩;obtain⟨c,hc⟩:∃ c,c=ir d h n (S.take j):=⟨_,rfl⟩;rw[<-hv,<- hc];rw[<-hc]at ih inv;rw[drop_cons hj,<- hv]at inv;have tR:v<n*h:=hS v (by rw[hv,cV hj];exact aV _);have hA:v/h<n:=(ar5 hh).2 tR;have hB:v%h<h:=ar9 _ hh;have i3:=λx hx=>inv.hi _ hA x hx v aY rfl;have get:(qX d h c v).getD k aH=if k=v/h then iq (c.getD (v/h) aH) (d.ready+(v%h:Nat))else c.getD k aH:=by
   unfold qX;exact x9 _ _ _ _ (by rw[inv.len];exact hA)
  rw[get];intro x hx;by_cases e:k=v/h
  .rw[bS e]at hx;rw[e]at ih;have h1:=Y2 i3 x hx;have h2:=ap1 (b:=d.ready) (λy hy=>(ih y hy).1) (by omega) x hx;omega
  rw[bQ e]at hx;exact ih x hx
end
theorem Y6{α:Type}{f g:α->Int}:∀ {L:List α},(∀a∈L,f a=g a)->cT f L=cT g L
 |[],_=>rfl
 |a::L,h=>by rw[cT,cT,h a aY,Y6 λb hb=>h b (a6 _ hb)]
theorem ap2{t:cE}{d:cA}{h:Nat}{S:List Nat}(hd:gB t.bO.qs.length d)(hH:d.dead=d.ready+h-1/\2<=h/\h<=25)(hA:∀ a∈dq t d h,mh (t.bO.qs.length*h) a)(hp:S.Pairwise (· < ·))(hS:∀ v∈S,v<t.bO.qs.length*h)(hl:S.length<=999)(h1:d.src.toNat*h∈S)(h2:d.dst.toNat*h+(h-1)∉S):xf t d h (ir d h t.bO.qs.length S)=(nr (b9 (dq t d h)) (lR S),0):=by
 have hr:=hd.ready;have iZ:=hd.dead;have hh:0<h:=by omega
 have Dc:d.ready+(h:Int)<=1099511627777:=by omega
 have inv:=xg hr Dc hh hp hS hl S.length (ar1 _);have c7:=λk hk=>Y5 hr Dc hh hp hS hl (k:=k) hk S.length (ar1 _);have has:=λk i hk hi=>Y4 hr Dc hh hp hS hl (k:=k) (i:=i) hk hi S.length (ar1 _);rw[bk]at inv c7 has;have hs:d.src.toNat<t.bO.qs.length:=by have:=hd.src;omega
 have ht:d.dst.toNat<t.bO.qs.length:=by have:=hd.dst;omega
 have Y7:∀ v,v<t.bO.qs.length*h->C8 d h (ir d h t.bO.qs.length S) v=lR S v:=λv hv=>by
  unfold C8 lR;rw[has _ _ ((ar5 hh).2 hv) (ar9 _ hh),ase,ar6];rw[ae];simp
 unfold xf;rw[bQ (by rw[inv.len];exact λq=>q rfl),bQ,bQ]
 .congr 1;rw[US];exact Y6 λa ha=>by have ok:=hA a ha;have h1:=ok.fr;have h2:=ok.to;unfold fJ;rw[Y7 _ (by omega),Y7 _ (by omega)]
 .rintro(q|q)
  .have:=has d.src.toNat 0 hs hh;rw[ar8,cw h1]at this;simp only[Int.natCast_zero,aI]at this;rw[this]at q;cases q
  have:=has d.dst.toNat (h-1) ht (by omega);rw[show d.ready+((h-1:Nat):Int)=d.dead by omega,dQ h2]at this;rw[this]at q;cases q
 rw[ak,bJ];intro l hl2;obtain⟨k,hk,rfl⟩:=bn hl2;rw[<-cV hk];rw[inv.len]at hk;have ok:=inv.ok k hk;have hx:=c7 k hk;obtain⟨m,hm⟩:∃ m,m=(ir d h t.bO.qs.length S).getD k aH:=⟨_,rfl⟩;rw[<-hm]at ok hx⊢;unfold qW;rw[ok.1];by_cases e:0<m.length
 .have a1:=hx (m.getD 0 aH) (by rw[cV e];exact aV _);have a2:=hx (m.getD (m.length-1) aH) (by rw[cV (show m.length-1<m.length by omega)];exact aV _);rw[dQ (show¬(m.getD 0 aH).lo<d.ready by omega),dQ (show¬(m.getD (m.length-1) aH).hi>d.dead+1 by omega)];simp
 rw[dQ (by omega)];simp
def Od(l:List dC):Ob:=.row 88 3 l.length (cO dC.cells l)
def o9(F:Nat->Int)(y:XA)(i:Nat):List dC:=if 0<=y.ct/\0<F i then[⟨y.ct,y.tm,F i⟩]else[]
def fB(F:Nat->Int)(l:List XA):List dC:=(a8 l.length).flatMap λi=>o9 F (l.getD i aH) i
theorem Oe(F:Nat->Int)(l:List XA)(y:XA):fB F (l++[y])=fB F l++o9 F y l.length:=by
 unfold fB;rw[aW,ba,bM,bu];congr 1
 .rw[abi,abi];refine fU List.flatten (List.map_congr_left λi hi=>?_);have hi:=aZ.1 hi;rw[cV hi,cV (show i<(l++[y]).length by simp;omega),AT hi]
 rw[BY,cV (show l.length<(l++[y]).length by simp),AS (ar1 _)];simp
theorem Of(t:cE)(d:cA)(h n:Nat)(F:Nat->Int):fB F (dV t d h n)=[]:=by
 unfold fB;rw[List.flatMap_eq_nil_iff];intro i hi;have hi:=aZ.1 hi;have hy:(dV t d h n).getD i aH∈dV t d h n:=by rw[cV hi];exact aV _
 obtain⟨j,_,_,e⟩:=wq.1 hy;unfold o9;rw[e,bQ (by rintro⟨c,_⟩;have c:(0:Int)<= -1:=c;omega)]
def fT(t:cE)(d:cA)(h k:Nat)(l:List Int):List XA:=dV t d h (t.bO.qs.length*h)++(a8 k).flatMap (iz t d h)++l.map (cX t d h k)
theorem ap3(t:cE)(d:cA)(h k:Nat)(l:List Int):(fT t d h k l).length=(eA t d h k l).length:=by unfold eA fT;rw[bd]
theorem Og(t:cE)(d:cA)(h:Nat):fT t d h 0 []=dV t d h (t.bO.qs.length*h):=by unfold fT;simp
theorem ap4(t:cE)(d:cA)(h k:Nat)(l:List Int)(u:Int):fT t d h k (l++[u])=fT t d h k l++[cX t d h k u]:=by
 unfold fT;rw[bh,<- bp];rfl
theorem ap5(t:cE)(d:cA)(h k:Nat):fT t d h k (mA t d k)=fT t d h (k+1) []:=by
 unfold fT;rw[bM,bu,bL,a7,bp];simp[iz]
theorem ap6(t:cE)(d:cA)(h:Nat):fT t d h t.bO.bW.length []=dy t d h:=by
 unfold fT dy;rw[bL,a7]
theorem ap7(t:cE)(d:cA)(h:Nat){k:Nat}(hk:k<t.bO.bW.length){l m:List Int}(e:l++m=mA t d k):∃ r,fT t d h k l++r=dy t d h:=by
 obtain⟨n,hn⟩:∃ n,t.bO.bW.length=(k+1)+n:=⟨t.bO.bW.length-(k+1),by omega⟩;refine⟨m.map (cX t d h k)++((a8 n).map (k+1+ ·)).flatMap (iz t d h),?_⟩;unfold fT dy;rw[hn,arc,bu,bM,bu];have e2:[k].flatMap (iz t d h)=l.map (cX t d h k)++m.map (cX t d h k):=by
  rw[BY,iz,<- e,bh]
 rw[e2];simp only[bp]
theorem ap8{t:cE}{d:cA}{k j m:Nat}(hj:j<(ec t.bO t.dg k).length)(hm:m<=(mz d (t.bO.bW.getD k aH).c7 ((ec t.bO t.dg k).getD j aH)-l7 d ((ec t.bO t.dg k).getD j aH)).toNat):∃ r,eC t d k j m++r=mA t d k:=by
 obtain⟨n,hn⟩:=Nat.exists_eq_add_of_le hm;refine⟨(a8 n).map (λi=>l7 d ((ec t.bO t.dg k).getD j aH)+(m+i:Nat))++((ec t.bO t.dg k).drop (j+1)).flatMap (rJ d (t.bO.bW.getD k aH).c7),?_⟩;have e1:mA t d k=eC t d k (j+1) 0++((ec t.bO t.dg k).drop (j+1)).flatMap (rJ d (t.bO.bW.getD k aH).c7):=by
  unfold eC mA;rw[List.range_zero,bL,a7,<- bu,List.take_append_drop]
 rw[e1,BB hj,hn,<- bp];congr 1;unfold eC;rw[arc,bh,List.map_map,bp];rfl
theorem ap9(F:Nat->Int)(l:List XA):(fB F l).length<=l.length:=by
 have:=yD (L:=a8 l.length) (f:=λi=>o9 F (l.getD i aH) i) (n:=1) λi _=>by unfold o9;split<;>simp
 rw[bg,Nat.mul_one]at this;exact this
theorem aqa(t:cE)(d:cA)(h:Nat)(F:List Int)(ht:fW t=0)(hd:gB t.bO.qs.length d)(hq:t.bO.qs.length<=6)(hH:d.dead=d.ready+h-1/\2<=h/\h<=25)(hal:(dq t d h).length<=20000)(hA:∀ a∈dq t d h,mh (t.bO.qs.length*h) a)(hsv:d.src.toNat*h<t.bO.qs.length*h)(MZ:d.dst.toNat*h+(h-1)<t.bO.qs.length*h)(hst:d.src.toNat*h≠d.dst.toNat*h+(h-1))(hF:F.length=(dq t d h).length)(hf:iO (b9 (dq t d h)) (t.bO.qs.length*h) (d.src.toNat*h) (d.dst.toNat*h+(h-1)) (eE F)):cJ ay 37 [.agg t.cells,.agg d.cells,eD F] (.cG [kC (fB (eE F) (dy t d h)),.int .i64 0],none):=by
 have hh:d.dead-d.ready<=24:=by omega
 have n1:((d.src.toNat*h:Nat):Int)=eR d.ready h [d.src,d.ready]:=by have:=pH d.ready h d.src.toNat 0;rw[aJ hd.src.1,ar8]at this;rw[<-this];simp
 have n2:((d.dst.toNat*h+(h-1):Nat):Int)=eR d.ready h [d.dst,d.dead]:=by have:=pH d.ready h d.dst.toNat (h-1);rw[aJ hd.dst.1,show d.ready+((h-1:Nat):Int)=d.dead by omega]at this;exact this.symm
 obtain⟨r,hr⟩:∃ r,r=d.ready:=⟨_,rfl⟩;have mO:=hd.ready;have hrd:=hd.dead;have jg:=kS ht;have hb:=KN ht;have dF:=jg.b.len;have hc:=jg.p.m;refine c8 E3 Tryz.func37 rfl ?_;refine cj zE (KF t d ht hd) (b8 zE (rfl) ?_);refine eG zE t.bO.qs.length (λk=>[(3,.ptr 73 0),(6,.ptr 88 0),(22,.int .i64 t.bO.qs.length),(23,.int .i64 (k:Nat))]) (λk=>[(73,.box d.cells),(86,wt d.ready h ((k*h:Nat):Int)),(88,.box (rN t d (.own 130) (.dA 86))),(130,rowP d.ready h (k*h))]) ?_ ?_
 .refine(oM 88 9 130 188 2 (λi j=>bT (mB d.ready h i) j) rfl rfl rfl).trans ?_;exact dD [] ⟨rfl,rfl,rfl,rfl,bP⟩ ⟨bV,⟨_,_,_,rfl,rfl,λq hq=>KI d.ready h hq⟩,⟨_,rfl,om _ _ _ rfl rfl⟩,df rfl (by show 0=0*h;omega) (λq hq=>dP hq (by show¬q<0*h;omega)),bP⟩
 rintro⟨k,(hk:k<=t.bO.qs.length)⟩;by_cases a:k<t.bO.qs.length
 .refine cD zE (er (show k<t.bO.qs.length by omega)) ?_;refine eG zE h (λm=>[(3,.ptr 73 0),(6,.ptr 88 0),(7,.int .i64 (k:Nat)),(8,.int .i64 (d.ready+(m:Nat))),(22,.int .i64 t.bO.qs.length),(23,.int .i64 (k:Nat))]) (λm=>[(73,.box d.cells),(86,wt d.ready h ((k*h+m:Nat):Int)),(88,.box (rN t d (.own 130) (.dA 86))),(130,rowP d.ready h (k*h+m))]) ?_ ?_
  .exact dD [] ⟨rfl,rfl,rfl,c9 rfl (by show d.ready=d.ready+((0:Nat):Int);omega),rfl,rfl,bP⟩ ⟨bV,⟨_,_,_,rfl,rfl,λq hq=>rfl⟩,⟨_,rfl,om _ _ _ rfl rfl⟩,ee,bP⟩
  rintro⟨m,(hm:m<=h)⟩;by_cases b:m<h
  .refine cD zE (by show decide (d.ready+(m:Int)<=d.dead)=true;exact cw (by omega)) ?_;have hb:k*h+m<=150:=by have:=ar0 (show k<=5 by omega) hH.2.2;omega
   refine cN zE ?_;refine cN zE ?_;refine bU zE (cw (by show(k*h+m+1)*(15+1+1)<=du;simp only[du];omega)) ?_;have hw:av.wrap (d.ready+(m:Int)+1)=d.ready+((m+1:Nat):Int):=by rw[dG];omega
   have hn:eR d.ready h [(k:Int),d.ready+(m:Int)]=((k*h+m:Nat):Int):=by unfold eR;show(k:Int)*(h:Int)+(d.ready+(m:Int)-d.ready)=_;rw[aR,aQ];omega
   refine cH zE ⟨m+1,b⟩ (dp b) ?_;exact dD [(130,124)] ⟨rfl,rfl,rfl,c9 rfl hw,rfl,rfl,bP⟩ ⟨bV,⟨_,_,_,rfl,rfl,λq hq=>KH (aL k) (by omega) hn hq⟩,⟨_,rfl,om _ _ _ rfl rfl⟩,df rfl rfl (λq hq j hj=>by show(if q<k*h+m then bT (mB d.ready h q) j else(λi j=>bT [.int .i64 (k:Nat),.int .i64 (d.ready+(m:Nat))] (i*2+j)) (q-(k*h+m)) j)=bT (mB d.ready h q) j;exact KM (r:=d.ready) (ex:=λi j=>bT [.int .i64 (k:Nat),.int .i64 (d.ready+(m:Nat))] (i*2+j)) b (λj hj=>by show bT _ (0*2+j)=_;rw[asc,asd]) hq hj),bP⟩
  have b:h=m:=by omega
  subst b;refine b8 zE (by show decide (d.ready+(h:Int)<=d.dead)=false;exact dQ (by omega)) (dt zE rfl zE ?_);have e:k*h+h=(k+1)*h:=(asl k h).symm;refine cH zE ⟨k+1,a⟩ (dp a) ?_;exact dD [] ⟨rfl,rfl,rfl,c6 a,bP⟩ ⟨bV,⟨_,_,_,rfl,rfl,λq hq=>by rw[e]⟩,⟨_,rfl,om _ _ _ rfl rfl⟩,df rfl e (λq hq j hj=>rfl),bP⟩
 have a:t.bO.qs.length=k:=by omega
 subst a;refine b8 zE eF (dt zE rfl zE ?_);have hin:∀ x y:Int,0<=x/\x<(t.bO.qs.length:Int)->d.ready<=y/\y<=d.dead->kF d.ready h ((t.bO.qs.length*h:Nat):Int) [x,y]=true:=λx y hx hy=>KL hx (by omega);refine cN zE ?_;refine cD zE (hin _ _ hd.src ⟨aM _,by omega⟩) (cD zE (hin _ _ hd.dst ⟨by omega,aM _⟩) ?_);refine eG zE (t.bO.qs.length*h) (λi=>[(0,.dA 187),(1,.ptr 186 0),(2,.ptr 190 0),(13,.own 130),(14,.int .i64 ((t.bO.qs.length*h:Nat):Int)),(15,.int .i64 (i:Nat))]) (λi=>[(134,.box [.int .i64 ((t.bO.qs.length*h:Nat):Int),.own 201,.int .i64 (eR d.ready h [d.src,d.ready]),.int .i64 (eR d.ready h [d.dst,d.dead])]),(190,.box [.dA 187]),(201,pI ((dV t d h i).map XA.dv))]) ?_ ?_
 .refine(oM 134 1 201 199 3 (cO dR.cells []) rfl rfl rfl).trans ?_;exact dD [] ⟨rfl,rfl,rfl,rfl,rfl,rfl,bP⟩ ⟨bV,bV,df rfl rfl (λq hq=>dP hq (ar3 q)),bP⟩
 rintro⟨i,(hi:i<=t.bO.qs.length*h)⟩;by_cases a:i<t.bO.qs.length*h
 .refine cD zE (er (show i<(t.bO.qs.length*h:Nat) by omega)) (bU zE (cZ a) (bU zE (gw a) ?_));obtain⟨A,B,hA,hB,rfl⟩:∃ A B:Nat,A<t.bO.qs.length/\B<h/\i=A*h+B:=⟨i/h,i%h,wo (by omega) a⟩;have hN:t.bO.qs.length*h<=150:=by have:=ar0 hq hH.2.2;omega
  have q1:((A*h+B:Nat):Int)/(h:Int)=(A:Int):=by rw[<-aO,l8 hB]
  have q2:((A*h+B:Nat):Int)%(h:Int)=(B:Int):=by rw[<-aN,jT hB]
  have q3:(A*h+B)%h=B:=jT hB;have q4:(A*h+B)/h=A:=l8 hB;refine cN zE ?_;by_cases b:B=h-1
  .have wE:dV t d h (A*h+B+1)=dV t d h (A*h+B):=by rw[rK,q3,bS b,a7]
   refine cD zE (by show((d.ready+((A*h+B:Nat):Int)%(h:Int))==d.dead)=true;rw[q2,b];exact beq_iff_eq.2 (by omega)) (cH zE ⟨A*h+B+1,a⟩ (by show t.bO.qs.length*h-(A*h+B+1)<t.bO.qs.length*h-(A*h+B);omega) ?_);exact dD [] ⟨rfl,rfl,rfl,rfl,rfl,c6 a,bP⟩ ⟨bV,bV,df rfl (by rw[wE]) (λq hq j hj=>by rw[wE]),bP⟩
  have wE:dV t d h (A*h+B+1)=dV t d h (A*h+B)++[wX t d h (A*h+B)]:=by rw[rK,q3,bQ b]
  have q5:av.wrap (d.ready+(B:Int)+1)=d.ready+((B+1:Nat):Int):=by rw[dG];omega
  refine b8 zE (by show((d.ready+((A*h+B:Nat):Int)%(h:Int))==d.dead)=false;rw[q2];exact jd (by omega)) (cN zE ?_);refine cD zE (by show kF d.ready h ((t.bO.qs.length*h:Nat):Int) [((A*h+B:Nat):Int)/(h:Int),d.ready+((A*h+B:Nat):Int)%(h:Int)]=true;rw[q1,q2];exact hin _ _ (by omega) (by omega)) (cD zE (by show kF d.ready h ((t.bO.qs.length*h:Nat):Int) [((A*h+B:Nat):Int)/(h:Int),av.wrap (d.ready+((A*h+B:Nat):Int)%(h:Int)+1)]=true;rw[q1,q2,q5];exact hin _ _ (by omega) (by omega)) (cj zE ((Fw t d (kS ht) (t.bO.qs.length*h) (λi j=>bT (mB d.ready h i) j) A (d.ready+(B:Int)) (by omega)).le (db.cons (bY.refl _) (db.cons (bY.of (by show Go.Sy.A.agg [.int .i64 (((A*h+B:Nat):Int)/(h:Int)),.int .i64 (d.ready+((A*h+B:Nat):Int)%(h:Int))]=_;rw[q1,q2])) db.nil))) (bU zE (cw (by have:=uw t d h (A*h+B);show(((dV t d h (A*h+B)).map XA.dv).length+1)*(23+1+1)<=du;rw[bd];simp only[du];omega)) ?_)));have hcs:[Go.Sy.A.int .i64 (eR d.ready h [((A*h+B:Nat):Int)/(h:Int),d.ready+((A*h+B:Nat):Int)%(h:Int)]),.int .i64 (eR d.ready h [((A*h+B:Nat):Int)/(h:Int),av.wrap (d.ready+((A*h+B:Nat):Int)%(h:Int)+1)]),.int .i64 (jm t d A (d.ready+(B:Int)))]=dR.cells (wX t d h (A*h+B)).dv:=by
   have e3:(wX t d h (A*h+B)).dv=⟨((A*h+B:Nat):Int),((A*h+B:Nat):Int)+1,jm t d A (d.ready+(B:Int))⟩:=by unfold wX sS;rw[q3,q4]
   rw[e3,q1,q2,q5,pH,pH];rfl
  refine cH zE ⟨A*h+B+1,a⟩ (by show t.bO.qs.length*h-(A*h+B+1)<t.bO.qs.length*h-(A*h+B);omega) ?_;exact dD [(201,344)] ⟨rfl,rfl,rfl,rfl,rfl,c6 a,bP⟩ ⟨bV,bV,df rfl (by rw[wE,bh];simp) (λq hq j hj=>by rw[wE,bh]at hq ⊢;exact gE (cells:=dR.cells) (x:=(wX t d h (A*h+B)).dv) hcs q (by simpa using hq) j hj),bP⟩
 have a:t.bO.qs.length*h=i:=by omega
 subst a;refine b8 zE eF (dt zE rfl zE ?_);refine eG zE t.bO.bW.length (λk=>[(0,.dA 187),(1,.ptr 186 0),(2,.ptr 190 0),(61,nv t.bO.bW),(62,.int .i64 t.bO.bW.length),(63,.int .i64 (k:Nat))]) (λk=>[(134,.box [.int .i64 ((t.bO.qs.length*h:Nat):Int),.own 201,.int .i64 (eR d.ready h [d.src,d.ready]),.int .i64 (eR d.ready h [d.dst,d.dead])]),(190,.box [.dA 187]),(201,pI (eA t d h k []))]) ?_ ?_
 .exact dD [] ⟨rfl,rfl,rfl,rfl,rfl,rfl,bP⟩ ⟨bV,bV,df rfl (by rw[wu]) (λq hq j hj=>by rw[wu]),bP⟩
 rintro⟨k,(hk:k<=t.bO.bW.length)⟩;by_cases a:k<t.bO.bW.length
 .refine cD zE (er (show k<t.bO.bW.length by omega)) (bU zE (cZ a) ?_);have cF:=Fu t.bO t.dg k a hb (by omega) (by omega) (by omega);refine cN zE ?_;refine bU zE (cZ a) (cN zE ?_);refine cj zE (cF) ?_;obtain⟨c,fG⟩:∃ c,c=t.bO.bW.getD k aH:=⟨_,rfl⟩;have gW:=jg.p.bW c (by rw[fG,cV a];exact aV _);have gx:(ec t.bO t.dg k).length<=1000:=by
   have:=Bp (t.bO.bW.getD k aH).stop (eO t.dg k) (t.bO.bW.getD k aH).start [];have h1:=ue t.dg k;unfold ec;simp only[AI]at this;omega
  have wv:=free_spec jg.b k;refine eG zE ((ec t.bO t.dg k).length) (λj=>[(0,.dA 297),(1,.ptr 295 0),(2,.ptr 296 0),(4,.ptr 302 0),(34,fM (ec t.bO t.dg k)),(35,.int .i64 (ec t.bO t.dg k).length),(36,.int .i64 (j:Nat))]) (λj=>[(134,.box [.int .i64 ((t.bO.qs.length*h:Nat):Int),.own 311,.int .i64 (eR d.ready h [d.src,d.ready]),.int .i64 (eR d.ready h [d.dst,d.dead])]),(201,.dead),(302,.box (t.bO.bW.getD k aH).cells),(311,pI (eA t d h k (eC t d k j 0)))]) ?_ ?_
  .refine(AJ 134 1 201 311 rfl rfl rfl rfl).gv.trans ?_;exact dD [] ⟨rfl,rfl,rfl,rfl,rfl,rfl,rfl,bP⟩ ⟨bV,rfl,bV,ee,bP⟩
  rintro⟨j,(hj:j<=(ec t.bO t.dg k).length)⟩;by_cases b:j<(ec t.bO t.dg k).length
  .obtain⟨x,hx⟩:∃ x,x=(ec t.bO t.dg k).getD j aH:=⟨_,rfl⟩;have hxs:=wv.all x (by rw[hx,cV b];exact aV _);refine cD zE (er (show j<(ec t.bO t.dg k).length by omega)) (bU zE (cZ b) (cN zE ?_));obtain⟨L,hL⟩:∃ L,L=l7 d x:=⟨_,rfl⟩;obtain⟨M,hM⟩:∃ M,M=(mz d c.c7 x-L).toNat:=⟨_,rfl⟩;have qq:d.ready<=L/\x.lo<=L/\(L=d.ready\/L=x.lo):=by rw[hL];unfold l7;split<;>omega
   have ny:∀ m:Nat,m<M↔L+(m:Int)<x.hi/\L+(m:Int)+1+c.c7<=d.dead:=by intro m;rw[hM];unfold mz;split<;>omega
   have FD:M<=25:=by rw[hM];unfold mz;have:=gW.c7;split<;>omega
   have vH:=gW.time;rw[<-fG]at hxs;have KP:=gW.c7;refine eG zE M (λm=>[(0,.dA 297),(1,.ptr 295 0),(2,.ptr 296 0),(4,.ptr 302 0),(8,.ptr 306 0),(9,.int .i64 (L+(m:Nat))),(34,fM (ec t.bO t.dg k)),(35,.int .i64 (ec t.bO t.dg k).length),(36,.int .i64 (j:Nat))]) (λm=>[(134,.box [.int .i64 ((t.bO.qs.length*h:Nat):Int),.own 311,.int .i64 (eR d.ready h [d.src,d.ready]),.int .i64 (eR d.ready h [d.dst,d.dead])]),(201,.dead),(302,.box c.cells),(306,.box x.cells),(311,pI (eA t d h k (eC t d k j m)))]) ?_ ?_
   .exact dD [] ⟨rfl,rfl,rfl,rfl,rfl,c9 rfl (by rw[hL,hx];exact(aI _).symm),rfl,rfl,rfl,bP⟩ ⟨bV,rfl,⟨_,rfl,by rw[fG];exact oR _ _⟩,⟨_,rfl,by rw[hx];exact⟨_,_,rfl,rfl,_,_,rfl,rfl,rfl⟩⟩,ee,bP⟩
   rintro⟨m,(hm:m<=M)⟩;have w1:av.wrap (L+(m:Int)+1)=L+((m+1:Nat):Int):=by rw[dG];omega
   have w2:av.wrap (av.wrap (L+(m:Int)+1)+c.c7)=L+(m:Int)+1+c.c7:=by rw[w1,dG];omega
   refine cN zE ?_;by_cases e:m<M
   .obtain⟨e1,e2⟩:=(ny m).1 e;refine cD zE (by show decide (L+(m:Int)<x.hi)=true;exact cw e1) (cD zE (by show decide (av.wrap (av.wrap (L+(m:Int)+1)+c.c7)<=d.dead)=true;rw[w2];exact cw e2) (cN zE ?_));have k1:0<=(t.bO.bW.getD k aH).fr/\(t.bO.bW.getD k aH).fr<(t.bO.qs.length:Int):=by rw[<-fG];exact gW.fr
    have k2:0<=(t.bO.bW.getD k aH).to/\(t.bO.bW.getD k aH).to<(t.bO.qs.length:Int):=by rw[<-fG];exact gW.to
    have w3:av.wrap (av.wrap (L+(m:Int)+1)+(t.bO.bW.getD k aH).c7)=L+(m:Int)+1+c.c7:=by rw[<-fG];exact w2
    refine cD zE (hin _ _ k1 (by show d.ready<=L+(m:Int)/\L+(m:Int)<=d.dead;omega)) (cD zE (hin _ _ k2 (by show d.ready<=av.wrap (av.wrap (L+(m:Int)+1)+(t.bO.bW.getD k aH).c7)/\av.wrap (av.wrap (L+(m:Int)+1)+(t.bO.bW.getD k aH).c7)<=d.dead;rw[w3];omega)) ?_);have hlen:=Fy jg (h:=h) (k:=k) (j:=j) (m:=m) (by omega) a hh;have oU:t.bO.qs.length*h<=150:=by have:=ar0 hq hH.2.2;omega
    refine bU zE (cw (by show((eA t d h k (eC t d k j m)).length+1)*(23+1+1)<=du;simp only[du];omega)) ?_;have hcs:[Go.Sy.A.int .i64 (eR d.ready h [(t.bO.bW.getD k aH).fr,L+(m:Int)]),.int .i64 (eR d.ready h [(t.bO.bW.getD k aH).to,av.wrap (av.wrap (L+(m:Int)+1)+(t.bO.bW.getD k aH).c7)]),.int .i64 (t.bO.bW.getD k aH).gn]=dR.cells (cX t d h k (L+(m:Int))).dv:=by
     rw[w3,fG];rfl
    have hsn:eA t d h k (eC t d k j (m+1))=eA t d h k (eC t d k j m)++[(cX t d h k (L+(m:Int))).dv]:=by rw[Fz,<- hx,<- hL,FA]
    refine cH zE ⟨m+1,e⟩ (dp e) ?_;exact dD [(311,526)] ⟨rfl,rfl,rfl,rfl,rfl,c9 rfl w1,rfl,rfl,rfl,bP⟩ ⟨bV,rfl,bV,bV,df rfl (by rw[hsn,aW];rfl) (λq hq j hj=>by rw[hsn]at hq ⊢;exact gE (cells:=dR.cells) (x:=(cX t d h k (L+(m:Int))).dv) hcs q (by simpa using hq) j hj),bP⟩
   have e:M=m:=by omega
   subst e;have e3:=λq=>(ny M).2 q;have hsp:eA t d h k (eC t d k j M)=eA t d h k (eC t d k (j+1) 0):=by rw[BB b,<- hx,<- fG,<- hL,<- hM]
   by_cases e1:L+(M:Int)<x.hi
   .refine cD zE (by show decide (L+(M:Int)<x.hi)=true;exact cw e1) (b8 zE (by show decide (av.wrap (av.wrap (L+(M:Int)+1)+c.c7)<=d.dead)=false;rw[w2];exact dQ λq=>ar7 _ (e3 ⟨e1,q⟩)) (dt zE rfl zE (cH zE ⟨j+1,b⟩ (dp b) ?_)));exact dD [] ⟨rfl,rfl,rfl,rfl,rfl,rfl,c6 b,bP⟩ ⟨bV,rfl,⟨_,rfl,by rw[fG];exact oR _ _⟩,df rfl (by rw[hsp]) (λq hq j hj=>by rw[hsp]),bP⟩
   refine b8 zE (by show decide (L+(M:Int)<x.hi)=false;exact dQ e1) (dt zE rfl zE (cH zE ⟨j+1,b⟩ (dp b) ?_));exact dD [] ⟨rfl,rfl,rfl,rfl,rfl,rfl,c6 b,bP⟩ ⟨bV,rfl,⟨_,rfl,by rw[fG];exact oR _ _⟩,df rfl (by rw[hsp]) (λq hq j hj=>by rw[hsp]),bP⟩
  have b:(ec t.bO t.dg k).length=j:=by omega
  subst b;refine b8 zE eF (dt zE rfl zE ?_);have iT:eA t d h k (eC t d k (ec t.bO t.dg k).length 0)=eA t d h (k+1) []:=by rw[Fx,FB]
  refine cH zE ⟨k+1,a⟩ (dp a) ?_;exact dD [(201,311)] ⟨rfl,rfl,rfl,rfl,rfl,c6 a,bP⟩ ⟨bV,bV,df rfl (by rw[iT]) (λq hq j hj=>by rw[iT]),bP⟩
 have a:t.bO.bW.length=k:=by omega
 subst a;refine b8 zE eF (dt zE rfl zE ?_);have hN:t.bO.qs.length*h<=150:=by have:=ar0 hq hH.2.2;omega
 have hv:=R2 (t.bO.qs.length*h) (dq t d h) F (d.src.toNat*h) (d.dst.toNat*h+(h-1)) (by omega) hal hA hsv MZ hst hF hf;rw[<-FC,n1,n2]at hv;refine cj zE (hv) (b8 zE (rfl) ?_);refine eG zE (t.bO.qs.length*h) (λi=>[(0,.dA 204),(1,.ptr 203 0),(2,.ptr 207 0),(13,.own 130),(14,.int .i64 ((t.bO.qs.length*h:Nat):Int)),(15,.int .i64 (i:Nat))]) (λi=>[(14,.box [.int .i64 ((dV t d h i).length:Nat)]),(207,.box [.dA 204])]) ?_ ?_
 .exact dD [] ⟨rfl,rfl,rfl,rfl,rfl,rfl,bP⟩ ⟨bV,bV,bP⟩
 rintro⟨i,(hi:i<=t.bO.qs.length*h)⟩;by_cases a:i<t.bO.qs.length*h
 .refine cD zE (er (show i<(t.bO.qs.length*h:Nat) by omega)) (bU zE (cZ a) (bU zE (gw a) ?_));obtain⟨A,B,hA,hB,rfl⟩:∃ A B:Nat,A<t.bO.qs.length/\B<h/\i=A*h+B:=⟨i/h,i%h,wo (by omega) a⟩;have q1:((A*h+B:Nat):Int)/(h:Int)=(A:Int):=by rw[<-aO,l8 hB]
  have q2:((A*h+B:Nat):Int)%(h:Int)=(B:Int):=by rw[<-aN,jT hB]
  have q3:(A*h+B)%h=B:=jT hB;refine cN zE ?_;by_cases b:B=h-1
  .have wE:dV t d h (A*h+B+1)=dV t d h (A*h+B):=by rw[rK,q3,bS b,a7]
   refine cD zE (by show((d.ready+((A*h+B:Nat):Int)%(h:Int))==d.dead)=true;rw[q2,b];exact beq_iff_eq.2 (by omega)) (cH zE ⟨A*h+B+1,a⟩ (by show t.bO.qs.length*h-(A*h+B+1)<t.bO.qs.length*h-(A*h+B);omega) ?_);exact dD [] ⟨rfl,rfl,rfl,rfl,rfl,c6 a,bP⟩ ⟨⟨_,rfl,by rw[wE];exact⟨_,_,rfl,rfl,rfl⟩⟩,bV,bP⟩
  have wE:dV t d h (A*h+B+1)=dV t d h (A*h+B)++[wX t d h (A*h+B)]:=by rw[rK,q3,bQ b]
  have q5:av.wrap (d.ready+(B:Int)+1)=d.ready+((B+1:Nat):Int):=by rw[dG];omega
  refine b8 zE (by show((d.ready+((A*h+B:Nat):Int)%(h:Int))==d.dead)=false;rw[q2];exact jd (by omega)) (cN zE ?_);refine cD zE (by show kF d.ready h ((t.bO.qs.length*h:Nat):Int) [((A*h+B:Nat):Int)/(h:Int),d.ready+((A*h+B:Nat):Int)%(h:Int)]=true;rw[q1,q2];exact hin _ _ (by omega) (by omega)) (cD zE (by show kF d.ready h ((t.bO.qs.length*h:Nat):Int) [((A*h+B:Nat):Int)/(h:Int),av.wrap (d.ready+((A*h+B:Nat):Int)%(h:Int)+1)]=true;rw[q1,q2,q5];exact hin _ _ (by omega) (by omega)) (cj zE ((Fw t d (kS ht) (t.bO.qs.length*h) (λi j=>bT (mB d.ready h i) j) A (d.ready+(B:Int)) (by omega)).le (db.cons (bY.refl _) (db.cons (bY.of (by show Go.Sy.A.agg [.int .i64 (((A*h+B:Nat):Int)/(h:Int)),.int .i64 (d.ready+((A*h+B:Nat):Int)%(h:Int))]=_;rw[q1,q2])) db.nil))) (b8 zE (rfl) (cH zE ⟨A*h+B+1,a⟩ (by show t.bO.qs.length*h-(A*h+B+1)<t.bO.qs.length*h-(A*h+B);omega) ?_))));have hl:av.wrap (((dV t d h (A*h+B)).length:Nat)+1)=((dV t d h (A*h+B+1)).length:Nat):=by have:=uw t d h (A*h+B);rw[wE,aW,ba,je (ash _) (by omega)]
  exact dD [] ⟨rfl,rfl,rfl,rfl,rfl,c6 a,bP⟩ ⟨⟨_,rfl,_,_,rfl,c9 rfl hl,rfl⟩,bV,bP⟩
 have a:t.bO.qs.length*h=i:=by omega
 subst a;refine b8 zE eF (dt zE rfl zE ?_);refine eG zE t.bO.bW.length (λk=>[(0,.dA 204),(1,.ptr 203 0),(2,.ptr 207 0),(61,nv t.bO.bW),(62,.int .i64 t.bO.bW.length),(63,.int .i64 (k:Nat))]) (λk=>[(13,.box [.own 218]),(14,.box [.int .i64 ((fT t d h k []).length:Nat)]),(207,.box [.dA 204]),(218,Od (fB (eE F) (fT t d h k [])))]) ?_ ?_
 .refine(oM 13 0 218 88 3 (cO dC.cells []) rfl rfl rfl).trans ?_;exact dD [] ⟨rfl,rfl,rfl,rfl,rfl,rfl,bP⟩ ⟨bV,⟨_,rfl,_,_,rfl,c9 rfl (by rw[Og]),rfl⟩,bV,df rfl (by rw[Og,Of];rfl) (λq hq j hj=>by rw[Og,Of]at hq;exact dP hq (ar3 q)),bP⟩
 rintro⟨k,(hk:k<=t.bO.bW.length)⟩;by_cases a:k<t.bO.bW.length
 .refine cD zE (er (show k<t.bO.bW.length by omega)) (bU zE (cZ a) ?_);have cF:=Fu t.bO t.dg k a hb (by omega) (by omega) (by omega);refine cN zE ?_;refine bU zE (cZ a) (cN zE ?_);refine cj zE (cF) ?_;obtain⟨c,fG⟩:∃ c,c=t.bO.bW.getD k aH:=⟨_,rfl⟩;have gW:=jg.p.bW c (by rw[fG,cV a];exact aV _);have gx:(ec t.bO t.dg k).length<=1000:=by
   have:=Bp (t.bO.bW.getD k aH).stop (eO t.dg k) (t.bO.bW.getD k aH).start [];have h1:=ue t.dg k;unfold ec;simp only[AI]at this;omega
  have wv:=free_spec jg.b k;refine eG zE ((ec t.bO t.dg k).length) (λj=>[(0,.dA 314),(1,.ptr 312 0),(2,.ptr 313 0),(4,.ptr 319 0),(34,fM (ec t.bO t.dg k)),(35,.int .i64 (ec t.bO t.dg k).length),(36,.int .i64 (j:Nat))]) (λj=>[(13,.box [.own 328]),(14,.box [.int .i64 ((fT t d h k (eC t d k j 0)).length:Nat)]),(218,.dead),(319,.box (t.bO.bW.getD k aH).cells),(328,Od (fB (eE F) (fT t d h k (eC t d k j 0))))]) ?_ ?_
  .refine(AJ 13 0 218 328 rfl rfl rfl rfl).gv.trans ?_;exact dD [] ⟨rfl,rfl,rfl,rfl,rfl,rfl,rfl,bP⟩ ⟨bV,bV,rfl,bV,ee,bP⟩
  rintro⟨j,(hj:j<=(ec t.bO t.dg k).length)⟩;by_cases b:j<(ec t.bO t.dg k).length
  .obtain⟨x,hx⟩:∃ x,x=(ec t.bO t.dg k).getD j aH:=⟨_,rfl⟩;have hxs:=wv.all x (by rw[hx,cV b];exact aV _);refine cD zE (er (show j<(ec t.bO t.dg k).length by omega)) (bU zE (cZ b) (cN zE ?_));obtain⟨L,hL⟩:∃ L,L=l7 d x:=⟨_,rfl⟩;obtain⟨M,hM⟩:∃ M,M=(mz d c.c7 x-L).toNat:=⟨_,rfl⟩;have qq:d.ready<=L/\x.lo<=L/\(L=d.ready\/L=x.lo):=by rw[hL];unfold l7;split<;>omega
   have ny:∀ m:Nat,m<M↔L+(m:Int)<x.hi/\L+(m:Int)+1+c.c7<=d.dead:=by intro m;rw[hM];unfold mz;split<;>omega
   have FD:M<=25:=by rw[hM];unfold mz;have:=gW.c7;split<;>omega
   have vH:=gW.time;rw[<-fG]at hxs;have KP:=gW.c7;refine eG zE M (λm=>[(0,.dA 314),(1,.ptr 312 0),(2,.ptr 313 0),(4,.ptr 319 0),(8,.ptr 323 0),(9,.int .i64 (L+(m:Nat))),(34,fM (ec t.bO t.dg k)),(35,.int .i64 (ec t.bO t.dg k).length),(36,.int .i64 (j:Nat))]) (λm=>[(13,.box [.own 328]),(14,.box [.int .i64 ((fT t d h k (eC t d k j m)).length:Nat)]),(218,.dead),(319,.box c.cells),(323,.box x.cells),(328,Od (fB (eE F) (fT t d h k (eC t d k j m))))]) ?_ ?_
   .exact dD [] ⟨rfl,rfl,rfl,rfl,rfl,c9 rfl (by rw[hL,hx];exact(aI _).symm),rfl,rfl,rfl,bP⟩ ⟨bV,bV,rfl,⟨_,rfl,by rw[fG];exact oR _ _⟩,⟨_,rfl,by rw[hx];exact⟨_,_,rfl,rfl,_,_,rfl,rfl,rfl⟩⟩,ee,bP⟩
   rintro⟨m,(hm:m<=M)⟩;have w1:av.wrap (L+(m:Int)+1)=L+((m+1:Nat):Int):=by rw[dG];omega
   have w2:av.wrap (av.wrap (L+(m:Int)+1)+c.c7)=L+(m:Int)+1+c.c7:=by rw[w1,dG];omega
   refine cN zE ?_;by_cases e:m<M
   .obtain⟨e1,e2⟩:=(ny m).1 e;refine cD zE (by show decide (L+(m:Int)<x.hi)=true;exact cw e1) (cD zE (by show decide (av.wrap (av.wrap (L+(m:Int)+1)+c.c7)<=d.dead)=true;rw[w2];exact cw e2) (cN zE ?_));have k1:0<=(t.bO.bW.getD k aH).fr/\(t.bO.bW.getD k aH).fr<(t.bO.qs.length:Int):=by rw[<-fG];exact gW.fr
    have k2:0<=(t.bO.bW.getD k aH).to/\(t.bO.bW.getD k aH).to<(t.bO.qs.length:Int):=by rw[<-fG];exact gW.to
    have w3:av.wrap (av.wrap (L+(m:Int)+1)+(t.bO.bW.getD k aH).c7)=L+(m:Int)+1+c.c7:=by rw[<-fG];exact w2
    refine cD zE (hin _ _ k1 (by show d.ready<=L+(m:Int)/\L+(m:Int)<=d.dead;omega)) (cD zE (hin _ _ k2 (by show d.ready<=av.wrap (av.wrap (L+(m:Int)+1)+(t.bO.bW.getD k aH).c7)/\av.wrap (av.wrap (L+(m:Int)+1)+(t.bO.bW.getD k aH).c7)<=d.dead;rw[w3];omega)) ?_);have hsn:fT t d h k (eC t d k j (m+1))=fT t d h k (eC t d k j m)++[cX t d h k (L+(m:Int))]:=by rw[Fz,<- hx,<- hL,ap4]
    have qj:(fT t d h k (eC t d k j m)).length<F.length:=by
     obtain⟨r1,fD⟩:=ap8 (m:=m+1) b (by rw[<-hx,<- fG,<- hL,<- hM];exact e);obtain⟨r2,jO⟩:=ap7 t d h a fD;rw[hsn]at jO;have:=fU List.length jO;rw[hF,dq,bd,<- this,aW,aW,ba];omega
    refine cD zE (by show decide (0<=(k:Int))=true;exact cw (aL k)) (bU zE (cZ qj) ?_);have hlen:=Fy jg (h:=h) (k:=k) (j:=j) (m:=m) (by omega) a hh;rw[<-ap3]at hlen;have hl:av.wrap (((fT t d h k (eC t d k j m)).length:Nat)+1)=((fT t d h k (eC t d k j (m+1))).length:Nat):=by rw[hsn,aW,ba,je (ash _) (by omega)]
    by_cases g:0<eE F (fT t d h k (eC t d k j m)).length
    .refine cD zE (by show decide (0<eE F (fT t d h k (eC t d k j m)).length)=true;exact cw g) (cN zE ?_);refine bU zE (cZ qj) ?_;have po:=ap9 (eE F) (fT t d h k (eC t d k j m));have oU:t.bO.qs.length*h<=150:=hN;refine bU zE (cw (by show((fB (eE F) (fT t d h k (eC t d k j m))).length+1)*(23+1+1)<=du;simp only[du];omega)) ?_;have CI:(cX t d h k (L+(m:Int))).ct=(k:Int):=rfl;have hsh:fB (eE F) (fT t d h k (eC t d k j (m+1)))=fB (eE F) (fT t d h k (eC t d k j m))++[⟨k,L+(m:Int),eE F (fT t d h k (eC t d k j m)).length⟩]:=by rw[hsn,Oe,o9,bS ⟨by rw[CI];exact aL k,g⟩];rfl
     have hcs:[Go.Sy.A.int .i64 (k:Nat),.int .i64 (L+(m:Int)),.int .i64 (eE F (fT t d h k (eC t d k j m)).length)]=dC.cells ⟨k,L+(m:Int),eE F (fT t d h k (eC t d k j m)).length⟩:=rfl;refine cH zE ⟨m+1,e⟩ (dp e) ?_;exact dD [(328,558)] ⟨rfl,rfl,rfl,rfl,rfl,c9 rfl w1,rfl,rfl,rfl,bP⟩ ⟨bV,⟨_,rfl,_,_,rfl,c9 rfl hl,rfl⟩,rfl,bV,bV,df rfl (by rw[hsh,aW];rfl) (λq hq w hw=>by rw[hsh]at hq ⊢;exact gE (cells:=dC.cells) (x:=⟨k,L+(m:Int),eE F (fT t d h k (eC t d k j m)).length⟩) hcs q (by simpa using hq) w hw),bP⟩
    refine b8 zE (by show decide (0<eE F (fT t d h k (eC t d k j m)).length)=false;exact dQ g) ?_;have hsh:fB (eE F) (fT t d h k (eC t d k j (m+1)))=fB (eE F) (fT t d h k (eC t d k j m)):=by rw[hsn,Oe,o9,bQ (λq=>g q.2),a7]
    refine cH zE ⟨m+1,e⟩ (dp e) ?_;exact dD [] ⟨rfl,rfl,rfl,rfl,rfl,c9 rfl w1,rfl,rfl,rfl,bP⟩ ⟨bV,⟨_,rfl,_,_,rfl,c9 rfl hl,rfl⟩,rfl,bV,bV,df rfl (by rw[hsh]) (λq hq j hj=>by rw[hsh]),bP⟩
   have e:M=m:=by omega
   subst e;have e3:=λq=>(ny M).2 q;have hsp:fT t d h k (eC t d k j M)=fT t d h k (eC t d k (j+1) 0):=by rw[BB b,<- hx,<- fG,<- hL,<- hM]
   by_cases e1:L+(M:Int)<x.hi
   .refine cD zE (by show decide (L+(M:Int)<x.hi)=true;exact cw e1) (b8 zE (by show decide (av.wrap (av.wrap (L+(M:Int)+1)+c.c7)<=d.dead)=false;rw[w2];exact dQ λq=>ar7 _ (e3 ⟨e1,q⟩)) (dt zE rfl zE (cH zE ⟨j+1,b⟩ (dp b) ?_)));exact dD [] ⟨rfl,rfl,rfl,rfl,rfl,rfl,c6 b,bP⟩ ⟨bV,⟨_,rfl,_,_,rfl,c9 rfl (by rw[hsp]),rfl⟩,rfl,⟨_,rfl,by rw[fG];exact oR _ _⟩,df rfl (by rw[hsp]) (λq hq j hj=>by rw[hsp]),bP⟩
   refine b8 zE (by show decide (L+(M:Int)<x.hi)=false;exact dQ e1) (dt zE rfl zE (cH zE ⟨j+1,b⟩ (dp b) ?_));exact dD [] ⟨rfl,rfl,rfl,rfl,rfl,rfl,c6 b,bP⟩ ⟨bV,⟨_,rfl,_,_,rfl,c9 rfl (by rw[hsp]),rfl⟩,rfl,⟨_,rfl,by rw[fG];exact oR _ _⟩,df rfl (by rw[hsp]) (λq hq j hj=>by rw[hsp]),bP⟩
  have b:(ec t.bO t.dg k).length=j:=by omega
  subst b;refine b8 zE eF (dt zE rfl zE ?_);have iT:fT t d h k (eC t d k (ec t.bO t.dg k).length 0)=fT t d h (k+1) []:=by rw[Fx,ap5]
  refine cH zE ⟨k+1,a⟩ (dp a) ?_;exact dD [(218,328)] ⟨rfl,rfl,rfl,rfl,rfl,c6 a,bP⟩ ⟨bV,⟨_,rfl,_,_,rfl,c9 rfl (by rw[iT]),rfl⟩,bV,df rfl (by rw[iT]) (λq hq j hj=>by rw[iT]),bP⟩
 have a:t.bO.bW.length=k:=by omega
 subst a;refine b8 zE eF (dt zE rfl zE ?_);rw[ap6];exact cL zE rfl rfl (bY.refl _)
structure lZ where
 acc:Bool
 fF:Int
 fX:List dC
 cut:List (List cU)
def lZ.cells(x:lZ):List Go.Sy.A:=[.bool x.acc,.int .i64 x.fF,kC x.fX,si x.cut]
section
variable (t:cE) (d:cA) (h:Nat)
noncomputable def jG:List Nat:=mP (t.bO.qs.length*h) (jv (en (b9 (dq t d h))) (rm (b9 (dq t d h)) (dh (jU t d h))) (d.src.toNat*h))
def sj:List (List Nat×Int):=mQ (b9 (dq t d h)) (t.bO.qs.length*h) (d.src.toNat*h) (d.dst.toNat*h+(h-1)) ((dL (b9 (dq t d h)) (dh (jU t d h)) (d.src.toNat*h)).toNat+1) (dh (jU t d h))
def xh:Nat->Int:=jf (kP (sj t d h) d.fF)
def p9:List Int:=(a8 (dq t d h).length).map (xh t d h)
noncomputable def l4:lZ:=if ji t d h<d.fF then⟨false,ji t d h,[],ir d h t.bO.qs.length (jG t d h)⟩else⟨true,d.fF,fB (eE (p9 t d h)) (dy t d h),[]⟩
end
theorem Dd{t:cE}{d:cA}{h k:Nat}(hk:k<(dq t d h).length):eE (p9 t d h) k=xh t d h k:=by
 unfold eE p9;rw[IS,List.getElem?_map,List.getElem?_range hk];rfl
theorem Hj{G:Net}{F H:Nat->Int}(h:∀ k,k<G.m->F k=H k)(v:Nat):dL G F v=dL G H v:=by
 unfold dL;exact iW λk hk=>by unfold gk;rw[h k hk]
theorem Y8{G:Net}{n s t:Nat}{F H:Nat->Int}(h:∀ k,k<G.m->F k=H k)(hF:iO G n s t F):iO G n s t H:=
 ⟨λk hk=>by rw[<-h k hk];exact hF.lo k hk,λk hk=>by rw[<-h k hk];exact hF.hi k hk,λv h1 h2 h3=>by rw[<-Hj h];exact hF.vI v h1 h2 h3⟩
theorem De{t:cE}(ok:fj t){d:cA}(hd:gB t.bO.qs.length d){h:Nat}(h2:2<=h)(hv:d.dead=d.ready+(h:Int)-1):xY (b9 (dq t d h)) (d.src.toNat*h):=by
 intro k hk;have hk':k<(dy t d h).length:=by rw[<-Bt];exact hk
 show((dq t d h).getD k aH).to.toNat≠_;rw[Kv t d h k hk'];have hy:(dy t d h).getD k aH∈dy t d h:=by rw[cV hk'];exact aV _
 rcases(Bu ok).1 hy with ⟨i,hi,hm,e⟩|⟨ct,u,hc,hu,e⟩
 .rw[e,Bv];intro q;have h1:(i+1)%h=0:=by rw[q];exact asf _ _
  have h3:=ar9 i (show 0<h by omega);have h4:(i+1)%h=i%h+1:=by
   rw[Nat.add_mod,asg (show 1<h by omega)];exact asg (by omega)
  omega
 obtain⟨a,b,c,j,_,_,_,_,_,_,_,yB,hj,_,jK⟩:=Kw ok hv hc hu;rw[e,jK,aK];intro q;have h1:(b*h+j)%h=0:=by rw[q];exact asf _ _
 rw[jT hj]at h1;omega
theorem TI{t:cE}(ok:fj t){d:cA}(hd:gB t.bO.qs.length d){h:Nat}(h2:2<=h)(hv:d.dead=d.ready+(h:Int)-1)(hf:(dq t d h).length<=20000):ji t d h<=20000000:=by
 have hs:=hd.src;refine aP (amj ok hd h2 hv (S:=λv=>decide (v/h=d.src.toNat)) ?_ ?_) ?_
 .exact cw (Nat.mul_div_cancel _ (by omega))
 .refine dQ ?_;rw[l8 (by omega)];have:=hd.ne;have:=hd.dst;omega
 have h1:∀ (L:List dR) (f:dR->Int),(∀a∈L,f a<=1000)->cT f L<=1000*(L.length:Int):=by
  intro L f
  induction L with
  |nil=>intro _;exact aM _
  |cons a L ih=>
   intro hL;have a1:=ih λb hb=>hL b (a6 _ hb);have a2:=hL a aY;rw[cT,bB];omega
 refine aP (h1 _ _ λa ha=>?_) (by omega);obtain⟨y,hy,rfl⟩:=bl.1 ha;simp only[dN,gU];rcases(Bu ok).1 hy with ⟨i,hi,hm,rfl⟩|⟨ct,u,hc,hu,rfl⟩
 .rw[bQ]
  .omega
  rw[Kx,Bv];rintro⟨q1,q2⟩;have h3:=ar6 i h;have h4:=ar9 i (show 0<h by omega);have h5:i+1=h*(i/h)+(i%h+1):=by omega
  have h6:(i%h+1)/h=0:=asi (by omega);rw[h5,asj (by omega),h6,ar8]at q2;exact q2 q1
 have:=(ok.p.bW (t.bO.bW.getD ct aH) (by rw[cV hc];exact aV _)).gn;split
 .show(t.bO.bW.getD ct aH).gn<=1000;omega
 omega
theorem Df{t:cE}(ok:fj t){d:cA}(hd:gB t.bO.qs.length d){h:Nat}(h2:2<=h)(hv:d.dead=d.ready+(h:Int)-1):(jU t d h).length=(dq t d h).length/\iO (b9 (dq t d h)) (t.bO.qs.length*h) (d.src.toNat*h) (d.dst.toNat*h+(h-1)) (dh (jU t d h))/\dL (b9 (dq t d h)) (dh (jU t d h)) (d.src.toNat*h)=ji t d h:=by
 obtain⟨n1,n2,n3,n4⟩:=sJ ok hd h2 hv;have hA:=vW ok (d:=d) h2 hv;have hc:∀ k,k<(b9 (dq t d h)).m->0<=(b9 (dq t d h)).cap k:=λk hk=>by
  have hk':k<(dq t d h).length:=hk;exact(hA ((dq t d h).getD k aH) (by rw[cV hk'];exact aV _)).cap.1
 have e:∀ k,k<(b9 (dq t d h)).m->kx (b9 (dq t d h)) (t.bO.qs.length*h) (d.src.toNat*h) (d.dst.toNat*h+(h-1)) k=dh (jU t d h) k:=λk hk=>(AD _ _ _ hk).symm;refine⟨(R6 hA n4).len,Y8 e (xW n4 hc).1,?_⟩;rw[<-Hj e];rfl
theorem Y9{t:cE}(ok:fj t){d:cA}(hd:gB t.bO.qs.length d){h:Nat}(h2:2<=h)(hv:d.dead=d.ready+(h:Int)-1)(Dg:d.fF<=ji t d h):
  iO (b9 (dq t d h)) (t.bO.qs.length*h) (d.src.toNat*h) (d.dst.toNat*h+(h-1)) (xh t d h)/\dL (b9 (dq t d h)) (xh t d h) (d.src.toNat*h)=d.fF:=by
 obtain⟨n1,n2,n3,n4⟩:=sJ ok hd h2 hv;obtain⟨m1,m2,m3⟩:=Df ok hd h2 hv;have h0:=hd.fF;have:=aii n4 (De ok hd h2 hv) m2 (f:=(dL (b9 (dq t d h)) (dh (jU t d h)) (d.src.toNat*h)).toNat+1) (by omega) (show 0<=d.fF by omega) (by rw[m3];exact Dg);exact⟨this.1,this.2.1⟩
theorem aqb{t:cE}(ok:fj t){d:cA}(hd:gB t.bO.qs.length d){h:Nat}(h2:2<=h)(hv:d.dead=d.ready+(h:Int)-1):∀ p∈sj t d h,rn (b9 (dq t d h)) (d.src.toNat*h) (d.dst.toNat*h+(h-1)) p.1/\0<p.2:=by
 obtain⟨n1,n2,n3,n4⟩:=sJ ok hd h2 hv;obtain⟨m1,m2,m3⟩:=Df ok hd h2 hv;exact(AL n4 (De ok hd h2 hv) _ m2 (by omega)).2.1
noncomputable def Za:Env:={ P:=ay,lJ:=Fv.lJ,nO:=Fv.nO,lL:=[72] }
theorem aqc:ib Za:=Vh
noncomputable def CPs:Cx:={ E:=Za,inl:=E3.inl,ok:=aqc }
theorem aqd{el:Nat->Nat->Go.Sy.A}{a b:Int}(h0:el 0 0= .int .i64 a)(h1:el 0 1= .int .i64 b):bY (.sl 2 1 el) (fM [⟨a,b⟩]):=bY.sl rfl λi hi w hw=>by
 have hi:i=0:=by omega
 subst hi
 match w,hw with
 |0,_=>exact h0
 |1,_=>exact h1
theorem aqe(t:cE)(d:cA)(h:Nat)(S:List Nat)(ht:fW t=0)(hd:gB t.bO.qs.length d)(hq:t.bO.qs.length<=6)(hH:d.dead=d.ready+h-1/\2<=h/\h<=25)(hal:(dq t d h).length<=20000)(hA:∀ a∈dq t d h,mh (t.bO.qs.length*h) a)(hS:∀ v∈S,v<t.bO.qs.length*h)(hp:S.Pairwise (· < ·))(KE:S.length<=150):cJ ay 34 [.agg t.cells,.agg d.cells,.sl 1 S.length (cO nN S)] (.cG [.sl 1 t.bO.qs.length (λi _=>fM ((ir d h t.bO.qs.length S).getD i aH)),.int .i64 0],none):=by
 have hh:d.dead-d.ready<=24:=by omega
 have n1:((d.src.toNat*h:Nat):Int)=eR d.ready h [d.src,d.ready]:=by have:=pH d.ready h d.src.toNat 0;rw[aJ hd.src.1,ar8]at this;rw[<-this];simp
 have n2:((d.dst.toNat*h+(h-1):Nat):Int)=eR d.ready h [d.dst,d.dead]:=by have:=pH d.ready h d.dst.toNat (h-1);rw[aJ hd.dst.1,show d.ready+((h-1:Nat):Int)=d.dead by omega]at this;exact this.symm
 obtain⟨r,hr⟩:∃ r,r=d.ready:=⟨_,rfl⟩;have mO:=hd.ready;have hrd:=hd.dead;have jg:=kS ht;have hb:=KN ht;have dF:=jg.b.len;have hc:=jg.p.m;refine c8 CPs Tryz.func34 rfl ?_;refine cj zE (KF t d ht hd) (b8 zE (rfl) ?_);refine eG zE t.bO.qs.length (λk=>[(3,.ptr 82 0),(6,.ptr 97 0),(22,.int .i64 t.bO.qs.length),(23,.int .i64 (k:Nat))]) (λk=>[(82,.box d.cells),(95,wt d.ready h ((k*h:Nat):Int)),(97,.box (rN t d (.own 139) (.dA 95))),(139,rowP d.ready h (k*h))]) ?_ ?_
 .refine(oM 97 9 139 188 2 (λi j=>bT (mB d.ready h i) j) rfl rfl rfl).trans ?_;exact dD [] ⟨rfl,rfl,rfl,rfl,bP⟩ ⟨bV,⟨_,_,_,rfl,rfl,λq hq=>KI d.ready h hq⟩,⟨_,rfl,om _ _ _ rfl rfl⟩,df rfl (by show 0=0*h;omega) (λq hq=>dP hq (by show¬q<0*h;omega)),bP⟩
 rintro⟨k,(hk:k<=t.bO.qs.length)⟩;by_cases a:k<t.bO.qs.length
 .refine cD zE (er (show k<t.bO.qs.length by omega)) ?_;refine eG zE h (λm=>[(3,.ptr 82 0),(6,.ptr 97 0),(7,.int .i64 (k:Nat)),(8,.int .i64 (d.ready+(m:Nat))),(22,.int .i64 t.bO.qs.length),(23,.int .i64 (k:Nat))]) (λm=>[(82,.box d.cells),(95,wt d.ready h ((k*h+m:Nat):Int)),(97,.box (rN t d (.own 139) (.dA 95))),(139,rowP d.ready h (k*h+m))]) ?_ ?_
  .exact dD [] ⟨rfl,rfl,rfl,c9 rfl (by show d.ready=d.ready+((0:Nat):Int);omega),rfl,rfl,bP⟩ ⟨bV,⟨_,_,_,rfl,rfl,λq hq=>rfl⟩,⟨_,rfl,om _ _ _ rfl rfl⟩,ee,bP⟩
  rintro⟨m,(hm:m<=h)⟩;by_cases b:m<h
  .refine cD zE (by show decide (d.ready+(m:Int)<=d.dead)=true;exact cw (by omega)) ?_;have hb:k*h+m<=150:=by have:=ar0 (show k<=5 by omega) hH.2.2;omega
   refine cN zE ?_;refine cN zE ?_;refine bU zE (cw (by show(k*h+m+1)*(15+1+1)<=du;simp only[du];omega)) ?_;have hw:av.wrap (d.ready+(m:Int)+1)=d.ready+((m+1:Nat):Int):=by rw[dG];omega
   have hn:eR d.ready h [(k:Int),d.ready+(m:Int)]=((k*h+m:Nat):Int):=by unfold eR;show(k:Int)*(h:Int)+(d.ready+(m:Int)-d.ready)=_;rw[aR,aQ];omega
   refine cH zE ⟨m+1,b⟩ (dp b) ?_;exact dD [(139,133)] ⟨rfl,rfl,rfl,c9 rfl hw,rfl,rfl,bP⟩ ⟨bV,⟨_,_,_,rfl,rfl,λq hq=>KH (aL k) (by omega) hn hq⟩,⟨_,rfl,om _ _ _ rfl rfl⟩,df rfl rfl (λq hq j hj=>by show(if q<k*h+m then bT (mB d.ready h q) j else(λi j=>bT [.int .i64 (k:Nat),.int .i64 (d.ready+(m:Nat))] (i*2+j)) (q-(k*h+m)) j)=bT (mB d.ready h q) j;exact KM (r:=d.ready) (ex:=λi j=>bT [.int .i64 (k:Nat),.int .i64 (d.ready+(m:Nat))] (i*2+j)) b (λj hj=>by show bT _ (0*2+j)=_;rw[asc,asd]) hq hj),bP⟩
  have b:h=m:=by omega
  subst b;refine b8 zE (by show decide (d.ready+(h:Int)<=d.dead)=false;exact dQ (by omega)) (dt zE rfl zE ?_);have e:k*h+h=(k+1)*h:=(asl k h).symm;refine cH zE ⟨k+1,a⟩ (dp a) ?_;exact dD [] ⟨rfl,rfl,rfl,c6 a,bP⟩ ⟨bV,⟨_,_,_,rfl,rfl,λq hq=>by rw[e]⟩,⟨_,rfl,om _ _ _ rfl rfl⟩,df rfl e (λq hq j hj=>rfl),bP⟩
 have a:t.bO.qs.length=k:=by omega
 subst a;refine b8 zE eF (dt zE rfl zE ?_);have hin:∀ x y:Int,0<=x/\x<(t.bO.qs.length:Int)->d.ready<=y/\y<=d.dead->kF d.ready h ((t.bO.qs.length*h:Nat):Int) [x,y]=true:=λx y hx hy=>KL hx (by omega);refine cN zE ?_;refine cD zE (hin _ _ hd.src ⟨aM _,by omega⟩) (cD zE (hin _ _ hd.dst ⟨by omega,aM _⟩) ?_);refine eG zE (t.bO.qs.length*h) (λi=>[(0,.dA 196),(1,.ptr 195 0),(2,.ptr 199 0),(13,.own 139),(14,.int .i64 ((t.bO.qs.length*h:Nat):Int)),(15,.int .i64 (i:Nat))]) (λi=>[(143,.box [.int .i64 ((t.bO.qs.length*h:Nat):Int),.own 210,.int .i64 (eR d.ready h [d.src,d.ready]),.int .i64 (eR d.ready h [d.dst,d.dead])]),(199,.box [.dA 196]),(210,pI ((dV t d h i).map XA.dv))]) ?_ ?_
 .refine(oM 143 1 210 199 3 (cO dR.cells []) rfl rfl rfl).trans ?_;exact dD [] ⟨rfl,rfl,rfl,rfl,rfl,rfl,bP⟩ ⟨bV,bV,df rfl rfl (λq hq=>dP hq (ar3 q)),bP⟩
 rintro⟨i,(hi:i<=t.bO.qs.length*h)⟩;by_cases a:i<t.bO.qs.length*h
 .refine cD zE (er (show i<(t.bO.qs.length*h:Nat) by omega)) (bU zE (cZ a) (bU zE (gw a) ?_));obtain⟨A,B,hA,hB,rfl⟩:∃ A B:Nat,A<t.bO.qs.length/\B<h/\i=A*h+B:=⟨i/h,i%h,wo (by omega) a⟩;have hN:t.bO.qs.length*h<=150:=by have:=ar0 hq hH.2.2;omega
  have q1:((A*h+B:Nat):Int)/(h:Int)=(A:Int):=by rw[<-aO,l8 hB]
  have q2:((A*h+B:Nat):Int)%(h:Int)=(B:Int):=by rw[<-aN,jT hB]
  have q3:(A*h+B)%h=B:=jT hB;have q4:(A*h+B)/h=A:=l8 hB;refine cN zE ?_;by_cases b:B=h-1
  .have wE:dV t d h (A*h+B+1)=dV t d h (A*h+B):=by rw[rK,q3,bS b,a7]
   refine cD zE (by show((d.ready+((A*h+B:Nat):Int)%(h:Int))==d.dead)=true;rw[q2,b];exact beq_iff_eq.2 (by omega)) (cH zE ⟨A*h+B+1,a⟩ (by show t.bO.qs.length*h-(A*h+B+1)<t.bO.qs.length*h-(A*h+B);omega) ?_);exact dD [] ⟨rfl,rfl,rfl,rfl,rfl,c6 a,bP⟩ ⟨bV,bV,df rfl (by rw[wE]) (λq hq j hj=>by rw[wE]),bP⟩
  have wE:dV t d h (A*h+B+1)=dV t d h (A*h+B)++[wX t d h (A*h+B)]:=by rw[rK,q3,bQ b]
  have q5:av.wrap (d.ready+(B:Int)+1)=d.ready+((B+1:Nat):Int):=by rw[dG];omega
  refine b8 zE (by show((d.ready+((A*h+B:Nat):Int)%(h:Int))==d.dead)=false;rw[q2];exact jd (by omega)) (cN zE ?_);refine cD zE (by show kF d.ready h ((t.bO.qs.length*h:Nat):Int) [((A*h+B:Nat):Int)/(h:Int),d.ready+((A*h+B:Nat):Int)%(h:Int)]=true;rw[q1,q2];exact hin _ _ (by omega) (by omega)) (cD zE (by show kF d.ready h ((t.bO.qs.length*h:Nat):Int) [((A*h+B:Nat):Int)/(h:Int),av.wrap (d.ready+((A*h+B:Nat):Int)%(h:Int)+1)]=true;rw[q1,q2,q5];exact hin _ _ (by omega) (by omega)) (cj zE ((Fw t d (kS ht) (t.bO.qs.length*h) (λi j=>bT (mB d.ready h i) j) A (d.ready+(B:Int)) (by omega)).le (db.cons (bY.refl _) (db.cons (bY.of (by show Go.Sy.A.agg [.int .i64 (((A*h+B:Nat):Int)/(h:Int)),.int .i64 (d.ready+((A*h+B:Nat):Int)%(h:Int))]=_;rw[q1,q2])) db.nil))) (bU zE (cw (by have:=uw t d h (A*h+B);show(((dV t d h (A*h+B)).map XA.dv).length+1)*(23+1+1)<=du;rw[bd];simp only[du];omega)) ?_)));have hcs:[Go.Sy.A.int .i64 (eR d.ready h [((A*h+B:Nat):Int)/(h:Int),d.ready+((A*h+B:Nat):Int)%(h:Int)]),.int .i64 (eR d.ready h [((A*h+B:Nat):Int)/(h:Int),av.wrap (d.ready+((A*h+B:Nat):Int)%(h:Int)+1)]),.int .i64 (jm t d A (d.ready+(B:Int)))]=dR.cells (wX t d h (A*h+B)).dv:=by
   have e3:(wX t d h (A*h+B)).dv=⟨((A*h+B:Nat):Int),((A*h+B:Nat):Int)+1,jm t d A (d.ready+(B:Int))⟩:=by unfold wX sS;rw[q3,q4]
   rw[e3,q1,q2,q5,pH,pH];rfl
  refine cH zE ⟨A*h+B+1,a⟩ (by show t.bO.qs.length*h-(A*h+B+1)<t.bO.qs.length*h-(A*h+B);omega) ?_;exact dD [(210,353)] ⟨rfl,rfl,rfl,rfl,rfl,c6 a,bP⟩ ⟨bV,bV,df rfl (by rw[wE,bh];simp) (λq hq j hj=>by rw[wE,bh]at hq ⊢;exact gE (cells:=dR.cells) (x:=(wX t d h (A*h+B)).dv) hcs q (by simpa using hq) j hj),bP⟩
 have a:t.bO.qs.length*h=i:=by omega
 subst a;refine b8 zE eF (dt zE rfl zE ?_);refine eG zE t.bO.bW.length (λk=>[(0,.dA 196),(1,.ptr 195 0),(2,.ptr 199 0),(61,nv t.bO.bW),(62,.int .i64 t.bO.bW.length),(63,.int .i64 (k:Nat))]) (λk=>[(143,.box [.int .i64 ((t.bO.qs.length*h:Nat):Int),.own 210,.int .i64 (eR d.ready h [d.src,d.ready]),.int .i64 (eR d.ready h [d.dst,d.dead])]),(199,.box [.dA 196]),(210,pI (eA t d h k []))]) ?_ ?_
 .exact dD [] ⟨rfl,rfl,rfl,rfl,rfl,rfl,bP⟩ ⟨bV,bV,df rfl (by rw[wu]) (λq hq j hj=>by rw[wu]),bP⟩
 rintro⟨k,(hk:k<=t.bO.bW.length)⟩;by_cases a:k<t.bO.bW.length
 .refine cD zE (er (show k<t.bO.bW.length by omega)) (bU zE (cZ a) ?_);have cF:=Fu t.bO t.dg k a hb (by omega) (by omega) (by omega);refine cN zE ?_;refine bU zE (cZ a) (cN zE ?_);refine cj zE (cF) ?_;obtain⟨c,fG⟩:∃ c,c=t.bO.bW.getD k aH:=⟨_,rfl⟩;have gW:=jg.p.bW c (by rw[fG,cV a];exact aV _);have gx:(ec t.bO t.dg k).length<=1000:=by
   have:=Bp (t.bO.bW.getD k aH).stop (eO t.dg k) (t.bO.bW.getD k aH).start [];have h1:=ue t.dg k;unfold ec;simp only[AI]at this;omega
  have wv:=free_spec jg.b k;refine eG zE ((ec t.bO t.dg k).length) (λj=>[(0,.dA 306),(1,.ptr 304 0),(2,.ptr 305 0),(4,.ptr 311 0),(34,fM (ec t.bO t.dg k)),(35,.int .i64 (ec t.bO t.dg k).length),(36,.int .i64 (j:Nat))]) (λj=>[(143,.box [.int .i64 ((t.bO.qs.length*h:Nat):Int),.own 320,.int .i64 (eR d.ready h [d.src,d.ready]),.int .i64 (eR d.ready h [d.dst,d.dead])]),(210,.dead),(311,.box (t.bO.bW.getD k aH).cells),(320,pI (eA t d h k (eC t d k j 0)))]) ?_ ?_
  .refine(AJ 143 1 210 320 rfl rfl rfl rfl).gv.trans ?_;exact dD [] ⟨rfl,rfl,rfl,rfl,rfl,rfl,rfl,bP⟩ ⟨bV,rfl,bV,ee,bP⟩
  rintro⟨j,(hj:j<=(ec t.bO t.dg k).length)⟩;by_cases b:j<(ec t.bO t.dg k).length
  .obtain⟨x,hx⟩:∃ x,x=(ec t.bO t.dg k).getD j aH:=⟨_,rfl⟩;have hxs:=wv.all x (by rw[hx,cV b];exact aV _);refine cD zE (er (show j<(ec t.bO t.dg k).length by omega)) (bU zE (cZ b) (cN zE ?_));obtain⟨L,hL⟩:∃ L,L=l7 d x:=⟨_,rfl⟩;obtain⟨M,hM⟩:∃ M,M=(mz d c.c7 x-L).toNat:=⟨_,rfl⟩;have qq:d.ready<=L/\x.lo<=L/\(L=d.ready\/L=x.lo):=by rw[hL];unfold l7;split<;>omega
   have ny:∀ m:Nat,m<M↔L+(m:Int)<x.hi/\L+(m:Int)+1+c.c7<=d.dead:=by intro m;rw[hM];unfold mz;split<;>omega
   have FD:M<=25:=by rw[hM];unfold mz;have:=gW.c7;split<;>omega
   have vH:=gW.time;rw[<-fG]at hxs;have KP:=gW.c7;refine eG zE M (λm=>[(0,.dA 306),(1,.ptr 304 0),(2,.ptr 305 0),(4,.ptr 311 0),(8,.ptr 315 0),(9,.int .i64 (L+(m:Nat))),(34,fM (ec t.bO t.dg k)),(35,.int .i64 (ec t.bO t.dg k).length),(36,.int .i64 (j:Nat))]) (λm=>[(143,.box [.int .i64 ((t.bO.qs.length*h:Nat):Int),.own 320,.int .i64 (eR d.ready h [d.src,d.ready]),.int .i64 (eR d.ready h [d.dst,d.dead])]),(210,.dead),(311,.box c.cells),(315,.box x.cells),(320,pI (eA t d h k (eC t d k j m)))]) ?_ ?_
   .exact dD [] ⟨rfl,rfl,rfl,rfl,rfl,c9 rfl (by rw[hL,hx];exact(aI _).symm),rfl,rfl,rfl,bP⟩ ⟨bV,rfl,⟨_,rfl,by rw[fG];exact oR _ _⟩,⟨_,rfl,by rw[hx];exact⟨_,_,rfl,rfl,_,_,rfl,rfl,rfl⟩⟩,ee,bP⟩
   rintro⟨m,(hm:m<=M)⟩;have w1:av.wrap (L+(m:Int)+1)=L+((m+1:Nat):Int):=by rw[dG];omega
   have w2:av.wrap (av.wrap (L+(m:Int)+1)+c.c7)=L+(m:Int)+1+c.c7:=by rw[w1,dG];omega
   refine cN zE ?_;by_cases e:m<M
   .obtain⟨e1,e2⟩:=(ny m).1 e;refine cD zE (by show decide (L+(m:Int)<x.hi)=true;exact cw e1) (cD zE (by show decide (av.wrap (av.wrap (L+(m:Int)+1)+c.c7)<=d.dead)=true;rw[w2];exact cw e2) (cN zE ?_));have k1:0<=(t.bO.bW.getD k aH).fr/\(t.bO.bW.getD k aH).fr<(t.bO.qs.length:Int):=by rw[<-fG];exact gW.fr
    have k2:0<=(t.bO.bW.getD k aH).to/\(t.bO.bW.getD k aH).to<(t.bO.qs.length:Int):=by rw[<-fG];exact gW.to
    have w3:av.wrap (av.wrap (L+(m:Int)+1)+(t.bO.bW.getD k aH).c7)=L+(m:Int)+1+c.c7:=by rw[<-fG];exact w2
    refine cD zE (hin _ _ k1 (by show d.ready<=L+(m:Int)/\L+(m:Int)<=d.dead;omega)) (cD zE (hin _ _ k2 (by show d.ready<=av.wrap (av.wrap (L+(m:Int)+1)+(t.bO.bW.getD k aH).c7)/\av.wrap (av.wrap (L+(m:Int)+1)+(t.bO.bW.getD k aH).c7)<=d.dead;rw[w3];omega)) ?_);have hlen:=Fy jg (h:=h) (k:=k) (j:=j) (m:=m) (by omega) a hh;have oU:t.bO.qs.length*h<=150:=by have:=ar0 hq hH.2.2;omega
    refine bU zE (cw (by show((eA t d h k (eC t d k j m)).length+1)*(23+1+1)<=du;simp only[du];omega)) ?_;have hcs:[Go.Sy.A.int .i64 (eR d.ready h [(t.bO.bW.getD k aH).fr,L+(m:Int)]),.int .i64 (eR d.ready h [(t.bO.bW.getD k aH).to,av.wrap (av.wrap (L+(m:Int)+1)+(t.bO.bW.getD k aH).c7)]),.int .i64 (t.bO.bW.getD k aH).gn]=dR.cells (cX t d h k (L+(m:Int))).dv:=by
     rw[w3,fG];rfl
    have hsn:eA t d h k (eC t d k j (m+1))=eA t d h k (eC t d k j m)++[(cX t d h k (L+(m:Int))).dv]:=by rw[Fz,<- hx,<- hL,FA]
    refine cH zE ⟨m+1,e⟩ (dp e) ?_;exact dD [(320,535)] ⟨rfl,rfl,rfl,rfl,rfl,c9 rfl w1,rfl,rfl,rfl,bP⟩ ⟨bV,rfl,bV,bV,df rfl (by rw[hsn,aW];rfl) (λq hq j hj=>by rw[hsn]at hq ⊢;exact gE (cells:=dR.cells) (x:=(cX t d h k (L+(m:Int))).dv) hcs q (by simpa using hq) j hj),bP⟩
   have e:M=m:=by omega
   subst e;have e3:=λq=>(ny M).2 q;have hsp:eA t d h k (eC t d k j M)=eA t d h k (eC t d k (j+1) 0):=by rw[BB b,<- hx,<- fG,<- hL,<- hM]
   by_cases e1:L+(M:Int)<x.hi
   .refine cD zE (by show decide (L+(M:Int)<x.hi)=true;exact cw e1) (b8 zE (by show decide (av.wrap (av.wrap (L+(M:Int)+1)+c.c7)<=d.dead)=false;rw[w2];exact dQ λq=>ar7 _ (e3 ⟨e1,q⟩)) (dt zE rfl zE (cH zE ⟨j+1,b⟩ (dp b) ?_)));exact dD [] ⟨rfl,rfl,rfl,rfl,rfl,rfl,c6 b,bP⟩ ⟨bV,rfl,⟨_,rfl,by rw[fG];exact oR _ _⟩,df rfl (by rw[hsp]) (λq hq j hj=>by rw[hsp]),bP⟩
   refine b8 zE (by show decide (L+(M:Int)<x.hi)=false;exact dQ e1) (dt zE rfl zE (cH zE ⟨j+1,b⟩ (dp b) ?_));exact dD [] ⟨rfl,rfl,rfl,rfl,rfl,rfl,c6 b,bP⟩ ⟨bV,rfl,⟨_,rfl,by rw[fG];exact oR _ _⟩,df rfl (by rw[hsp]) (λq hq j hj=>by rw[hsp]),bP⟩
  have b:(ec t.bO t.dg k).length=j:=by omega
  subst b;refine b8 zE eF (dt zE rfl zE ?_);have iT:eA t d h k (eC t d k (ec t.bO t.dg k).length 0)=eA t d h (k+1) []:=by rw[Fx,FB]
  refine cH zE ⟨k+1,a⟩ (dp a) ?_;exact dD [(210,320)] ⟨rfl,rfl,rfl,rfl,rfl,c6 a,bP⟩ ⟨bV,bV,df rfl (by rw[iT]) (λq hq j hj=>by rw[iT]),bP⟩
 have a:t.bO.bW.length=k:=by omega
 subst a;refine b8 zE eF (dt zE rfl zE ?_);have hN:t.bO.qs.length*h<=150:=by have:=ar0 hq hH.2.2;omega
 have Dc:d.ready+(h:Int)<=1099511627777:=by have:=hd.dead;omega
 have hv:=aid (t.bO.qs.length*h) (dq t d h) S (by omega) hal hA hS hp (by omega);rw[<-FC]at hv;refine cj zE (hv) (b8 zE (rfl) (bU zE (cw (by show(0:Int)<=(t.bO.qs.length:Int)/\(t.bO.qs.length:Int)<=(t.bO.qs.length:Int)/\((t.bO.qs.length:Int)).toNat*(23+1+1)<=du;simp only[du];omega)) ?_));refine eG zE S.length (λj=>[(8,.ptr 97 0),(13,.own 43),(44,.sl 1 S.length (cO nN S)),(45,.int .i64 S.length),(46,.int .i64 (j:Nat))]) (λj=>[(95,wt d.ready h ((t.bO.qs.length*h:Nat):Int)),(97,.box (rN t d (.own 139) (.dA 95))),(139,rowP d.ready h (t.bO.qs.length*h)),(43,.row 97 1 t.bO.qs.length (λi _=>fM ((ir d h t.bO.qs.length (S.take j)).getD i aH)))]) ?_ ?_
 .refine(xX 43 (el':=λi _=>fM ((ir d h t.bO.qs.length []).getD i aH)) rfl λq hq j hj=>?_).trans ?_
  .have hj:j<1:=hj;have hj:j=0:=by omega
   subst hj;rw[Db];exact bY.CB rfl
  exact cB [] ⟨rfl,rfl,rfl,rfl,rfl,bP⟩ ⟨⟨_,_,_,rfl,rfl,λq hq=>rfl⟩,⟨_,rfl,om _ _ _ rfl rfl⟩,ee,ee,bP⟩
 rintro⟨j,(hj:j<=S.length)⟩;by_cases a:j<S.length
 .obtain⟨v,xi⟩:∃ v,v=S.getD j aH:=⟨_,rfl⟩;have tR:v<t.bO.qs.length*h:=hS v (by rw[xi,cV a];exact aV _);obtain⟨A,B,hA,hB,tQ⟩:∃ A B:Nat,A<t.bO.qs.length/\B<h/\v=A*h+B:=⟨v/h,v%h,wo (by omega) tR⟩;refine cD zE (er (show j<S.length by omega)) (bU zE (cZ a) (bU zE (by show decide (0<=((S.getD j aH:Nat):Int)/\((S.getD j aH:Nat):Int)<((t.bO.qs.length*h:Nat):Int))=true;rw[<-xi];exact cZ tR) (bU zE (by show decide (S.getD j aH<t.bO.qs.length*h)=true;rw[<-xi];exact cw tR) ?_)));have q1:((S.getD j aH:Nat):Int)/(h:Int)=(A:Int):=by rw[<-xi,tQ,<- aO,l8 hB]
  have q2:((S.getD j aH:Nat):Int)%(h:Int)=(B:Int):=by rw[<-xi,tQ,<- aN,jT hB]
  refine cN zE ?_;refine bU zE (by show decide (0<=((S.getD j aH:Nat):Int)/(h:Int)/\((S.getD j aH:Nat):Int)/(h:Int)<(t.bO.qs.length:Int))=true;rw[q1];exact cZ hA) (bU zE (by show decide ((((S.getD j aH:Nat):Int)/(h:Int)).toNat<t.bO.qs.length)=true;rw[q1];exact cw hA) ?_);obtain⟨c,fG⟩:∃ c,c=ir d h t.bO.qs.length (S.take j):=⟨_,rfl⟩;have inv:Y3 d h t.bO.qs.length c j (S.drop j):=by rw[fG];exact xg hd.ready Dc (by omega) hp hS (by omega) j hj
  obtain⟨i1,i2⟩:=inv.ok A hA;have i3:∀ x∈c.getD A aH,x.hi<=d.ready+(B:Nat):=λx hx=>by have:=inv.hi A hA x hx v (by rw[drop_cons a,<- xi];exact aY) (by rw[tQ,l8 hB]);rw[tQ,jT hB]at this;exact this
  have q3:av.wrap (d.ready+((S.getD j aH:Nat):Int)%(h:Int)+1)=d.ready+(B:Int)+1:=by rw[q2,wrap_i64 (by have:=hd.ready;omega) (by have:=hd.dead;omega)]
  refine cj zE ((apX (c.getD A aH) (d.ready+(B:Int)) i1 (by omega) i3 (by have:=hd.ready;have:=hd.dead;omega)).le (db.cons (bY.of (by show fM ((ir d h t.bO.qs.length (S.take j)).getD (((S.getD j aH:Nat):Int)/(h:Int)).toNat aH)=_;rw[q1,aK,<- fG])) (db.cons (aqd (by show Go.Sy.A.int .i64 (d.ready+((S.getD j aH:Nat):Int)%(h:Int))=_;rw[q2]) (by show Go.Sy.A.int .i64 (av.wrap (d.ready+((S.getD j aH:Nat):Int)%(h:Int)+1))=_;rw[q3])) db.nil))) (bU zE (by show decide (0<=((S.getD j aH:Nat):Int)/(h:Int)/\((S.getD j aH:Nat):Int)/(h:Int)<(t.bO.qs.length:Int))=true;rw[q1];exact cZ hA) (bU zE (by show decide ((((S.getD j aH:Nat):Int)/(h:Int)).toNat<t.bO.qs.length)=true;rw[q1];exact cw hA) (cH zE ⟨j+1,a⟩ (dp a) ?_)));refine cB [] ⟨rfl,rfl,rfl,rfl,c6 a,bP⟩ ⟨⟨_,_,_,rfl,rfl,λq hq=>rfl⟩,⟨_,rfl,om _ _ _ rfl rfl⟩,ee,df rfl rfl (λq hq w hw=>?_),bP⟩;obtain rfl:w=0:=by have:w<1:=hw;omega
  have e1:ir d h t.bO.qs.length (S.take (j+1))=qX d h c v:=by rw[gg a,Hi,<- xi,<- fG]
  show(if q=(((S.getD j aH:Nat):Int)/(h:Int)).toNat/\0<=0/\0<0+1 then fM (iq (c.getD A aH) (d.ready+(B:Int)))else fM ((ir d h t.bO.qs.length (S.take j)).getD q aH))=fM ((ir d h t.bO.qs.length (S.take (j+1))).getD q aH);have q4:(((S.getD j aH:Nat):Int)/(h:Int)).toNat=A:=by rw[q1,aK]
  rw[e1,<- fG];unfold qX;rw[tQ,l8 hB,jT hB,x9 _ _ _ _ (by rw[inv.len];exact hA)];by_cases e:q=A
  .rw[bS ⟨e.trans q4.symm,ar1 _,asn⟩,bS e]
  rw[bQ (λh=>e (h.1.trans q4)),bQ e]
 have a:S.length=j:=by omega
 subst a;refine b8 zE eF (dt zE rfl zE ?_);rw[bk];exact cL zE rfl rfl (bY.refl _)
noncomputable def Ty:Cx:={ E:=EM,inl:=[36,81],ok:=qf }
theorem Zb{t:cE}{d:cA}{h:Nat}:(∀v∈jG t d h,v<t.bO.qs.length*h)/\(jG t d h).Pairwise (· < ·)/\(jG t d h).length<=t.bO.qs.length*h:=by
 refine⟨λv hv=>?_,?_,?_⟩
 .unfold jG mP at hv;exact aZ.1 (anc.1 hv).1
 .exact bw.filter _
 unfold jG mP;have:=bD (jv (en (b9 (dq t d h))) (rm (b9 (dq t d h)) (dh (jU t d h))) (d.src.toNat*h)) (a8 (t.bO.qs.length*h));rwa[bg]at this
structure Dh(L:List (List Nat×Int))(V:Int)(i:Nat)(v:Int)(F:Nat->Int):Prop where
 le:i<=L.length
 v0:0<=v
 vV:v<=V
 eq:∀ k,F k+jf (kP (L.drop i) v) k=jf (kP L V) k
 f0:∀ k,0<=F k
theorem Zc:∀ {L:List (List Nat×Int)},(∀p∈L,0<=p.2)-> ∀k,0<=jf L k
 |[],_,k=>aM _
 |p::L,h,k=>by
  have h1:=Zc (L:=L) (λq hq=>h q (a6 _ hq)) k;have h2:=h p aY;unfold jf gG;split<;>omega
theorem Zd:∀ {L:List (List Nat×Int)},(∀p∈L,0<p.2)->(L.length:Int)<=mn L
 |[],_=>aM _
 |p::L,h=>by
  have h1:=Zd (L:=L) λq hq=>h q (a6 _ hq);have h2:=h p aY;rw[bB,mn];omega
theorem Ze:∀ (a b:List Nat),a.Nodup->(∀x∈a,x∈b)->a.length<=b.length
 |[],b,_,_=>by simp
 |x::a,b,hnd,hsub=>by
  obtain⟨p,q,rfl⟩:=List.append_of_mem (hsub x aY);have h1:=Ze a (p++q) (adv.1 hnd).2 (λy hy=>by
   have:=hsub y (a6 _ hy);simp only[bc,bz]at this⊢;rcases this with h|h|h
   .exact .inl h
   .subst h;exact((adv.1 hnd).1 hy).elim
   exact .inr h)
  simp only[aW,bB]at h1⊢;omega
theorem aqf{P:List Nat}{m:Nat}(hn:P.Nodup)(h:∀ k∈P,k<m):P.length<=m:=by
 have:=Ze P (a8 m) hn λk hk=>aZ.2 (h k hk);rwa[bg]at this
theorem Zf:∀ {L:List (List Nat×Int)} {v:Int},(∀p∈L,0<=p.2)->0<=v-> ∀p∈kP L v,0<=p.2
 |[],v,_,_,p,hp=>by cases hp
 |a::L,v,h,hv,p,hp=>by
  have ha:=h a aY;unfold kP at hp;split at hp
  .cases hp
  rcases bz.1 hp with rfl|hp
  .show 0<=if a.2<v then a.2 else v
   split<;>omega
  exact Zf (L:=L) (λq hq=>h q (a6 _ hq)) (by split<;>omega) p hp
theorem Dh.next{L:List (List Nat×Int)}{V:Int}{i:Nat}{v:Int}{F:Nat->Int}(I:Dh L V i v F)(hi:i<L.length)(hv:v≠0)(hp:0<=(L.getD i aH).2){n:Int}(hn:n=if(L.getD i aH).2<v then(L.getD i aH).2 else v):Dh L V (i+1) (v-n) (λk=>F k+gG n (L.getD i aH).1 k):=by
 have hv0:=I.v0;have hvV:=I.vV;have e:L.drop i=L.getD i aH::L.drop (i+1):=by
  rw[List.drop_eq_getElem_cons hi,IS,List.getElem?_eq_getElem hi];rfl
 have n0:0<=n/\n<=v:=by rw[hn];split<;>omega
 refine⟨hi,by omega,by omega,λk=>?_,λk=>?_⟩
 .have:=I.eq k;rw[e,kP,bQ hv,<- hn,jf]at this;rw[<-this];exact Int.add_assoc _ _ _
 have:=I.f0 k;show 0<=F k+gG n _ k;unfold gG;split<;>omega
theorem aqg{n:Int}{P:List Nat}(hn:P.Nodup){j:Nat}(hj:j<P.length)(k:Nat):gG n (P.take (j+1)) k=if k=P.getD j aH then n else gG n (P.take j) k:=by
 have h1:P.getD j aH∉P.take j:=by
  rw[cV hj];intro hm;obtain⟨i,hi,e⟩:=bn hm;rw[bI]at e;rw[bj]at hi;exact bq.1 hn i j (by omega) hj (by omega) e
 unfold gG;rw[gg hj];by_cases e:k=P.getD j aH
 .rw[bS (by rw[e];simp),bS e]
 rw[bQ e];by_cases e2:k∈P.take j
 .rw[bS (bF _ e2),bS e2]
 rw[bQ (by rw[bc,aX];rintro(c|c);exact e2 c;exact e c),bQ e2]
theorem aqh{n:Int}{P:List Nat}(hn:P.Nodup){j:Nat}(hj:j<P.length):gG n (P.take j) (P.getD j aH)=0:=by
 unfold gG;rw[bQ];rw[cV hj];intro hm;obtain⟨i,hi,e⟩:=bn hm;rw[bI]at e;rw[bj]at hi;exact bq.1 hn i j (by omega) hj (by omega) e
theorem aqi(l:List (List Nat×Int)):kP l 0=[]:=by cases l<;>simp[kP]
theorem Zg{F:Nat->Int}{m:Nat}{l:List Int}(hl:l.length=m)(h:∀ k,k<m->F k=eE l k):bY (.sl 1 m (λi _=>.int .i64 (F i))) (eD l):=by
 subst hl;exact bY.sl rfl λi hi w hw=>by
  obtain rfl:w=0:=asb.1 hw;show Go.Sy.A.int .i64 (F i)= .int .i64 (l.getD i aH);rw[h i hi];rfl
theorem TF(t:cE)(d:cA)(h:Nat)(ht:fW t=0)(hd:gB t.bO.qs.length d)(hq:t.bO.qs.length<=6)(hH:d.dead=d.ready+h-1/\2<=h/\h<=25):cJ ay 14 [.agg t.cells,.agg d.cells] (.cG [.agg (l4 t d h).cells,.int .i64 0],none):=by
 have ok:=kS ht;obtain⟨n1,n2,n3,n4⟩:=sJ ok hd hH.2.1 hH.1;obtain⟨m1,m2,m3⟩:=Df ok hd hH.2.1 hH.1;have hN:t.bO.qs.length*h<=150:=by have:=ar0 hq hH.2.2;omega
 have hA:=vW ok (d:=d) hH.2.1 hH.1;have hal:=JT ok (d:=d) hq hH.2.2 (by omega);have hsm:=TI ok hd hH.2.1 hH.1 hal;have Dg:=hd.fF;refine c8 Ty Tryz.func14 rfl ?_;refine cj zE (Vi t d h ht hd hq hH) (b8 zE (rfl) ?_);by_cases hv:ji t d h<d.fF
 .have e:l4 t d h=⟨false,ji t d h,[],ir d h t.bO.qs.length (jG t d h)⟩:=by unfold l4;rw[bS hv]
  obtain⟨s1,s2,s3⟩:=Zb (t:=t) (d:=d) (h:=h);have cS:=aqe t d h (jG t d h) ht hd hq hH hal hA s1 s2 (by omega);refine cD zE (cw hv) (cj zE (aic (t.bO.qs.length*h) (dq t d h) (d.src.toNat*h) (d.dst.toNat*h+(h-1)) (by omega) hal hA n1 n2 n3) (b8 zE (rfl) (cj zE (cS) ?_)));have hlen:(ir d h t.bO.qs.length (jG t d h)).length=t.bO.qs.length:=by
   have:=(xg hd.ready (show d.ready+(h:Int)<=1099511627777 by have:=hd.dead;omega) (by omega) s2 s1 (by omega) (jG t d h).length (ar1 _)).len;rwa[bk]at this
  exact cL zE rfl rfl (by rw[e];exact bY.M9 (bY.agg (.cons (bY.refl _) (.cons (bY.refl _) (.cons (bY.CB rfl) (.cons (bY.of (by show _=si _;unfold si;rw[hlen])) .nil))))) (bY.refl _))
 have e:l4 t d h=⟨true,d.fF,fB (eE (p9 t d h)) (dy t d h),[]⟩:=by unfold l4;rw[bQ hv]
 have ps:=aqb ok hd hH.2.1 hH.1;obtain⟨p1,p2⟩:=Y9 ok hd hH.2.1 hH.1 (aU.1 hv);have cP:=ain (t.bO.qs.length*h) (dq t d h) (jU t d h) (d.src.toNat*h) (d.dst.toNat*h+(h-1)) (by omega) hal hA n1 n2 n3 m1 m2 (by rw[show eE (jU t d h)=dh (jU t d h)from rfl,m3];omega) (De ok hd hH.2.1 hH.1);have cP:cJ ay 35 [.int .i64 ((t.bO.qs.length*h:Nat):Int),fL (dq t d h),eD (jU t d h),.int .i64 ((d.src.toNat*h:Nat):Int),.int .i64 ((d.dst.toNat*h+(h-1):Nat):Int)] (.cG [I5 (sj t d h),.int .i64 0],none):=cP;have hcap:∀ k,k<(dq t d h).length->jf (kP (sj t d h) d.fF) k<=1099511627776:=λk hk=>aP (p1.hi k hk) (by have:=(hA ((dq t d h).getD k aH) (by rw[cV hk];exact aV _)).cap;exact this.2);have Zh:=aqa t d h (p9 t d h) ht hd hq hH hal hA n1 n2 n3 (by unfold p9;rw[bd,bg]) (Y8 (λk hk=>(Dd hk).symm) p1);have Oh:∀ k,k<(dq t d h).length->xh t d h k=jf (kP (sj t d h) d.fF) k:=λ_ _=>rfl;have qQ:(sj t d h).length<=1000000000:=by
  have h1:=Zd (L:=sj t d h) λp hp=>(ps p hp).2;have h2:=(AL n4 (De ok hd hH.2.1 hH.1) ((dL (b9 (dq t d h)) (dh (jU t d h)) (d.src.toNat*h)).toNat+1) m2 (by omega)).1;rw[m3]at h2;have h3:mn (sj t d h)=ji t d h:=by rw[<-h2];unfold sj;rw[m3]
  omega
 have nU:(p9 t d h).length=(dq t d h).length:=by unfold p9;rw[bd,bg]
 obtain⟨L,hL⟩:∃ L,L=sj t d h:=⟨_,rfl⟩;rw[<-hL]at cP ps hcap Oh qQ;obtain⟨m,hm⟩:∃ m,m=(dq t d h).length:=⟨_,rfl⟩;refine b8 zE (dQ hv) (cj zE (cP) (b8 zE (rfl) (bU zE (cw (by show(0:Int)<=((dq t d h).length:Int)/\((dq t d h).length:Int)<=((dq t d h).length:Int)/\((dq t d h).length:Int).toNat*(8+1)<=du;simp only[du];omega)) ?_)));refine zG zE ?_;refine aF (σ:={ x:Nat×Int×(Nat->Int) // Dh L d.fF x.1 x.2.1 x.2.2 }) (λx=>[(0,.dA 122),(1,.ptr 120 0),(2,.ptr 121 0),(7,I5 L),(8,.int .i64 L.length),(9,.int .i64 (x.1.1:Nat))]) (λx=>[(85,.row 3 1 (dq t d h).length (λi _=>.int .i64 (x.1.2.2 i))),(121,.box [.int .i64 x.1.2.1])]) (λx=>L.length-x.1.1) ⟨(0,d.fF,λ_=>0),⟨ar4 _,show 0<=d.fF by omega,aM _,λk=>Int.zero_add _,λ_=>aM _⟩⟩ ?_ ?_
 .exact dD [] ⟨rfl,rfl,rfl,rfl,rfl,rfl,bP⟩ ⟨df rfl (by rfl) (λq hq j hj=>by obtain rfl:j=0:=asb.1 hj;rfl),bV,bP⟩
 rintro⟨⟨i,v,F⟩,I⟩;have I:Dh L d.fF i v F:=I;by_cases a:i<L.length
 .refine cD zE (er (show i<L.length by omega)) (bU zE (cZ a) ?_);have iv0:0<=v:=I.v0;have ivV:v<=d.fF:=I.vV;by_cases hv0:v=0
  .refine cD zE (by show(v==0)=true;rw[hv0];rfl) ?_;subst hv0;have I0:=I.eq;rw[aqi]at I0;refine dt zE rfl zE ?_;refine Sat.wk (X7 15 0 85 rfl rfl rfl) ?_;exact cj zE (Zh.le (db.cons (bY.refl _) (db.cons (bY.refl _) (db.cons (Zg nU λk hk=>by rw[Dd hk,Oh k hk];exact(aI _).symm.trans (I0 k)) db.nil)))) (cL zE rfl rfl (by rw[e];exact bY.M9 (bY.agg (.cons (bY.kb true) (.cons (bY.refl _) (.cons (bY.refl _) (.cons (bY.CB rfl) .nil))))) (bY.refl _)))
  refine b8 zE (by show(v==0)=false;exact jd hv0) ?_;obtain⟨p,u7⟩:∃ p,p=L.getD i aH:=⟨_,rfl⟩;obtain⟨n,hn⟩:∃ n,n=if v<p.2 then v else p.2:=⟨_,rfl⟩
  have xj:=ps p (by rw[u7,cV a];exact aV _);have hpm:p.1.length<=1000000:=by
   have:=aqf xj.1.nd xj.1.m;have h2:(b9 (dq t d h)).m=(dq t d h).length:=rfl;omega
  have MD:0<=n/\n<=v/\n<=p.2:=by have:=I.v0;have:=xj.2;rw[hn];split<;>omega
  have I2:=I.next a hv0 (by rw[<-u7];exact aT xj.2) (n:=n) (by rw[<-u7,hn];have:=I.v0;split<;>split<;>omega);rw[<-u7]at I2;have nn:=Zc (Zf (L:=L.drop (i+1)) (λq hq=>aT (ps q (List.mem_of_mem_drop hq)).2) I2.v0);refine eG zE p.1.length (λj=>[(15,.ptr 15 0),(17,.int .i64 n),(92,.sl 1 p.1.length (cO nN p.1)),(93,.int .i64 p.1.length),(94,.int .i64 (j:Nat))]) (λj=>[(85,.row 3 1 (dq t d h).length (λk _=>.int .i64 (F k+gG n (p.1.take j) k)))]) ?_ ?_
  .exact dD [] ⟨rfl,c9 rfl (by rw[hn,u7];rfl),(by rw[u7];rfl),(by rw[u7];rfl),rfl,bP⟩ ⟨df rfl rfl (λq hq j hj=>by rw[bG];show _=Go.Sy.A.int .i64 (F q+gG n [] q);rw[show gG n [] q=0 from rfl,aI]),bP⟩
  rintro⟨j,(hj:j<=p.1.length)⟩;by_cases b:j<p.1.length
  .have hkm:p.1.getD j aH<(dq t d h).length:=xj.1.m _ (by rw[cV b];exact aV _);refine cD zE (er (show j<p.1.length by omega)) (bU zE (cZ b) (bU zE (by show decide (0<=((p.1.getD j aH:Nat):Int)/\((p.1.getD j aH:Nat):Int)<((dq t d h).length:Int))=true;exact cZ hkm) (bU zE (by show decide (p.1.getD j aH<(dq t d h).length)=true;exact cw hkm) (bU zE (by show decide (0<=((p.1.getD j aH:Nat):Int)/\((p.1.getD j aH:Nat):Int)<((dq t d h).length:Int))=true;exact cZ hkm) (bU zE (by show decide (p.1.getD j aH<(dq t d h).length)=true;exact cw hkm) ?_)))));have hb1:=I2.eq (p.1.getD j aH);have hb2:=nn (p.1.getD j aH);have hb3:=hcap _ hkm;have hb4:=I.f0 (p.1.getD j aH);have hb5:gG n p.1 (p.1.getD j aH)=n:=by unfold gG;rw[bS (by rw[cV b];exact aV _)]
   have hb6:=aqh (n:=n) xj.1.nd b;rw[hb5]at hb1;refine cH zE ⟨j+1,b⟩ (dp b) ?_;refine dD [] ⟨rfl,rfl,rfl,rfl,c6 b,bP⟩ ⟨df rfl rfl (λq hq w hw=>?_),bP⟩;obtain rfl:w=0:=asb.1 hw;show(if q=p.1.getD j aH/\0<=0/\0<0+1 then Go.Sy.A.int .i64 (av.wrap (F (p.1.getD j aH)+gG n (p.1.take j) (p.1.getD j aH)+n))else .int .i64 (F q+gG n (p.1.take j) q))= .int .i64 (F q+gG n (p.1.take (j+1)) q);rw[aqg xj.1.nd b];by_cases e:q=p.1.getD j aH
   .rw[bS ⟨e,ar1 _,asn⟩,bS e,hb6,aI,dG,e]
   rw[bQ (λh=>e h.1),bQ e]
  have b:p.1.length=j:=by omega
  subst b;refine b8 zE eF (dt zE rfl zE (cH zE ⟨(i+1,v-n,λk=>F k+gG n p.1 k),I2⟩ (by show L.length-(i+1)<L.length-i;omega) ?_));exact dD [] ⟨rfl,rfl,rfl,rfl,rfl,c6 a,bP⟩ ⟨df rfl rfl (λq hq j hj=>by rw[bk]),⟨_,rfl,_,_,rfl,c9 rfl (by show av.wrap (v-(if v<(L.getD i aH).2 then v else(L.getD i aH).2))=v-n;rw[<-u7,<- hn,dG]),rfl⟩,bP⟩
 have a:L.length=i:=by have:=I.le;omega
 subst a;refine b8 zE eF ?_;have I0:=I.eq;rw[List.drop_eq_nil_of_le (ar1 _)]at I0;refine dt zE rfl zE ?_;refine Sat.goN 1 (Eq.refl _) (NS.stop ?_);refine Sat.wk (X7 15 0 85 rfl rfl rfl) ?_;exact cj zE (Zh.le (db.cons (bY.refl _) (db.cons (bY.refl _) (db.cons (Zg nU λk hk=>by rw[Dd hk,Oh k hk];exact(aI _).symm.trans (I0 k)) db.nil)))) (cL zE rfl rfl (by rw[e];exact bY.M9 (bY.agg (.cons (bY.kb true) (.cons (bY.refl _) (.cons (bY.refl _) (.cons (bY.CB rfl) .nil))))) (bY.refl _)))
def Hk(y z:XA):Prop:=y.ct=z.ct/\(y.ct<0->y.dv.fr=z.dv.fr)/\(0<=y.ct->y.tm=z.tm)
theorem aqj{t:cE}(ok:fj t)(d:cA)(h:Nat):(dy t d h).Pairwise λy z=>¬ Hk y z:=by
 unfold dy;rw[List.pairwise_append];refine⟨?_,?_,λy hy z hz=>?_⟩
 .unfold dV;rw[OF];refine(bw.filter _).imp λ{i j} hij q=>?_;have h1:(i:Int)=(j:Int):=q.2.1 (show(-1:Int)<0 by omega);omega
 .rw[IN];refine⟨λc hc=>?_,bw.imp λ{a b} hab y hy z hz q=>?_⟩
  .unfold iz;rw[OF];refine(Ko ok d c).imp λ{u v} wm q=>?_;have h1:u=v:=q.2.2 (aL c);omega
  obtain⟨u,_,rfl⟩:=bl.1 hy;obtain⟨v,_,rfl⟩:=bl.1 hz;have h1:(a:Int)=(b:Int):=q.1;omega
 obtain⟨i,_,_,rfl⟩:=wq.1 hy;obtain⟨c,hc,hz⟩:=bA.1 hz;obtain⟨u,_,rfl⟩:=bl.1 hz;intro q;have h1:(-1:Int)=(c:Int):=q.1;omega
theorem Oi{t:cE}(ok:fj t)(d:cA)(h:Nat){i j:Nat}(hi:i<(dy t d h).length)(hj:j<(dy t d h).length)(q:Hk ((dy t d h).getD i aH) ((dy t d h).getD j aH)):i=j:=by
 have hd:=bq.1 (aqj ok d h);rw[cV hi,cV hj]at q;rcases Nat.lt_trichotomy i j with hlt|e|hgt
 .exact dP q (hd i j hi hj hlt)
 .exact e
 refine dP ?_ (hd j i hj hi hgt);exact⟨q.1.symm,λh=>(q.2.1 (q.1.symm▸h)).symm,λh=>(q.2.2 (q.1.symm▸h)).symm⟩
section
variable {t:cE} (ok:fj t) {d:cA} {h:Nat} {F:Nat->Int}
theorem Oj{x:dC}:x∈fB F (dy t d h)↔ ∃i,i<(dy t d h).length/\0<=((dy t d h).getD i aH).ct/\0<F i/\x=⟨((dy t d h).getD i aH).ct,((dy t d h).getD i aH).tm,F i⟩:=by
 unfold fB;rw[bA];constructor
 .rintro⟨i,hi,hx⟩;unfold o9 at hx;split at hx
  .rename_i hc;exact⟨i,aZ.1 hi,hc.1,hc.2,aX.1 hx⟩
  cases hx
 rintro⟨i,hi,h1,h2,rfl⟩;exact⟨i,aZ.2 hi,by unfold o9;rw[bS ⟨h1,h2⟩];exact aX.2 rfl⟩
include ok
theorem Ol(hi:∀ k,k<(dy t d h).length->F k<=((dy t d h).getD k aH).dv.cap):∀ x∈fB F (dy t d h),jA t d x:=by
 intro x hx;obtain⟨i,hl,h1,h2,rfl⟩:=Oj.1 hx;have hy:(dy t d h).getD i aH∈dy t d h:=by rw[cV hl];exact aV _
 have hcap:=hi i hl;rcases(Bu ok).1 hy with ⟨j,_,_,e⟩|⟨c,u,hc,hu,e⟩
 .rw[e]at h1;have h1:(0:Int)<= -1:=h1;omega
 rw[e]at hcap⊢;refine⟨⟨aL c,by show(c:Int)<_;omega⟩,⟨by show 1<=F i;omega,hcap⟩,?_⟩;show oT t d (c:Int).toNat u=true;rw[aK];exact hu
theorem Zi:(fB F (dy t d h)).Pairwise lV:=by
 unfold fB;rw[IN];refine⟨λi _=>by unfold o9;split<;>simp,?_⟩;rw[bq];intro a b ha hb hab x hx y hy q;rw[List.getElem_range]at hx hy;rw[bg]at ha hb;unfold o9 at hx hy;split at hx
 case isFalse=>cases hx
 split at hy
 case isFalse=>cases hy
 rename_i h1 h2;rw[aX.1 hx,aX.1 hy]at q;have:=Oi ok d h ha hb ⟨q.1,λh=>dP h1.1 (by omega),λ_=>q.2⟩;omega
theorem aqk(lo:∀ k,k<(dy t d h).length->0<=F k){k:Nat}(hk:k<(dy t d h).length)(hc:0<=((dy t d h).getD k aH).ct):pE (fB F (dy t d h)) ((dy t d h).getD k aH).ct ((dy t d h).getD k aH).tm=F k:=by
 rcases UZ ((dy t d h).getD k aH).ct ((dy t d h).getD k aH).tm (Zi (F:=F) ok (d:=d) (h:=h))with ⟨h0,hno⟩|⟨x,hx,h1,h2,h3⟩
 .rw[h0];have:=lo k hk;rcases Int.lt_or_eq_of_le this with hlt|e
  .exact dP ⟨rfl,rfl⟩ (hno _ (Oj.2 ⟨k,hk,hc,hlt,rfl⟩))
  exact e
 rw[h3];obtain⟨i,hi,g1,g2,rfl⟩:=Oj.1 hx;rw[Oi ok d h hi hk ⟨h1,λh=>dP g1 (by omega),λ_=>h2⟩]
noncomputable def nm(X:List XA)(F:Nat->Int)(y:XA):Int:=open Classical in if h:∃ k,k<X.length/\Hk (X.getD k aH) y then F (Classical.choose h)else 0
theorem Om{k:Nat}(hk:k<(dy t d h).length):nm (dy t d h) F ((dy t d h).getD k aH)=F k:=by
 have he:∃ j,j<(dy t d h).length/\Hk ((dy t d h).getD j aH) ((dy t d h).getD k aH):=⟨k,hk,rfl,λ_=>rfl,λ_=>rfl⟩;unfold nm;rw[dif_pos he];have hs:=Classical.choose_spec he;rw[Oi ok d h hs.1 hk hs.2]
theorem Zj(lo:∀ k,k<(dy t d h).length->0<=F k)(a b:Nat)(ha:a<t.bO.qs.length)(hb:b<h):
  dL (b9 (dq t d h)) (λk=>Fs t d h (fB F (dy t d h)) k-F k) (a*h+b)=(if b=h-1 then 0 else stM t d (fB F (dy t d h)) a b-nm (dy t d h) F (wX t d h (a*h+b)))-(if b=0 then 0 else stM t d (fB F (dy t d h)) a ((b-1:Nat):Int)-nm (dy t d h) F (wX t d h (a*h+(b-1)))):=by
 have hlt:=sU hb ha;have Jc:∀ y∈(a8 t.bO.bW.length).flatMap (iz t d h),pF t d h (fB F (dy t d h)) y-nm (dy t d h) F y=0:=λy hy=>by
  have hm:y∈dy t d h:=List.mem_append_right _ hy;obtain⟨k,hk,e⟩:=bn hm;rw[<-cV hk]at e;have hc:0<=y.ct:=by
   obtain⟨c,_,hz⟩:=bA.1 hy;obtain⟨u,_,rfl⟩:=bl.1 hz;exact aL c
  rw[Kz hy,<- e,Om ok hk,aqk ok lo hk (by rw[e];exact hc),aS]
 obtain⟨G,hG⟩:∃ G,G=λy=>pF t d h (fB F (dy t d h)) y-nm (dy t d h) F y:=⟨_,rfl⟩;have hw:∀ y∈dV t d h (t.bO.qs.length*h),G y=(λx z:Nat=>stM t d (fB F (dy t d h)) x z-nm (dy t d h) F (wX t d h (x*h+z))) (y.dv.fr.toNat/h) (y.dv.fr.toNat%h):=λy hy=>by
  rw[hG];show pF _ _ _ _ y-_=_;rw[Ky hy];obtain⟨i,hi,hm,rfl⟩:=wq.1 hy;show _=stM t d (fB F (dy t d h)) ((i/h:Nat):Int) ((i%h:Nat):Int)-nm (dy t d h) F (wX t d h (i/h*h+i%h));rw[Nat.div_add_mod' i h];rfl
 have hc0:∀ y∈(a8 t.bO.bW.length).flatMap (iz t d h),G y=0:=λy hy=>by rw[hG];exact Jc y hy
 rw[Hj (H:=λk=>G ((dy t d h).getD k aH)) (λk hk=>by
  have hk':k<(dy t d h).length:=by rw[<-Bt];exact hk
  rw[hG];show pF t d h (fB F (dy t d h)) ((dy t d h).getD k aH)-F k=pF t d h (fB F (dy t d h)) ((dy t d h).getD k aH)-nm (dy t d h) F ((dy t d h).getD k aH);rw[Om ok hk']),UR t d h G]
 have hX:∀ f:XA->Int,cT f (dy t d h)=cT f (dV t d h (t.bO.qs.length*h))+cT f ((a8 t.bO.bW.length).flatMap (iz t d h)):=λf=>nu _ _ _;rw[hX,ru (l:=(a8 t.bO.bW.length).flatMap (iz t d h)) (λy hy=>by rw[hc0 y hy];simp),aI,yz];rw[lY (λy hy=>by rw[hw y hy]),UT t d h _ a b (λx z:Nat=>stM t d (fB F (dy t d h)) x z-nm (dy t d h) F (wX t d h (x*h+z))) hb hlt];rw[lY (f:=λy=>if y.dv.to.toNat=a*h+b then G y else 0) (λy hy=>by rw[hw y hy]),UU t d h _ a b (λx z:Nat=>stM t d (fB F (dy t d h)) x z-nm (dy t d h) F (wX t d h (x*h+z))) hb hlt]
end
theorem Zk{t:cE}{d:cA}:∀ {l m:List dC},(∀x∈l,jA t d x)->l.Pairwise lV->(∀y∈m,∀ x∈l,lV y x)->o8 t d m l=0
 |[],m,_,_,_=>rfl
 |x::l,m,h1,h2,h3=>by
  rw[bH]at h2;have h4:nL t d x=0:=YE.2 (h1 x aY);have h5:(m.any λy=>y.ct==x.ct&&y.tm==x.tm)=false:=by
   rw[bJ];intro y hy q;simp only[aa,gH]at q;exact h3 y hy x aY q
  rw[o8,bQ (λq=>q h4),bQ (by rw[h5];exact Bool.false_ne_true)];refine Zk (λy hy=>h1 y (a6 _ hy)) h2.2 λy hy z hz=>?_;rcases bc.1 hy with hy|hy
  .exact h3 y hy z (a6 _ hz)
  rw[aX.1 hy];exact h2.1 z hz
section
variable {t:cE} (ok:fj t) {d:cA} (hd:gB t.bO.qs.length d) {h:Nat} (h2:2<=h) (hv:d.dead=d.ready+(h:Int)-1) {F:Nat->Int} {V:Int}
 (lo:∀ k,k<(dy t d h).length->0<=F k) (hi:∀ k,k<(dy t d h).length->F k<=((dy t d h).getD k aH).dv.cap)
 (hn:∀ v,dL (b9 (dq t d h)) F v=(if d.src.toNat*h=v then V else 0)-(if d.dst.toNat*h+(h-1)=v then V else 0))
include ok hd h2 hv lo hi hn
theorem Zl{a b:Nat}(ha:a<t.bO.qs.length)(hb:b<h-1):stM t d (fB F (dy t d h)) a b=nm (dy t d h) F (wX t d h (a*h+b)):=by
 have hS:=Ol ok (d:=d) (h:=h) hi;have hsrc:=hd.src;have gj:=hd.dst;have hne:=hd.ne;have key:∀ b,b<h-> ¬((a:Int)=d.src/\b=0)-> ¬((a:Int)≠d.src/\b=h-1)->(if b=h-1 then 0 else stM t d (fB F (dy t d h)) a b-nm (dy t d h) F (wX t d h (a*h+b)))-(if b=0 then 0 else stM t d (fB F (dy t d h)) a ((b-1:Nat):Int)-nm (dy t d h) F (wX t d h (a*h+(b-1))))=0:=λb hb g1 g2=>by
  rw[<-Zj ok lo a b ha hb,EB,UY ok h2 hv hS a b ha hb,hn,ru (λx _=>?_),bQ,bQ]
  .rfl
  .intro q;obtain⟨q1,q2⟩:=(ux (h:=h) (a:=d.dst.toNat) (b:=h-1) (a':=a) (b':=b) (by omega) hb).1 q;omega
  .intro q;obtain⟨q1,q2⟩:=(ux (h:=h) (a:=d.src.toNat) (b:=0) (a':=a) (b':=b) (by omega) hb).1 (by omega);omega
  unfold rL;by_cases e:(a:Int)=d.src
  .have e0:b≠0:=λq=>g1 ⟨e,q⟩;simp[e,e0]
  have e0:b≠h-1:=λq=>g2 ⟨e,q⟩;simp[e,e0]
 by_cases e:(a:Int)=d.src
 .have hm:∀ m b,b+m=h-2->stM t d (fB F (dy t d h)) a b-nm (dy t d h) F (wX t d h (a*h+b))=0:=by
   intro m
   induction m with
   |zero=>
    intro b hbm;have:=key (b+1) (by omega) (λq=>by omega) (λq=>q.1 e);rw[bS (by omega),bQ (by omega),asa]at this;omega
   |succ m ih=>
    intro b hbm;have h1:=ih (b+1) (by omega);have:=key (b+1) (by omega) (λq=>by omega) (λq=>q.1 e);rw[bQ (by omega),bQ (by omega),asa,h1]at this;omega
  have:=hm (h-2-b) b (by omega);omega
 have hm:∀ b,b<h-1->stM t d (fB F (dy t d h)) a b-nm (dy t d h) F (wX t d h (a*h+b))=0:=by
  intro b
  induction b with
  |zero=>
   intro hb0;have:=key 0 (by omega) (λq=>e q.1) (λq=>by omega);rw[bQ (by omega),bS rfl]at this;omega
  |succ b ih=>
   intro hb1;have h1:=ih (by omega);have:=key (b+1) (by omega) (λq=>e q.1) (λq=>by omega);rw[bQ (by omega),bQ (by omega),asa,h1]at this;omega
 have:=hm b hb;omega
theorem Zm{a:Nat}(ha:a<t.bO.qs.length):stM t d (fB F (dy t d h)) a ((h-1:Nat):Int)=if(a:Int)=d.dst then V else 0:=by
 have hS:=Ol ok (d:=d) (h:=h) hi;have hsrc:=hd.src;have gj:=hd.dst;have hne:=hd.ne;by_cases e:(a:Int)=d.src
 .rw[bQ (by omega)];refine ru λx hx=>?_;obtain⟨A,B,K,J,hf⟩:=Bw (h:=h) ok hv (hS x hx);have:=hf.KJ;have:=hf.Jh;unfold mW mw;rw[hf.hK,hf.hJ,bS e,bS e]
  (repeat' split)<;>omega
 rw[JP ok hv hS a e];have hno:¬ d.src.toNat*h=a*h+(h-1):=λg=>by
  obtain⟨q1,q2⟩:=(ux (h:=h) (a:=d.src.toNat) (b:=0) (a':=a) (b':=h-1) (by omega) (by omega)).1 (by omega);omega
 have h1:=Zj ok lo a (h-1) ha (by omega);rw[bS rfl,bQ (by omega),show h-1-1=h-2 by omega,Zl ok hd h2 hv lo hi hn ha (show h-2<h-1 by omega),aS,EB,UY ok h2 hv hS a (h-1) ha (by omega),hn,bQ hno]at h1;have h3:cT (λx=>rL d h (dS t x).fr (-x.n) a (h-1)+rL d h (dS t x).to x.n a (h-1)) (fB F (dy t d h))= -fS t (fB F (dy t d h)) a:=by
  have:∀ l:List dC,cT (λx=>rL d h (dS t x).fr (-x.n) a (h-1)+rL d h (dS t x).to x.n a (h-1)) l= -cT (kf t a) l:=λl=>by
   induction l with
   |nil=>rfl
   |cons x l ih=>
    rw[cT,cT,ih];unfold rL kf;simp only[e,ic,iI]
    (repeat' split)<;>omega
  exact this _
 rw[h3]at h1;by_cases q:(a:Int)=d.dst
 .rw[bS (show d.dst.toNat*h+(h-1)=a*h+(h-1) by rw[show d.dst.toNat=a by omega])]at h1;rw[bS q];omega
 rw[bQ (λg=>by
  obtain⟨q1,q2⟩:=(ux (h:=h) (a:=d.dst.toNat) (b:=h-1) (a':=a) (b':=h-1) (by omega) (by omega)).1 g;omega)]at h1
 rw[bQ q];omega
theorem aql(hV:0<=V):rA t d h (fB F (dy t d h))=(V,0):=by
 have gj:=hd.dst;have hS:=Ol ok (d:=d) (h:=h) hi;have hw:∀ a b,a<t.bO.qs.length->b<h-1-> ∃k,k<(dy t d h).length/\(dy t d h).getD k aH=wX t d h (a*h+b)/\stM t d (fB F (dy t d h)) a b=F k:=λa b ha hb=>by
  have hm:wX t d h (a*h+b)∈dy t d h:=bF _ (wq.2 ⟨a*h+b,sU (by omega) ha,by rw[jT (by omega)];omega,rfl⟩);obtain⟨k,hk,e⟩:=bn hm;rw[<-cV hk]at e;exact⟨k,hk,e,by rw[Zl ok hd h2 hv lo hi hn ha hb,<- e,Om ok hk]⟩
 unfold rA;rw[Zk hS (Zi ok) (λy hy=>by cases hy),bQ (λq=>q rfl),bQ,bQ]
 .have:=Zm ok hd h2 hv lo hi hn (a:=d.dst.toNat) (by omega);rw[aJ gj.1,bS rfl]at this;rw[this]
 .rw[ai,br];intro a ha;rw[br];intro b hb;have ha:=aZ.1 ha;have hb:=aZ.1 hb;obtain⟨k,hk,e,hst⟩:=hw a b ha hb;unfold qw;rw[ar,aq,gU];by_cases g:mV d a=true
  .right;have h1:=hi k hk;rw[e]at h1;have h3:jm t d (((a*h+b)/h:Nat):Int) (sS d h (a*h+b))=lC t a (d.ready+(b:Int)):=by
    unfold mV at g;simp only[aa,mX]at g;unfold jm sS lC;rw[l8 (by omega),jT (by omega),bQ (λq=>q.elim g.1 g.2)]
   have h4:(wX t d h (a*h+b)).dv.cap=jm t d (((a*h+b)/h:Nat):Int) (sS d h (a*h+b)):=rfl;rw[h4,h3]at h1;rw[hst];omega
  left;exact au.2 g
 rw[ai,br];intro a ha;have ha:=aZ.1 ha;have hl:=Zm ok hd h2 hv lo hi hn ha;unfold pt;rw[aa];refine⟨cw ((JH _ _).2 λi hi2=>?_),?_⟩
 .by_cases e:i=h-1
  .rw[e,hl];split<;>omega
  obtain⟨k,hk,_,hst⟩:=hw a i ha (by omega);rw[hst];exact lo k hk
 rw[hl];by_cases q:(a:Int)=d.dst
 .have:mV d a=false:=by unfold mV;rw[q];simp
  rw[this];rfl
 rw[bQ q];simp
end
theorem TC{t:cE}(ok:fj t){d:cA}(hd:gB t.bO.qs.length d){h:Nat}(h2:2<=h)(hv:d.dead=d.ready+(h:Int)-1)(Dg:d.fF<=ji t d h):rA t d h (fB (eE (p9 t d h)) (dy t d h))=(d.fF,0):=by
 obtain⟨n1,n2,n3,n4⟩:=sJ ok hd h2 hv;obtain⟨m1,m2,m3⟩:=Df ok hd h2 hv;obtain⟨p1,p2⟩:=Y9 ok hd h2 hv Dg;have h0:=hd.fF;have ps:=AL n4 (De ok hd h2 hv) ((dL (b9 (dq t d h)) (dh (jU t d h)) (d.src.toNat*h)).toNat+1) m2 (by omega);have nd:=I3 (v:=d.fF) ps.2.1 (by omega) (by rw[ps.1,m3];exact Dg);have hu:=I4 n4 nd.2.1;rw[nd.1]at hu;have hm:∀ k,k<(dy t d h).length->k<(b9 (dq t d h)).m:=λk hk=>by show k<(dq t d h).length;rw[Bt];exact hk
 have hF:∀ k,k<(dy t d h).length->eE (p9 t d h) k=xh t d h k:=λk hk=>Dd (hm k hk);refine aql ok hd h2 hv (λk hk=>by rw[hF k hk];exact p1.lo k (hm k hk)) (λk hk=>by rw[hF k hk,<- Kv t d h k hk];exact p1.hi k (hm k hk)) (λv=>?_) (by omega);rw[Hj (H:=xh t d h) (λk hk=>Dd hk)];exact hu v
theorem aqm{t:cE}(ok:fj t){d:cA}(hd:gB t.bO.qs.length d){h:Nat}(hq:t.bO.qs.length<=6)(hH:d.dead=d.ready+h-1/\2<=h/\h<=25):xf t d h (ir d h t.bO.qs.length (jG t d h))=(ji t d h,0):=by
 obtain⟨n1,n2,n3,n4⟩:=sJ ok hd hH.2.1 hH.1;obtain⟨m1,m2,m3⟩:=Df ok hd hH.2.1 hH.1;have hA:=vW ok (d:=d) hH.2.1 hH.1;have hN:t.bO.qs.length*h<=150:=by have:=ar0 hq hH.2.2;omega
 have hlen:(jG t d h).length<=t.bO.qs.length*h:=by
  unfold jG mP;have:=bD (jv (en (b9 (dq t d h))) (rm (b9 (dq t d h)) (dh (jU t d h))) (d.src.toNat*h)) (a8 (t.bO.qs.length*h));rwa[bg]at this
 obtain⟨B,hB⟩:∃ B,B=jv (en (b9 (dq t d h))) (rm (b9 (dq t d h)) (dh (jU t d h))) (d.src.toNat*h):=⟨_,rfl⟩;have hmem:∀ v,v∈jG t d h↔v<t.bO.qs.length*h/\B v=true:=λv=>by unfold jG mP;rw[anc,aZ,hB]
 have hs:B (d.src.toNat*h)=true:=by rw[hB];exact AG.2 .refl
 have ht:B (d.dst.toNat*h+(h-1))=false:=by
  have hc:∀ k,k<(b9 (dq t d h)).m->0<=(b9 (dq t d h)).cap k:=λk hk=>by
   have hk':k<(dq t d h).length:=hk;exact(hA ((dq t d h).getD k aH) (by rw[cV hk'];exact aV _)).cap.1
  obtain⟨q1,q2⟩:=xW n4 hc;obtain⟨hb,hcl⟩:=ss (R:=rm (b9 (dq t d h)) (kx (b9 (dq t d h)) (t.bO.qs.length*h) (d.src.toNat*h) (d.dst.toNat*h+(h-1)))) (Av n4) n4.lt;rw[au];intro hr;rw[hB]at hr;have hr:=AG.1 hr;have key:∀ v,Reach (en (b9 (dq t d h))) (rm (b9 (dq t d h)) (dh (jU t d h))) (d.src.toNat*h) v->0<=eL (en (b9 (dq t d h))) (rm (b9 (dq t d h)) (kx (b9 (dq t d h)) (t.bO.qs.length*h) (d.src.toNat*h) (d.dst.toNat*h+(h-1)))) (t.bO.qs.length*h) (d.dst.toNat*h+(h-1)) v->0<=eL (en (b9 (dq t d h))) (rm (b9 (dq t d h)) (kx (b9 (dq t d h)) (t.bO.qs.length*h) (d.src.toNat*h) (d.dst.toNat*h+(h-1)))) (t.bO.qs.length*h) (d.dst.toNat*h+(h-1)) (d.src.toNat*h):=by
   intro v hv
   induction hv with
   |refl=>exact id
   | @step j hj hR hp ih=>
    intro h0;refine ih (hcl j hj h0 ?_);have e:rm (b9 (dq t d h)) (kx (b9 (dq t d h)) (t.bO.qs.length*h) (d.src.toNat*h) (d.dst.toNat*h+(h-1))) j=rm (b9 (dq t d h)) (dh (jU t d h)) j:=by
     unfold rm;rw[show dh (jU t d h) (j/2)=kx (b9 (dq t d h)) (t.bO.qs.length*h) (d.src.toNat*h) (d.dst.toNat*h+(h-1)) (j/2)from AD _ _ _ (vG hj)]
    rw[e];exact hR
  have:=key _ hr (by rw[hb.d0];exact aM _);omega
 rw[ap2 hd hH hA (show(jG t d h).Pairwise (· < ·)from bw.filter _) (λv hv=>((hmem v).1 hv).1) (by omega) ((hmem _).2 ⟨n1,hs⟩) (λq=>by rw[((hmem _).1 q).2]at ht;cases ht)];have e:nr (b9 (dq t d h)) (lR (jG t d h))=nr (b9 (dq t d h)) B:=by
  have hh:∀ v,v<t.bO.qs.length*h->lR (jG t d h) v=B v:=λv hv=>by
   rw[ae];unfold lR;rw[show(List.contains (jG t d h) v=true)↔v∈jG t d h by simp,hmem];exact⟨λq=>q.2,λq=>⟨hv,q⟩⟩
  unfold nr;exact iW λk hk=>by rw[hh _ (n4.fr k hk),hh _ (n4.to k hk)]
 have hB2:B=jv (en (b9 (dq t d h))) (rm (b9 (dq t d h)) (dh (jU t d h))) (d.src.toNat*h):=hB;rw[e,<- m3,UG n4 m2 hs ht λj hj h1 h2=>?_];rcases Int.lt_or_le 0 (rm (b9 (dq t d h)) (dh (jU t d h)) j)with h3|h3
 .rw[hB2]at h1 h2;have h4:=AG.2 (Reach.step (show j<2*(b9 (dq t d h)).m by omega) h3 (AG.1 h1));have h5:false=true:=h2.symm.trans h4;cases h5
 exact h3
theorem Zn{F:Nat->Int}{A:List XA}(hA:fB F A=[]):∀ n (C:List XA),C.length=n->(fB F (A++C)).length<=n
 |0,C,hn=>by rw[List.eq_nil_of_length_eq_zero hn,a7,hA];exact ar1 _
 |n+1,C,hn=>by
  have hne:C≠[]:=by rintro rfl;cases hn
  rw[<-List.dropLast_concat_getLast hne,<- bp,Oe,aW];have h1:=Zn hA n C.dropLast (by rw[List.length_dropLast,hn];rfl);have h2:(o9 F (C.getLast hne) (A++C.dropLast).length).length<=1:=by unfold o9;split<;>simp
  omega
theorem TD{t:cE}(ok:fj t){d:cA}{h:Nat}{F:Nat->Int}(hh:d.dead-d.ready<=24):(fB F (dy t d h)).length<=1600:=by
 unfold dy;refine asm (Zn (Of t d h _ F) _ _ rfl) ?_;have h3:((a8 t.bO.bW.length).flatMap (iz t d h)).length<=(a8 t.bO.bW.length).length*24:=yD λx _=>by
  unfold iz;rw[bd];have:=Br ok d x;omega
 have h4:=ok.p.m;rw[bg]at h3;omega
theorem Bb(t:cE)(d:cA)(h:Nat)(ht:fW t=0)(hd:gB t.bO.qs.length d)(hq:t.bO.qs.length<=6)(hH:d.dead=d.ready+h-1/\2<=h/\h<=25):cJ ay 13 [.agg t.cells,.agg d.cells,.agg (l4 t d h).cells] (.int .i64 0,none):=by
 have ok:=kS ht;have hN:t.bO.qs.length*h<=150:=by have:=ar0 hq hH.2.2;omega
 by_cases hv:ji t d h<d.fF
 .have e:l4 t d h=⟨false,ji t d h,[],ir d h t.bO.qs.length (jG t d h)⟩:=by unfold l4;rw[bS hv]
  obtain⟨s1,s2,s3⟩:=Zb (t:=t) (d:=d) (h:=h);have hlen:(ir d h t.bO.qs.length (jG t d h)).length=t.bO.qs.length:=by
   have:=(xg hd.ready (show d.ready+(h:Int)<=1099511627777 by have:=hd.dead;omega) (by omega) s2 s1 (by omega) (jG t d h).length (ar1 _)).len;rwa[bk]at this
  have cC:=apS t d h (ir d h t.bO.qs.length (jG t d h)) ht hd hq hH (by omega);rw[aqm ok hd hq hH]at cC;rw[e];refine c8 CM aC rfl ?_;exact b8 zE (rfl) (cj zE (cC) (b8 zE (rfl) (b8 zE (by show(ji t d h !=ji t d h)=false;simp) (b8 zE (by show decide (ji t d h>=d.fF)=false;exact dQ (by omega)) (b8 zE (by show decide (((0:Nat):Int)>0)=false;exact dQ (by omega)) (cL zE rfl rfl (bY.refl _)))))))
 have e:l4 t d h=⟨true,d.fF,fB (eE (p9 t d h)) (dy t d h),[]⟩:=by unfold l4;rw[bQ hv]
 have cF:=apJ t d h (fB (eE (p9 t d h)) (dy t d h)) ht hd hH (TD ok (by omega));rw[TC ok hd hH.2.1 hH.1 (aU.1 hv)]at cF;rw[e];refine c8 CM aC rfl ?_;exact cD zE (rfl) (cj zE (cF) (b8 zE (rfl) (b8 zE (by show(d.fF !=d.fF)=false;simp) (b8 zE (by show(d.fF !=d.fF)=false;simp) (b8 zE (by show decide (((0:Nat):Int)>0)=false;exact dQ (by omega)) (cL zE rfl rfl (bY.refl _)))))))
structure um(t:cE)(d:cA):Prop where
 ct:fW t=0
 od:gB t.bO.qs.length d
 q6:t.bO.qs.length<=6
 hh:d.dead=d.ready+((d.dead-d.ready+1).toNat:Int)-1/\2<=(d.dead-d.ready+1).toNat/\(d.dead-d.ready+1).toNat<=25
theorem aj3{t:cE}{d:cA}(h:(!sK t d&&(fW t==0&&sL t.bO.qs.length d))=true):um t d:=by
 simp only[aa,ar,gH]at h;obtain⟨h1,h2,h3⟩:=h;have hd:=ak9.1 h3;unfold sK Bm at h1;simp only[Bool.or_eq_false_iff,aq,gU]at h1;obtain⟨⟨g1,g2,g3,g4⟩,g5⟩:=h1;have r1:=hd.ready;have r2:=hd.lt;have r3:=hd.dead;have r4:=hd.TJ;have e1:av.wrap (d.ready+24)=d.ready+24:=dG;have e2:av.wrap (d.ready+100)=d.ready+100:=dG;rw[e1,e2]at g5;exact⟨h2,hd,by omega,by omega⟩
end Go.Proofs.YtjhmdfofhnijeaaGreatDoor
