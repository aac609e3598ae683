import Derived.Test.YtjhmdfofhnijeaaGreatDoorP1
import Derived.Test.YtjhmdfofhnijeaaGreatDoorProg
open Bool renaming not_eq_true'->aa, and_eq_true->ab, or_eq_true->ae, eq_iff_iff->af
open Go.Proofs.Tryz renaming prog->ai
open Go.Sy.NS renaming ret->aj, gu->ak, loop->al
open Inhabited renaming default->aq
open Int renaming le_refl->ar, le_trans->au, toNat_of_nonneg->av, lt_or_eq_of_le->ay
open List renaming mem_cons_of_mem->az, mem_cons_self->aA, mem_cons->aB, getElem_mem->aC, pairwise_cons->aD, mem_singleton->aF, length_cons->aG, range->aH, mem_append->aI, mem_range->aJ, mem_append_left->aK, mem_filter->aL, mem_map->aM, mem_flatMap->aN, drop_length->aO, length_map->aP, length_filter_le->aQ, filter_append->aR, pairwise_map->aS, range_succ->aT, nodup_cons->aU, map_append->aV, mem_take_iff_getElem->aW, pairwise_singleton->aX, pairwise_append->aY, flatMap_cons->aZ, any_eq_false->a6, filter_cons->a7, cons_append->a8, length_nil->ba, map_cons->bc
open List.Pairwise renaming nil->bd, filter->bg
open Nat renaming zero_le->bh, mul_comm->bj, lt_or_ge->bk, le_trans->bl, add_mul->bn
set_option linter.all false
namespace Go.Proofs.YtjhmdfofhnijeaaGreatDoor
open Go.Sy Go.Mb
set_option maxRecDepth 100000
set_option maxHeartbeats 4000000
noncomputable def EM:Env:={ P:=ai,lJ:=lK [] }
theorem qf:ib EM:=zK (tab:=[]) (λp hp=>by cases hp)
noncomputable def CM:Cx:={ E:=EM,inl:=[],ok:=qf }
theorem Bn(n lo hi:Int):cJ ai 192 [.int .i64 n,.int .i64 lo,.int .i64 hi] (.bool (fY n lo hi),none):=by
 refine c8 CM Tryz.func192 rfl ?_;refine cK zE (λh=>?_) (λh=>?_)
 .exact cL zE rfl rfl (fk ((T8 h)))
 exact cL zE rfl rfl (fk ((T9 h)))
theorem Ke(c:fV):cJ ai 161 [.agg c.cells] (.int .i64 (l5 c),none):=by
 refine c8 CM Tryz.func161 rfl ?_
 repeat' (first|(refine cK zE (λh=>?_) (λh=>?_))|(refine cN zE ?_)|(exact cL zE rfl rfl (dY ((by unfold l5 fY;simp only[dN,gU,gH,beq_eq_false_iff_ne]at *;simp only[ae,aa,dN,gU,gH];(repeat' split)<;>omega)))))
theorem Kf(c:fV):cJ ai 133 [.agg c.cells] (.int .i64 (l5 c),none):=by
 refine c8 CM Tryz.func133 rfl ?_
 repeat' (first|(refine cK zE (λh=>?_) (λh=>?_))|(refine cN zE ?_)|(refine cj zE (Bn c.fr 0 15) ?_)|(refine cj zE (Bn c.to 0 15) ?_)|(refine cj zE (Bn c.gn 1 1000) ?_)|(refine cj zE (Bn c.c7 1 1048576) ?_)|(refine cj zE (Bn c.rH 0 16) ?_)|(exact cL zE rfl rfl (dY ((by unfold l5;simp only[fY,dN,gU,gH,beq_eq_false_iff_ne,aa,Bool.not_eq_false']at *;simp only[ae,aa,dN,gU,gH];(repeat' split)<;>omega)))))
theorem ala(a b:fV):cJ ai 162 [.agg a.cells,.agg b.cells] (.bool (l6 a b),none):=by
 refine c8 CM Tryz.func162 rfl ?_
 repeat' (first|(refine cK zE (λh=>?_) (λh=>?_))|(refine cN zE ?_)|(refine cj zE (Ke a) ?_)|(refine cj zE (Ke b) ?_)|(exact cL zE rfl rfl (fk ((by unfold l6;simp only[*,Bool.true_and,Bool.false_and])))))
theorem Kg{a b:fV}:l6 a b=true↔l5 a=0/\l5 b=0/\a.fr=b.fr/\a.to=b.to/\a.start<b.stop/\b.start<a.stop:=by
 unfold l6;simp only[ab,gH,dN]
theorem alb(a b:fV):cJ ai 136 [.agg a.cells,.agg b.cells] (.bool (l6 a b),none):=by
 have ha:=Kb (c:=a);have hb:=Kb (c:=b);refine c8 CM Tryz.func136 rfl ?_
 repeat' (first|(refine cK zE (λh=>?_) (λh=>?_))|(refine cN zE ?_)|(refine cj zE (Kf a) ?_)|(refine cj zE (Kf b) ?_)|(exact cL zE rfl rfl (fk ((by rw[af,Kg];simp only[dN,gU,gH,beq_eq_false_iff_ne,mX,bne_eq_false_iff_eq,Bool.false_eq_true,false_iff]at *;omega)))))
theorem alc(a b:fV):l6 a b=l6 b a:=by
 rw[af,Kg,Kg];constructor<;>(rintro⟨h1,h2,h3,h4,h5,h6⟩;exact⟨h2,h1,h3.symm,h4.symm,h6,h5⟩)
theorem Ek{α:Type}[Inhabited α](p:α->Bool)(l:List α):decide (idx p l>=0)=l.any p:=by
 have:=ald p l;cases h:l.any p with
 |false=>rw[h]at this;simp only[iff_true]at this;simp;omega
 |true=>rw[h]at this;simp only[Bool.true_eq_false,iff_false]at this;simp;omega
theorem ale(l:List fV)(hl:l.length<=1000000)(f c:Nat)(el:Nat->A)(p:fV->Bool)(hc:∀ x,x∈l->cJ ai f [.agg (fV.cells x),.ip c el] (.bool (p x),none)):cJ ai 193 [nv l,.fn f [.ip c el]] (.int .i64 (idx p l),none):=by
 refine c8 CM Tryz.func193 rfl ?_;refine zG zE ?_;refine al (σ:={ k:Nat // k<=l.length/\ ∀i,i<k->p (l.getD i aq)=false }) (λk=>[(0,nv l),(1,.fn f [.ip c el]),(7,.int .i64 l.length),(8,.int .i64 k.1)]) (λ_=>[]) (λk=>l.length-k.1) ⟨0,bh _,λi hi=>by omega⟩ ?_ ?_
 .exact cB [] ⟨rfl,rfl,rfl,rfl,bP⟩ trivial
 rintro⟨k,(hk:k<=l.length),hn⟩;refine cK zE (λa=>?_) (λa=>?_)
 .have a:k<l.length:=by have a:decide ((k:Int)<(l.length:Int))=true:=a;have:=fv a;omega
  refine bU zE (by show decide (0<=(k:Int)/\(k:Int)<(l.length:Int))=true;exact cw (by omega)) (cj zE (hc (l.getD k aq) (by rw[cV a];exact aC _)) (cK zE (λb=>?_) (λb=>?_)))
  .exact zG zE (ak rfl zE (aj rfl rfl (dY (((Ei a b hn).symm)))))
  refine cH zE ⟨k+1,a,λi hi=>by rcases bk i k with h|h;exact hn i h;rw[show i=k by omega];exact b⟩ (dp a) ?_;exact cB [] ⟨rfl,rfl,rfl,c6 (n:=l.length) a,bP⟩ trivial
 have a:k=l.length:=by have a:decide ((k:Int)<(l.length:Int))=false:=a;have:=eY a;omega
 subst a;refine dt zE rfl zE ?_;exact zG zE (aj rfl rfl (dY (((Ej λi hi=>hn i hi).symm))))
theorem alf(l:List fV)(hl:l.length<=1000000)(f c:Nat)(el:Nat->A)(p:fV->Bool)(hc:∀ x,x∈l->cJ ai f [.agg (fV.cells x),.ip c el] (.bool (p x),none)):cJ ai 134 [nv l,.fn f [.ip c el]] (.bool (l.any p),none):=by
 refine c8 CM Tryz.func134 rfl ?_;exact cj zE (ale l hl f c el p hc) (cL zE rfl rfl (fk ((Ek p l))))
theorem alg(l:List cU)(hl:l.length<=1000000)(f c:Nat)(el:Nat->A)(p:cU->Bool)(hc:∀ x,x∈l->cJ ai f [.agg (cU.cells x),.ip c el] (.bool (p x),none)):cJ ai 120 [fM l,.fn f [.ip c el]] (.int .i64 (idx p l),none):=by
 refine c8 CM Tryz.func120 rfl ?_;refine zG zE ?_;refine al (σ:={ k:Nat // k<=l.length/\ ∀i,i<k->p (l.getD i aq)=false }) (λk=>[(0,fM l),(1,.fn f [.ip c el]),(7,.int .i64 l.length),(8,.int .i64 k.1)]) (λ_=>[]) (λk=>l.length-k.1) ⟨0,bh _,λi hi=>by omega⟩ ?_ ?_
 .exact cB [] ⟨rfl,rfl,rfl,rfl,bP⟩ trivial
 rintro⟨k,(hk:k<=l.length),hn⟩;refine cK zE (λa=>?_) (λa=>?_)
 .have a:k<l.length:=by have a:decide ((k:Int)<(l.length:Int))=true:=a;have:=fv a;omega
  refine bU zE (by show decide (0<=(k:Int)/\(k:Int)<(l.length:Int))=true;exact cw (by omega)) (cj zE (hc (l.getD k aq) (by rw[cV a];exact aC _)) (cK zE (λb=>?_) (λb=>?_)))
  .exact zG zE (ak rfl zE (aj rfl rfl (dY (((Ei a b hn).symm)))))
  refine cH zE ⟨k+1,a,λi hi=>by rcases bk i k with h|h;exact hn i h;rw[show i=k by omega];exact b⟩ (dp a) ?_;exact cB [] ⟨rfl,rfl,rfl,c6 (n:=l.length) a,bP⟩ trivial
 have a:k=l.length:=by have a:decide ((k:Int)<(l.length:Int))=false:=a;have:=eY a;omega
 subst a;refine dt zE rfl zE ?_;exact zG zE (aj rfl rfl (dY (((Ej λi hi=>hn i hi).symm))))
theorem Jq(l:List cU)(hl:l.length<=1000000)(f c:Nat)(el:Nat->A)(p:cU->Bool)(hc:∀ x,x∈l->cJ ai f [.agg (cU.cells x),.ip c el] (.bool (p x),none)):cJ ai 61 [fM l,.fn f [.ip c el]] (.bool (l.any p),none):=by
 refine c8 CM Tryz.func61 rfl ?_;exact cj zE (alg l hl f c el p hc) (cL zE rfl rfl (fk ((Ek p l))))
theorem alh(c d:fV):cJ ai 135 [.agg d.cells,.ip 7 (bT c.cells)] (.bool (l6 d c),none):=by
 refine c8 CM Tryz.func135 rfl ?_;exact cj zE (alb c d) (cL zE rfl rfl (fk ((alc c d))))
theorem ali(l:List fV){k:Nat}(hk:k<=l.length):bY (.sl 7 (((k:Int)-0).toNat) (λi=>cO fV.cells l ((0:Int).toNat+i))) (nv (l.take k)):=by
 refine bY.sl (by simp;omega) λi hi j hj=>?_;have hi:i<k:=by omega
 show cO fV.cells l (0+i) j=cO fV.cells (l.take k) i j;unfold cO;rw[Nat.zero_add,cV (show i<l.length by omega),cV (by simp;omega)];simp
theorem Um{n:Int}{l:List fV}{k:Nat}(h:k<l.length):qD n (l.take k) (l.drop k)=if l5 (l.getD k aq)!=0 then l5 (l.getD k aq)else if decide ((l.getD k aq).fr>=n)||decide ((l.getD k aq).to>=n)then 2 else if(l.take k).any (λd=>l6 d (l.getD k aq))then 14 else qD n (l.take (k+1)) (l.drop (k+1)):=by
 rw[drop_cons h,qD,gg h]
theorem Un{l:List Int}{k:Nat}(h:k<l.length):oS (l.drop k)=if decide (l.getD k aq<0)||decide (l.getD k aq>1073741824)then 2 else oS (l.drop (k+1)):=by
 rw[drop_cons h,oS]
theorem cZ{n k:Nat}(h:k<n):decide (0<=(k:Int)/\(k:Int)<(n:Int))=true:=cw (by omega)
theorem Kh(p:fE)(h1:p.qs.length<=1000000)(h2:p.bW.length<=1000000):cJ ai 83 [.agg p.cells] (.int .i64 (jB p),none):=by
 obtain⟨R,hR⟩:∃ R,R=jB p:=⟨_,rfl⟩;rw[<-hR];unfold jB at hR;refine c8 CM Tryz.func83 rfl ?_;refine cK zE (λa=>?_) (λa=>?_)
 .rw[bS (by rw[show decide ((p.qs.length:Int)<1)=true from a];rfl)]at hR;exact cL zE rfl rfl (dY ((hR.symm)))
 refine cK zE (λb=>?_) (λb=>?_)
 .rw[bS (by rw[show decide ((p.qs.length:Int)>16)=true from b];simp)]at hR;exact cL zE rfl rfl (dY ((hR.symm)))
 refine cK zE (λc=>?_) (λc=>?_)
 .rw[bS (by rw[show decide ((p.bW.length:Int)>64)=true from c];simp)]at hR;exact cL zE rfl rfl (dY ((hR.symm)))
 rw[bQ (by rw[show decide ((p.qs.length:Int)<1)=false from a,show decide ((p.qs.length:Int)>16)=false from b,show decide ((p.bW.length:Int)>64)=false from c];simp)]at hR;have b:p.qs.length<=16:=by have:=eY b;omega
 have c:p.bW.length<=64:=by have:=eY c;omega
 refine zG zE ?_;refine al (σ:={ k:Nat // k<=p.qs.length/\oS (p.qs.drop k)=oS p.qs }) (λk=>[(1,.ptr 1 0),(3,.int .i64 p.qs.length),(25,eD p.qs),(26,.int .i64 p.qs.length),(27,.int .i64 (k.1:Nat))]) (λ_=>[(1,.box p.cells)]) (λk=>p.qs.length-k.1) ⟨0,bh _,rfl⟩ ?_ ?_
 .exact cB [] ⟨rfl,rfl,rfl,rfl,rfl,bP⟩ ⟨bV,bP⟩
 rintro⟨k,(hk:k<=p.qs.length),hq⟩;refine cK zE (λa=>?_) (λa=>?_)
 .have a:k<p.qs.length:=by have a:decide ((k:Int)<(p.qs.length:Int))=true:=a;have:=fv a;omega
  rw[Un a]at hq;refine bU zE (cZ a) (cK zE (λa1=>?_) (λa1=>?_))
  .rw[bS (by rw[show decide (p.qs.getD k aq<0)=true from a1];rfl)]at hq;rw[<-hq,bS (by decide)]at hR;exact zG zE (ak rfl zE (aj rfl rfl (dY ((hR.symm)))))
  refine cK zE (λa2=>?_) (λa2=>?_)
  .rw[bS (by rw[show decide (p.qs.getD k aq>1073741824)=true from a2];simp)]at hq;rw[<-hq,bS (by decide)]at hR;exact zG zE (ak rfl zE (aj rfl rfl (dY ((hR.symm)))))
  rw[bQ (by rw[show decide (p.qs.getD k aq<0)=false from a1,show decide (p.qs.getD k aq>1073741824)=false from a2];simp)]at hq;refine cH zE ⟨k+1,a,hq⟩ (dp a) ?_;exact cB [] ⟨rfl,rfl,rfl,rfl,c6 (n:=p.qs.length) a,bP⟩ ⟨bV,bP⟩
 have a:k=p.qs.length:=by have a:decide ((k:Int)<(p.qs.length:Int))=false:=a;have:=eY a;omega
 subst a;rw[aO]at hq;rw[<-hq,bQ (by decide)]at hR;refine dt zE rfl zE ?_;refine zG zE ?_;refine al (σ:={ k:Nat // k<=p.bW.length/\R=qD p.qs.length (p.bW.take k) (p.bW.drop k) }) (λk=>[(1,.ptr 1 0),(3,.int .i64 p.qs.length),(39,nv p.bW),(40,.int .i64 p.bW.length),(41,.int .i64 (k.1:Nat))]) (λ_=>[(1,.box p.cells)]) (λk=>p.bW.length-k.1) ⟨0,bh _,hR⟩ ?_ ?_
 .exact cB [] ⟨rfl,rfl,rfl,rfl,rfl,bP⟩ ⟨bV,bP⟩
 rintro⟨k,(hk:k<=p.bW.length),hR⟩;refine cK zE (λa=>?_) (λa=>?_)
 .have a:k<p.bW.length:=by have a:decide ((k:Int)<(p.bW.length:Int))=true:=a;have:=fv a;omega
  rw[Um a]at hR
  repeat' (first|(refine bU zE (cZ a) ?_)|(refine cN zE ?_)|(refine cj zE (Kf (p.bW.getD k aq)) ?_))
  refine cK zE (λb1=>?_) (λb1=>?_)
  .rw[bS b1]at hR;exact zG zE (ak rfl zE (aj rfl rfl (dY ((hR.symm)))))
  rw[bQ (by rw[show(l5 (p.bW.getD k aq)!=0)=false from b1];decide)]at hR;refine cK zE (λb2=>?_) (λb2=>?_)
  .rw[bS (by rw[show decide ((p.bW.getD k aq).fr>=(p.qs.length:Int))=true from b2];rfl)]at hR;exact zG zE (ak rfl zE (aj rfl rfl (dY ((hR.symm)))))
  refine cK zE (λb3=>?_) (λb3=>?_)
  .rw[bS (by rw[show decide ((p.bW.getD k aq).to>=(p.qs.length:Int))=true from b3];simp)]at hR;exact zG zE (ak rfl zE (aj rfl rfl (dY ((hR.symm)))))
  rw[bQ (by rw[show decide ((p.bW.getD k aq).fr>=(p.qs.length:Int))=false from b2,show decide ((p.bW.getD k aq).to>=(p.qs.length:Int))=false from b3];simp)]at hR
  repeat' (first|(refine bU zE (by show decide ((0:Int)<=0/\(0:Int)<=(k:Int)/\(k:Int)<=(p.bW.length:Int))=true;exact cw (by omega)) ?_)|(refine cN zE ?_)|(refine cj zE ((alf (p.bW.take k) (by simp;omega) 135 7 (bT (p.bW.getD k aq).cells) (λd=>l6 d (p.bW.getD k aq)) (λx _=>alh (p.bW.getD k aq) x)).le (db.cons (ali _ (by omega)) (db.cons (bY.refl _) db.nil))) ?_))
  refine cK zE (λb4=>?_) (λb4=>?_)
  .rw[bS b4]at hR;exact zG zE (ak rfl zE (aj rfl rfl (dY ((hR.symm)))))
  rw[bQ (by rw[show((p.bW.take k).any λd=>l6 d (p.bW.getD k aq))=false from b4];decide)]at hR;refine cH zE ⟨k+1,a,hR⟩ (dp a) ?_;exact cB [] ⟨rfl,rfl,rfl,rfl,c6 (n:=p.bW.length) a,bP⟩ ⟨bV,bP⟩
 have a:k=p.bW.length:=by have a:decide ((k:Int)<(p.bW.length:Int))=false:=a;have:=eY a;omega
 subst a;rw[aO,qD]at hR;refine dt zE rfl zE ?_;exact zG zE (aj rfl rfl (dY ((hR.symm))))
theorem Ki(p:fE)(h1:p.qs.length<=1000000)(h2:p.bW.length<=1000000):cJ ai 102 [.agg p.cells] (.int .i64 (jB p),none):=by
 obtain⟨R,hR⟩:∃ R,R=jB p:=⟨_,rfl⟩;rw[<-hR];unfold jB at hR;refine c8 CM Tryz.func102 rfl ?_;refine cK zE (λa=>?_) (λa=>?_)
 .rw[bS (by rw[show decide ((p.qs.length:Int)<1)=true from a];rfl)]at hR;exact cL zE rfl rfl (dY ((hR.symm)))
 refine cK zE (λb=>?_) (λb=>?_)
 .rw[bS (by rw[show decide ((p.qs.length:Int)>16)=true from b];simp)]at hR;exact cL zE rfl rfl (dY ((hR.symm)))
 refine cK zE (λc=>?_) (λc=>?_)
 .rw[bS (by rw[show decide ((p.bW.length:Int)>64)=true from c];simp)]at hR;exact cL zE rfl rfl (dY ((hR.symm)))
 rw[bQ (by rw[show decide ((p.qs.length:Int)<1)=false from a,show decide ((p.qs.length:Int)>16)=false from b,show decide ((p.bW.length:Int)>64)=false from c];simp)]at hR;have b:p.qs.length<=16:=by have:=eY b;omega
 have c:p.bW.length<=64:=by have:=eY c;omega
 refine zG zE ?_;refine al (σ:={ k:Nat // k<=p.qs.length/\oS (p.qs.drop k)=oS p.qs }) (λk=>[(1,.ptr 1 0),(3,.int .i64 (k.1:Nat))]) (λ_=>[(1,.box p.cells)]) (λk=>p.qs.length-k.1) ⟨0,bh _,rfl⟩ ?_ ?_
 .exact cB [] ⟨rfl,rfl,bP⟩ ⟨bV,bP⟩
 rintro⟨k,(hk:k<=p.qs.length),hq⟩;refine cK zE (λa=>?_) (λa=>?_)
 .have a:k<p.qs.length:=by have a:decide ((k:Int)<(p.qs.length:Int))=true:=a;have:=fv a;omega
  rw[Un a]at hq;refine bU zE (cZ a) (cK zE (λa1=>?_) (λa1=>?_))
  .rw[bS (by rw[show decide (p.qs.getD k aq<0)=true from a1];rfl)]at hq;rw[<-hq,bS (by decide)]at hR;exact zG zE (ak rfl zE (aj rfl rfl (dY ((hR.symm)))))
  refine bU zE (cZ a) (cK zE (λa2=>?_) (λa2=>?_))
  .rw[bS (by rw[show decide (p.qs.getD k aq>1073741824)=true from a2];simp)]at hq;rw[<-hq,bS (by decide)]at hR;exact zG zE (ak rfl zE (aj rfl rfl (dY ((hR.symm)))))
  rw[bQ (by rw[show decide (p.qs.getD k aq<0)=false from a1,show decide (p.qs.getD k aq>1073741824)=false from a2];simp)]at hq;refine cH zE ⟨k+1,a,hq⟩ (dp a) ?_;exact cB [] ⟨rfl,c6 (n:=p.qs.length) a,bP⟩ ⟨bV,bP⟩
 have a:k=p.qs.length:=by have a:decide ((k:Int)<(p.qs.length:Int))=false:=a;have:=eY a;omega
 subst a;rw[aO]at hq;rw[<-hq,bQ (by decide)]at hR;refine dt zE rfl zE ?_;refine zG zE ?_;refine al (σ:={ k:Nat // k<=p.bW.length/\R=qD p.qs.length (p.bW.take k) (p.bW.drop k) }) (λk=>[(1,.ptr 1 0),(4,.int .i64 (k.1:Nat))]) (λ_=>[(1,.box p.cells)]) (λk=>p.bW.length-k.1) ⟨0,bh _,hR⟩ ?_ ?_
 .exact cB [] ⟨rfl,rfl,bP⟩ ⟨bV,bP⟩
 rintro⟨k,(hk:k<=p.bW.length),hR⟩;refine cK zE (λa=>?_) (λa=>?_)
 .have a:k<p.bW.length:=by have a:decide ((k:Int)<(p.bW.length:Int))=true:=a;have:=fv a;omega
  rw[Um a]at hR
  repeat' (first|(refine bU zE (cZ a) ?_)|(refine cN zE ?_)|(refine cj zE (Ke (p.bW.getD k aq)) ?_))
  refine cK zE (λb1=>?_) (λb1=>?_)
  .rw[bS b1]at hR;exact zG zE (ak rfl zE (aj rfl rfl (dY ((hR.symm)))))
  rw[bQ (by rw[show(l5 (p.bW.getD k aq)!=0)=false from b1];decide)]at hR;refine cK zE (λb2=>?_) (λb2=>?_)
  .rw[bS (by rw[show decide ((p.bW.getD k aq).fr>=(p.qs.length:Int))=true from b2];rfl)]at hR;exact zG zE (ak rfl zE (aj rfl rfl (dY ((hR.symm)))))
  refine cK zE (λb3=>?_) (λb3=>?_)
  .rw[bS (by rw[show decide ((p.bW.getD k aq).to>=(p.qs.length:Int))=true from b3];simp)]at hR;exact zG zE (ak rfl zE (aj rfl rfl (dY ((hR.symm)))))
  rw[bQ (by rw[show decide ((p.bW.getD k aq).fr>=(p.qs.length:Int))=false from b2,show decide ((p.bW.getD k aq).to>=(p.qs.length:Int))=false from b3];simp)]at hR;refine zG zE ?_;refine al (σ:={ j:Nat // j<=k/\ ∀i,i<j->l6 (p.bW.getD i aq) (p.bW.getD k aq)=false }) (λj=>[(1,.ptr 1 0),(4,.int .i64 (k:Nat)),(5,.ptr 5 0),(7,.int .i64 (j.1:Nat))]) (λ_=>[(1,.box p.cells),(5,.box (p.bW.getD k aq).cells)]) (λj=>k-j.1) ⟨0,bh _,λi hi=>by omega⟩ ?_ ?_
  .exact cB [] ⟨rfl,rfl,rfl,rfl,bP⟩ ⟨bV,bV,bP⟩
  rintro⟨j,(hj:j<=k),hn⟩;refine cK zE (λd=>?_) (λd=>?_)
  .have d:j<k:=by have d:decide ((j:Int)<(k:Int))=true:=d;have:=fv d;omega
   repeat' (first|(refine bU zE (cZ (show j<p.bW.length by omega)) ?_)|(refine cN zE ?_)|(refine cj zE (ala (p.bW.getD j aq) (p.bW.getD k aq)) ?_))
   refine cK zE (λb4=>?_) (λb4=>?_)
   .rw[bS (List.any_eq_true.2 ⟨p.bW.getD j aq,by rw[cV (show j<p.bW.length by omega)];exact aW.2 ⟨j,by omega,rfl⟩,b4⟩)]at hR;exact zG zE (ak rfl zE (aj rfl rfl (dY ((hR.symm)))))
   refine cH zE ⟨j+1,d,λi hi=>by rcases bk i j with h|h;exact hn i h;rw[show i=j by omega];exact b4⟩ (dp d) ?_;exact cB [] ⟨rfl,rfl,rfl,c6 (n:=k) d,bP⟩ ⟨bV,bV,bP⟩
  have d:j=k:=by have d:decide ((j:Int)<(k:Int))=false:=d;have:=eY d;omega
  subst d;have oc:(p.bW.take j).any (λd=>l6 d (p.bW.getD j aq))=false:=by
   rw[a6];intro x hx;obtain⟨i,hi,rfl⟩:=aW.1 hx;have:=hn i (by omega);rw[cV (show i<p.bW.length by omega)]at this;simpa using this
  rw[bQ (by rw[oc];decide)]at hR;refine dt zE rfl zE (cH zE ⟨j+1,a,hR⟩ (dp a) ?_);exact cB [] ⟨rfl,c6 (n:=p.bW.length) a,bP⟩ ⟨bV,bP⟩
 have a:k=p.bW.length:=by have a:decide ((k:Int)<(p.bW.length:Int))=false:=a;have:=eY a;omega
 subst a;rw[aO,qD]at hR;refine dt zE rfl zE ?_;exact zG zE (aj rfl rfl (dY ((hR.symm))))
end Go.Proofs.YtjhmdfofhnijeaaGreatDoor
namespace Go.Mb
open Go.Sy
def nw(ts:List Int)(t:Int):List Int:=if ts.contains t then ts else ts++[t]
def stepT(node:Int)(ts:List Int)(h:di):List Int:=if h.node==node then nw (nw ts h.fr) h.to else ts
def iJ(node:Int)(l:List di)(k:Nat):List Int:=(l.take k).foldl (stepT node) []
theorem wi{node:Int}{l:List di}{k:Nat}(h:k<l.length):iJ node l (k+1)=stepT node (iJ node l k) (l.getD k aq):=by
 unfold iJ;rw[gg h,List.foldl_append];rfl
def dH(node t:Int)(h:di):Int:=if h.node==node then(if h.fr=t then h.size else 0)-(if h.to=t then h.size else 0)else 0
def gr(node t:Int):List di->Int
 |[]=>0
 |h::l=>dH node t h+gr node t l
theorem Kj(node t:Int)(h:di):∀ l:List di,gr node t (l++[h])=gr node t l+dH node t h
 |[]=>by simp[gr]
 |x::l=>by simp only[a8,gr,Kj node t h l];omega
theorem Fg{ts:List Int}{t x:Int}:x∈nw ts t↔x∈ts\/x=t:=by
 unfold nw;split
 .rename_i h;have h:t∈ts:=by simpa using h
  constructor
  .exact .inl
  rintro(h1|rfl)
  .exact h1
  exact h
 simp
theorem Uo{ts:List Int}{t:Int}(h:ts.Nodup):(nw ts t).Nodup:=by
 unfold nw;split
 .exact h
 rename_i h1;have h1:t∉ts:=by simpa using h1
 rw[List.nodup_append];refine⟨h,by simp,λa ha b hb=>?_⟩;simp only[aF]at hb;rintro rfl;exact h1 (hb▸ha)
theorem Up(ts:List Int)(t:Int):(nw ts t).length<=ts.length+1:=by
 unfold nw;split<;>simp
theorem alj(node:Int)(ts:List Int)(h:di):(stepT node ts h).length<=ts.length+2:=by
 unfold stepT;split
 .have:=Up ts h.fr;have:=Up (nw ts h.fr) h.to;omega
 omega
theorem Fh(node:Int)(l:List di):∀ k,k<=l.length->(iJ node l k).length<=2*k
 |0,_=>by simp[iJ]
 |k+1,h=>by
  have h1:=Fh node l k (by omega);have h2:=alj node (iJ node l k) (l.getD k aq);rw[wi (by omega)];omega
theorem Uq(node:Int)(l:List di):∀ k,k<=l.length->(iJ node l k).Nodup
 |0,_=>by simp[iJ]
 |k+1,h=>by
  have h1:=Uq node l k (by omega);rw[wi (by omega)];unfold stepT;split
  .exact Uo (Uo h1)
  exact h1
theorem Kk(node:Int)(l:List di):∀ k,k<=l.length-> ∀x,x∈iJ node l k↔ ∃h∈l.take k,h.node=node/\(h.fr=x\/h.to=x)
 |0,_,x=>by simp[iJ]
 |k+1,h,x=>by
  have h1:=Kk node l k (by omega) x;rw[wi (by omega),gg (by omega)];unfold stepT;split
  .rename_i h2;have h2:(l.getD k aq).node=node:=ie h2;rw[Fg,Fg,h1];constructor
   .rintro((⟨y,hy,h3⟩|rfl)|rfl)
    .exact⟨y,aK _ hy,h3⟩
    .exact⟨_,by simp,h2,.inl rfl⟩
    exact⟨_,by simp,h2,.inr rfl⟩
   rintro⟨y,hy,h3,h4⟩;rcases aI.1 hy with hy|hy
   .exact .inl (.inl ⟨y,hy,h3,h4⟩)
   simp only[aF]at hy;subst hy;rcases h4 with h4|h4
   .exact .inl (.inr h4.symm)
   exact .inr h4.symm
  rename_i h2;have h2:(l.getD k aq).node≠node:=by simpa using h2
  rw[h1];constructor
  .rintro⟨y,hy,h3⟩;exact⟨y,aK _ hy,h3⟩
  rintro⟨y,hy,h3,h4⟩;rcases aI.1 hy with hy|hy
  .exact⟨y,hy,h3,h4⟩
  simp only[aF]at hy;subst hy;exact(h2 h3).elim
theorem Ur{node t:Int}:∀ {l:List di},(¬ ∃h∈l,h.node=node/\(h.fr=t\/h.to=t))->gr node t l=0
 |[],_=>rfl
 |h::l,hn=>by
  have h1:=Ur (l:=l) (node:=node) (t:=t) λ⟨y,hy,h3⟩=>hn ⟨y,az _ hy,h3⟩;have h2:dH node t h=0:=by
   unfold dH;split
   .rename_i h3;have h3:h.node=node:=ie h3;rw[bQ λe=>hn ⟨h,aA,h3,.inl e⟩,bQ λe=>hn ⟨h,aA,h3,.inr e⟩];rfl
   rfl
  rw[gr,h1,h2];rfl
theorem Fi{node t:Int}:∀ {l:List di},(∀h∈l,1<=h.size/\h.size<=65536)-> -(65536*(l.length:Int))<=gr node t l/\gr node t l<=65536*l.length
 |[],_=>by simp[gr]
 |h::l,hh=>by
  have h1:=Fi (node:=node) (t:=t) (l:=l) λx hx=>hh x (az _ hx);have h2:=hh h aA;simp only[gr,aG,dH];split
  .split<;>split<;>omega
  omega
def gh(f:Int->Option Int)(q:List Int):Bool:=(f (q.getD 0 0)).isSome
def kd(f:Int->Option Int)(q:List Int):A:=.int .i64 ((f (q.getD 0 0)).getD 0)
theorem ug(f:Int->Option Int)(q:List Int):eu (gh f) (kd f) [] q=(f (q.getD 0 0)).map λn=>.int .i64 n:=by
 simp only[eu,gh,kd];cases f (q.getD 0 0)<;>rfl
theorem Jx{f g:Int->Option Int}{u:List (List Int×Option A)}{t x:Int}{q:List Int}(hq:q.length=1)(h:eu (gh f) (kd f) u q=(g (q.getD 0 0)).map λn=>.int .i64 n):
  eu (gh f) (kd f) (([t],some (.int .i64 x))::u) q=((if q.getD 0 0=t then some x else g (q.getD 0 0)).map λn=>.int .i64 n):=by
 match q,hq with
 |[a],_=>
  by_cases e:a=t
  .subst e;have:kE [a] [a]=true:=yw.2 rfl;simp only[eu,this];simp
  have:kE [a] [t]=false:=Bo (by simpa using e);simp only[eu,this];rw[h];simp[e]
def fK(node:Int)(l:List di)(k:Nat)(t:Int):Option Int:=if(iJ node l k).contains t then some (gr node t (l.take k))else none
theorem yx{node:Int}{l:List di}{k:Nat}(hk:k<=l.length)(t:Int):(fK node l k t).getD 0=gr node t (l.take k):=by
 unfold fK;split
 .rfl
 rename_i h;have h:t∉iJ node l k:=by simpa using h
 rw[Kk node l k hk]at h;rw[Ur h];rfl
theorem Fj{node:Int}{l:List di}{k:Nat}(a:k<l.length)(hb:(l.getD k aq).node=node)(hlt:(l.getD k aq).fr<(l.getD k aq).to)(hl:l.length<=1000)(hs:∀ h∈l,1<=h.size/\h.size<=65536){y1 y2:Int}(h1:y1=gr node (l.getD k aq).fr (l.take k))(h2:y2=gr node (l.getD k aq).to (l.take k)){q:List Int}(hq:q.length=1):
  eu (gh (fK node l k)) (kd (fK node l k)) [([(l.getD k aq).to],some (.int .i64 (IntKind.i64.wrap (y2+IntKind.i64.wrap (0-(l.getD k aq).size))))),([(l.getD k aq).fr],some (.int .i64 (IntKind.i64.wrap (y1+(l.getD k aq).size))))] q=eu (gh (fK node l (k+1))) (kd (fK node l (k+1))) [] q:=by
 have Fk:=hs (l.getD k aq) (by rw[cV a];exact aC _);have hst:∀ h∈l.take k,1<=h.size/\h.size<=65536:=λh hh=>hs h (List.mem_of_mem_take hh);have hb1:=Fi (node:=node) (t:=(l.getD k aq).fr) hst;have hb2:=Fi (node:=node) (t:=(l.getD k aq).to) hst;have htl:(l.take k).length=k:=by simp;omega
 rw[htl]at hb1 hb2;rw[wrap_i64 (n:=0-(l.getD k aq).size) (by omega) (by omega),dG,dG,h1,h2];rw[Jx hq (g:=λz=>if z=(l.getD k aq).fr then some (gr node (l.getD k aq).fr (l.take k)+(l.getD k aq).size)else fK node l k z) (Jx hq (ug (fK node l k) q)),ug];congr 1;have hc:∀ t,gr node t (l.take (k+1))=gr node t (l.take k)+dH node t (l.getD k aq):=λt=>by rw[gg a,Kj]
 have hn:((l.getD k aq).node==node)=true:=by rw[hb];simp
 have hd:∀ t,dH node t (l.getD k aq)=(if(l.getD k aq).fr=t then(l.getD k aq).size else 0)-(if(l.getD k aq).to=t then(l.getD k aq).size else 0):=λt=>by unfold dH;rw[bS hn]
 have hmem:∀ t,(iJ node l (k+1)).contains t=true↔t∈iJ node l k\/t=(l.getD k aq).fr\/t=(l.getD k aq).to:=λt=>by
  rw[List.contains_iff_mem,wi a];unfold stepT;rw[bS hn,Fg,Fg,or_assoc]
 generalize q.getD 0 0=t;unfold fK;by_cases e1:t=(l.getD k aq).to
 .subst e1;rw[bS rfl,bS ((hmem _).2 (.inr (.inr rfl))),hc,hd,bS rfl,bQ (by omega)]
 rw[bQ e1];by_cases e2:t=(l.getD k aq).fr
 .subst e2;rw[bS rfl,bS ((hmem _).2 (.inr (.inl rfl))),hc,hd,bS rfl,bQ (by omega)];congr 1;omega
 rw[bQ e2,hc,hd,bQ (Ne.symm e2),bQ (Ne.symm e1)];by_cases e3:t∈iJ node l k
 .rw[bS (by simpa using e3),bS ((hmem _).2 (.inl e3))];congr 1;omega
 rw[bQ (by simpa using e3),bQ λh=>by rcases(hmem _).1 h with h|h|h;exact e3 h;exact e2 h;exact e1 h]
theorem alk{node:Int}{l:List di}{k:Nat}(a:k<l.length)(hb:((l.getD k aq).node==node)=false)(t:Int):fK node l (k+1) t=fK node l k t:=by
 unfold fK;rw[wi a,gg a,Kj];unfold stepT dH;rw[hb];simp
theorem alm{node:Int}{l:List di}{k:Nat}(a:k<l.length)(hb:((l.getD k aq).node==node)=true):iJ node l (k+1)=nw (nw (iJ node l k) (l.getD k aq).fr) (l.getD k aq).to:=by
 rw[wi a];unfold stepT;rw[bS hb]
theorem aln{node:Int}{l:List di}{k:Nat}(a:k<l.length)(hb:((l.getD k aq).node==node)=false):iJ node l (k+1)=iJ node l k:=by
 rw[wi a];unfold stepT;rw[bQ (by rw[hb];decide)]
theorem Kl{ts:List Int}{t:Int}(h:ts.contains t=true):nw ts t=ts:=by unfold nw;rw[bS h]
theorem Km{ts:List Int}{t:Int}(h:ts.contains t=false):nw ts t=ts++[t]:=by unfold nw;rw[bQ (by rw[h];decide)]
theorem yy{node:Int}{l:List di}{k:Nat}{t:Int}{b:Bool}(h:gh (fK node l k) [t]=b):(iJ node l k).contains t=b:=by
 have h:(fK node l k t).isSome=b:=h;rw[<-h];unfold fK;split
 .rename_i h1;rw[h1];rfl
 rename_i h1;simpa using h1
theorem Fl{node:Int}{l:List di}{k:Nat}(hk:k<=l.length){t:Int}(h:gh (fK node l k) [t]=false):0=gr node t (l.take k):=by
 rw[<-yx hk];have h:(fK node l k t).isSome=false:=h;rw[Option.isSome_eq_false_iff,Option.isNone_iff_eq_none]at h;rw[h];rfl
theorem alo{ts:List Int}{t x:Int}(h:ts.contains t=false)(hx:t≠x):(ts++[x]).contains t=false:=by
 simp at h⊢;exact⟨h,hx⟩
theorem alp(ts:List Int)(x y:Int)(q:Nat)(hq:q<ts.length+2)(j:Nat)(hj:j<1):(if q<ts.length+1 then(if q<ts.length then cO nC ts q j else bT (nC x) ((q-ts.length)*1+j))else bT (nC y) ((q-(ts.length+1))*1+j))=cO nC (ts++[x]++[y]) q j:=by
 have h:=gE (cells:=nC) (l:=ts++[x]) (x:=y) (c:=1) rfl q (by simpa using hq) j hj;rw[<-h];have e:(ts++[x]).length=ts.length+1:=by simp
 rw[e];by_cases h1:q<ts.length+1
 .rw[bS h1,bS h1,gE (cells:=nC) (l:=ts) (x:=x) (c:=1) rfl q h1 j hj]
 rw[bQ h1,bQ h1]
end Go.Mb
namespace Go.Proofs.YtjhmdfofhnijeaaGreatDoor
open Go.Sy Go.Mb
set_option maxRecDepth 100000
set_option maxHeartbeats 4000000
theorem alq:xm ai [(216,false,1)]:=by
 intro p hp;obtain rfl:=aF.1 hp;exact⟨3,3,by kernel_rfl,Dl Tryz.underlying3⟩
noncomputable def A0:Env:={ P:=ai,lJ:=lK [],mu:=[139],nO:=tT [(216,false,1)] }
theorem EL:ib A0:=zI (tab:=[]) (λp hp=>by cases hp) alq
noncomputable def CLv:Cx:={ E:=A0,inl:=[160],ok:=EL }
end Go.Proofs.YtjhmdfofhnijeaaGreatDoor
namespace Go.Mb
open Go.Sy
def eO(l:List dE)(ct:Int):List cU:=(l.filter λb=>b.ct==ct).map λb=>⟨b.fr,b.to⟩
def qE(out:List cU)(lo hi:Int):List cU:=if decide (lo<hi)then out++[⟨lo,hi⟩]else out
def rI(stop:Int):Int->List cU->List cU->List cU
 |lo,[],out=>qE out lo stop
 |lo,x::l,out=>rI stop (if x.hi>lo then x.hi else lo) l (qE out lo x.lo)
def ec(p:fE)(l:List dE)(ct:Nat):List cU:=rI (p.bW.getD ct aq).stop (p.bW.getD ct aq).start (eO l ct) []
theorem ue(l:List dE)(ct:Int):(eO l ct).length<=l.length:=by
 unfold eO;rw[aP];exact aQ _ _
theorem alr{l:List dE}{ct:Int}{k:Nat}(h:k<l.length):eO (l.take (k+1)) ct=if(l.getD k aq).ct==ct then eO (l.take k) ct++[⟨(l.getD k aq).fr,(l.getD k aq).to⟩]else eO (l.take k) ct:=by
 unfold eO;rw[gg h,aR,aV];generalize l.getD k aq=b;cases hb:b.ct==ct<;>simp[a7,hb]
theorem Us{out:List cU}{lo hi:Int}(h:decide (lo<hi)=true):qE out lo hi=out++[⟨lo,hi⟩]:=by unfold qE;rw[bS h]
theorem Ut{out:List cU}{lo hi:Int}(h:decide (lo<hi)=false):qE out lo hi=out:=by unfold qE;rw[bQ (by rw[h];decide)]
theorem Uu(out:List cU)(lo hi:Int):(qE out lo hi).length<=out.length+1:=by unfold qE;split<;>simp
theorem Bp(stop:Int):∀ (l:List cU) (lo:Int) (out:List cU),(rI stop lo l out).length<=out.length+l.length+1
 |[],lo,out=>Uu _ _ _
 |x::l,lo,out=>by
  have:=Bp stop l (if x.hi>lo then x.hi else lo) (qE out lo x.lo);have:=Uu out lo x.lo;simp only[rI,aG];omega
def sR(lo hi:Int):List cU:=if decide (lo<hi)then[⟨lo,hi⟩]else[]
def Bq(stop:Int):Int->List cU->List cU
 |lo,[]=>sR lo stop
 |lo,x::l=>sR lo x.lo++Bq stop (if x.hi>lo then x.hi else lo) l
theorem Uv(out:List cU)(lo hi:Int):qE out lo hi=out++sR lo hi:=by
 unfold qE sR;split<;>simp
theorem Uw(stop:Int):∀ (l:List cU) (lo:Int) (out:List cU),rI stop lo l out=out++Bq stop lo l
 |[],lo,out=>Uv out lo stop
 |x::l,lo,out=>by rw[rI,Uw stop l,Uv,Bq,List.append_assoc]
theorem wj{lo hi:Int}{s:cU}:s∈sR lo hi↔lo<hi/\s=⟨lo,hi⟩:=by
 unfold sR;by_cases h:lo<hi
 .simp[h]
 simp[h]
def nt(t:Int)(x:cU):Prop:=x.lo<=t/\t<x.hi
structure Ux(stop lo:Int)(l L:List cU):Prop where
 all:∀ s∈L,lo<=s.lo/\s.lo<s.hi/\s.hi<=stop
 ord:L.Pairwise λa b=>a.hi<=b.lo
 cov:∀ t,(∃s∈L,nt t s)↔lo<=t/\t<stop/\ ∀x∈l,¬ nt t x
theorem Uy{stop:Int}:∀ {l:List cU} {lo:Int},(∀x∈l,x.lo<x.hi/\lo<=x.lo/\x.hi<=stop)->(l.Pairwise λa b=>a.hi<=b.lo)->Ux stop lo l (Bq stop lo l)
 |[],lo,_,_=>by
  refine⟨λs hs=>?_,?_,λt=>?_⟩
  .obtain⟨h1,rfl⟩:=wj.1 hs;exact⟨ar _,h1,ar _⟩
  .show(sR lo stop).Pairwise _;unfold sR;split
   .exact aX _ _
   exact bd
  constructor
  .rintro⟨s,hs,h1⟩;obtain⟨h2,rfl⟩:=wj.1 hs;exact⟨h1.1,h1.2,λx hx=>by cases hx⟩
  rintro⟨h1,h2,_⟩;exact⟨⟨lo,stop⟩,wj.2 ⟨by omega,rfl⟩,h1,h2⟩
 |x::l,lo,hl,hp=>by
  obtain⟨p1,p2⟩:=aD.1 hp;obtain⟨x1,x2,x3⟩:=hl x aA;have e:(if x.hi>lo then x.hi else lo)=x.hi:=bS (by omega);obtain⟨g1,g2,g3⟩:=Uy (stop:=stop) (l:=l) (lo:=x.hi) (λy hy=>by have:=hl y (az _ hy);have:=p1 y hy;exact⟨by omega,by omega,by omega⟩) p2;rw[Bq,e];refine⟨λs hs=>?_,?_,λt=>?_⟩
  .rcases aI.1 hs with hs|hs
   .obtain⟨h1,rfl⟩:=wj.1 hs;exact⟨ar _,h1,by show x.lo<=stop;omega⟩
   have:=g1 s hs;exact⟨by omega,by omega,by omega⟩
  .rw[aY];refine⟨?_,g2,λa ha b hb=>?_⟩
   .unfold sR;split
    .exact aX _ _
    exact bd
   obtain⟨h1,rfl⟩:=wj.1 ha;have:=g1 b hb;show x.lo<=b.lo;omega
  constructor
  .rintro⟨s,hs,h1⟩;rcases aI.1 hs with hs|hs
   .obtain⟨h2,rfl⟩:=wj.1 hs;have h3:lo<=t:=h1.1;have h4:t<x.lo:=h1.2;refine⟨h3,by omega,λy hy=>?_⟩;rcases aB.1 hy with rfl|hy
    .unfold nt;omega
    have:=p1 y hy;unfold nt;omega
   obtain⟨h2,h3,h4⟩:=(g3 t).1 ⟨s,hs,h1⟩;refine⟨by omega,h3,λy hy=>?_⟩;rcases aB.1 hy with rfl|hy
   .unfold nt;omega
   exact h4 y hy
  rintro⟨h1,h2,h3⟩;have h4:=h3 x aA;unfold nt at h4;by_cases h5:t<x.lo
  .exact⟨⟨lo,x.lo⟩,aK _ (wj.2 ⟨by omega,rfl⟩),h1,h5⟩
  obtain⟨s,hs,h6⟩:=(g3 t).2 ⟨by omega,h2,λy hy=>h3 y (az _ hy)⟩;exact⟨s,List.mem_append_right _ hs,h6⟩
theorem Td{l:List dE}{ct:Int}{x:cU}:x∈eO l ct↔ ∃b∈l,b.ct=ct/\x=⟨b.fr,b.to⟩:=by
 unfold eO;simp only[aM,aL,gH];constructor
 .rintro⟨b,⟨h1,h2⟩,rfl⟩;exact⟨b,h1,h2,rfl⟩
 rintro⟨b,h1,h2,rfl⟩;exact⟨b,⟨h1,h2⟩,rfl⟩
theorem als{p:fE}{l:List dE}(h:yf p l)(ct:Int):(eO l ct).Pairwise λa b=>a.hi<=b.lo:=by
 unfold eO;rw[aS,List.pairwise_filter];refine h.ord.imp λ{a b} hab ha hb=>?_;have ha:=ie ha;have hb:=ie hb;unfold mU at hab;show a.to<=b.fr;omega
theorem free_spec{p:fE}{l:List dE}(h:yf p l)(ct:Nat):Ux (p.bW.getD ct aq).stop (p.bW.getD ct aq).start (eO l ct) (ec p l ct):=by
 unfold ec;rw[Uw,List.nil_append];refine Uy (λx hx=>?_) (als h ct);obtain⟨b,h1,h2,rfl⟩:=Td.1 hx;have hb:=h.all b h1;have e:b.ct.toNat=ct:=by rw[h2];rfl
 have b1:=hb.lo;have b2:=hb.hi;rw[e]at b1 b2;exact⟨hb.lt,b1,b2⟩
def l7(d:cA)(x:cU):Int:=if d.ready>x.lo then d.ready else x.lo
def mz(d:cA)(c7:Int)(x:cU):Int:=if d.dead-c7<x.hi then d.dead-c7 else x.hi
def rJ(d:cA)(c7:Int)(x:cU):List Int:=(aH (mz d c7 x-l7 d x).toNat).map λk=>l7 d x+(k:Nat)
def mA(t:cE)(d:cA)(ct:Nat):List Int:=(ec t.bO t.dg ct).flatMap (rJ d (t.bO.bW.getD ct aq).c7)
theorem Kn{d:cA}{c7:Int}{x:cU}{u:Int}:u∈rJ d c7 x↔nt u x/\d.ready<=u/\u+1+c7<=d.dead:=by
 have key:(nt u x/\d.ready<=u/\u+1+c7<=d.dead)↔l7 d x<=u/\u<mz d c7 x:=by
  unfold nt l7 mz
  (repeat' split)<;>omega
 rw[key];unfold rJ;simp only[aM,aJ];constructor
 .rintro⟨k,h1,h2⟩;omega
 rintro⟨h1,h2⟩;exact⟨(u-l7 d x).toNat,by omega,by omega⟩
theorem Uz(n:Nat):(aH n).Pairwise (· < ·):=List.pairwise_lt_range
theorem alu(d:cA)(c7:Int)(x:cU):(rJ d c7 x).Pairwise (· < ·):=by
 unfold rJ;rw[aS];exact(Uz _).imp λ{a b} h=>by omega
theorem UA{α:Type}{f:α->List Int}:∀ {L:List α},(∀x∈L,(f x).Pairwise (· < ·))->(L.Pairwise λa b=>∀ u∈f a,∀ w∈f b,u<w)->(L.flatMap f).Pairwise (· < ·)
 |[],_,_=>bd
 |x::L,h,hp=>by
  obtain⟨p1,p2⟩:=aD.1 hp;rw[aZ,aY];refine⟨h x aA,UA (λy hy=>h y (az _ hy)) p2,λa ha b hb=>?_⟩;obtain⟨y,hy,hby⟩:=aN.1 hb;exact p1 y hy a ha b hby
theorem Ko{t:cE}(h:fj t)(d:cA)(ct:Nat):(mA t d ct).Pairwise (· < ·):=by
 obtain⟨h1,h2,h3⟩:=free_spec h.b ct;refine UA (λx _=>alu _ _ _) (h2.imp λ{a b} hab u hu w hw=>?_);have hu:=(Kn.1 hu).1.2;have hw:=(Kn.1 hw).1.1;omega
def oT(t:cE)(d:cA)(ct:Nat)(u:Int):Bool:=decide ((t.bO.bW.getD ct aq).start<=u)&&(decide (u<(t.bO.bW.getD ct aq).stop)&&(decide (d.ready<=u)&&(decide (u+1+(t.bO.bW.getD ct aq).c7<=d.dead)&& !(eO t.dg ct).any (iH u))))
theorem qn{t:cE}{d:cA}{ct:Nat}{u:Int}:oT t d ct u=true↔(t.bO.bW.getD ct aq).start<=u/\u<(t.bO.bW.getD ct aq).stop/\d.ready<=u/\u+1+(t.bO.bW.getD ct aq).c7<=d.dead/\ ∀x∈eO t.dg ct,¬ nt u x:=by
 unfold oT;simp only[ab,dN,aa,a6,iH,nt]
theorem Kp{t:cE}(h:fj t){d:cA}{ct:Nat}{u:Int}:u∈mA t d ct↔oT t d ct u=true:=by
 have h3:=(free_spec h.b ct).cov u;rw[qn];unfold mA;simp only[aN,Kn];constructor
 .rintro⟨x,h4,h5,h6,h7⟩;have:=h3.1 ⟨x,h4,h5⟩;exact⟨this.1,this.2.1,h6,h7,this.2.2⟩
 rintro⟨h4,h5,h6,h7,h8⟩;obtain⟨x,h9,h10⟩:=h3.2 ⟨h4,h5,h8⟩;exact⟨x,h9,h10,h6,h7⟩
theorem UB:∀ {l m:List Int},l.Pairwise (· < ·)->m.Pairwise (· < ·)->(∀x,x∈l↔x∈m)->l=m
 |[],[],_,_,_=>rfl
 |[],b::m,_,_,h=>dP ((h b).2 aA) (by simp)
 |a::l,[],_,_,h=>dP ((h a).1 aA) (by simp)
 |a::l,b::m,hl,hm,h=>by
  obtain⟨l1,l2⟩:=aD.1 hl;obtain⟨m1,m2⟩:=aD.1 hm;have hab:a=b:=by
   rcases aB.1 ((h a).1 aA)with e|e
   .exact e
   rcases aB.1 ((h b).2 aA)with e'|e'
   .exact e'.symm
   have:=l1 b e';have:=m1 a e;omega
  subst hab;rw[UB l2 m2 λx=>?_];constructor
  .intro hx;rcases aB.1 ((h x).1 (az _ hx))with e|e
   .have:=l1 x hx;omega
   exact e
  intro hx;rcases aB.1 ((h x).2 (az _ hx))with e|e
  .have:=m1 x hx;omega
  exact e
def jl(t:cE)(d:cA)(ct:Nat)(lo:Int)(k:Nat):List Int:=((aH k).map λi=>lo+(i:Nat)).filter (oT t d ct)
theorem UC(t:cE)(d:cA)(ct:Nat)(lo:Int)(k:Nat):jl t d ct lo (k+1)=jl t d ct lo k++if oT t d ct (lo+(k:Nat))then[lo+(k:Nat)]else[]:=by
 unfold jl;rw[aT,aV,aR];congr 1;simp only[bc,List.map_nil,a7,List.filter_nil]
theorem UD{t:cE}(h:fj t){d:cA}{ct:Nat}{lo:Int}{k:Nat}(h1:∀ u,oT t d ct u=true->lo<=u/\u<lo+(k:Nat)):mA t d ct=jl t d ct lo k:=by
 refine UB (Ko h d ct) ?_ λx=>?_
 .unfold jl;refine bg _ ?_;rw[aS];exact(Uz _).imp λ{a b} h=>by omega
 rw[Kp h];unfold jl;simp only[aL,aM,aJ];constructor
 .intro hx;have:=h1 x hx;exact⟨⟨(x-lo).toNat,by omega,by omega⟩,hx⟩
 exact λhx=>hx.2
theorem alv{t:cE}(h:fj t)(ct:Nat):0<=(t.bO.bW.getD ct aq).c7:=by
 by_cases e:ct<t.bO.bW.length
 .have:=(h.p.bW (t.bO.bW.getD ct aq) (by rw[cV e];exact aC _)).c7;omega
 rw[List.getD_eq_getElem?_getD,List.getElem?_eq_none (by omega)];exact ar _
theorem Br{t:cE}(h:fj t)(d:cA)(ct:Nat):(mA t d ct).length<=(d.dead-d.ready).toNat:=by
 rw[UD h (lo:=d.ready) (k:=(d.dead-d.ready).toNat) (d:=d) (ct:=ct)]
 .unfold jl;refine bl (aQ _ _) ?_;simp
 intro u hu;obtain⟨h1,h2,h3,h4,h5⟩:=qn.1 hu;have:=alv h ct;omega
end Go.Mb
namespace Go.Proofs.YtjhmdfofhnijeaaGreatDoor
def ez(g:Nat->Int):Nat->Int
 |0=>0
 |m+1=>ez g m+g m
theorem iW{g h:Nat->Int}:∀ {m:Nat},(∀k,k<m->g k=h k)->ez g m=ez h m
 |0,_=>rfl
 |m+1,H=>by simp only[ez];rw[iW λk hk=>H k (by omega),H m (by omega)]
theorem AK(g h:Nat->Int):∀ m:Nat,ez (λk=>g k+h k) m=ez g m+ez h m
 |0=>rfl
 |m+1=>by simp only[ez];rw[AK g h m];omega
theorem IZ(g h:Nat->Int):∀ m:Nat,ez (λk=>g k-h k) m=ez g m-ez h m
 |0=>rfl
 |m+1=>by simp only[ez];rw[IZ g h m];omega
theorem AH{g h:Nat->Int}:∀ {m:Nat},(∀k,k<m->g k<=h k)->ez g m<=ez h m
 |0,_=>ar _
 |m+1,H=>by
  simp only[ez];have:=AH (m:=m) λk hk=>H k (by omega);have:=H m (by omega);omega
theorem ri:∀ m:Nat,ez (λ_=>0) m=0
 |0=>rfl
 |m+1=>by simp only[ez];rw[ri m];rfl
theorem UE(g:Nat->Nat->Int)(n:Nat):∀ m:Nat,ez (λk=>ez (λv=>g k v) n) m=ez (λv=>ez (λk=>g k v) m) n
 |0=>by simp only[ez];rw[ri]
 |m+1=>by simp only[ez];rw[UE g n m,<- AK]
theorem pw(c:Nat->Int)(u:Nat):∀ n:Nat,ez (λv=>if v=u then c v else 0) n=if u<n then c u else 0
 |0=>rfl
 |n+1=>by
  simp only[ez];rw[pw c u n];by_cases h1:u<n
  .rw[bS h1,bQ (by omega),bS (by omega)];omega
  by_cases h2:n=u
  .subst h2;simp
  rw[bQ h1,bQ h2,bQ (by omega)];rfl
theorem IY{g h:Nat->Int}(i:Nat):∀ {m:Nat},i<m->(∀k,k<m->k≠i->g k=h k)->ez g m=ez h m+(g i-h i)
 |0,hi,_=>by omega
 |m+1,hi,H=>by
  simp only[ez];by_cases him:i=m
  .subst him;rw[iW (g:=g) (h:=h) λk hk=>H k (by omega) (by omega)];omega
  rw[IY (m:=m) i (by omega) λk hk=>H k (by omega),H m (by omega) (by omega)];omega
structure Net where
 m:Nat
 fr:Nat->Nat
 to:Nat->Nat
 cap:Nat->Int
def gk(G:Net)(F:Nat->Int)(v k:Nat):Int:=(if G.fr k=v then F k else 0)-(if G.to k=v then F k else 0)
def dL(G:Net)(F:Nat->Int)(v:Nat):Int:=ez (gk G F v) G.m
structure iO(G:Net)(n s t:Nat)(F:Nat->Int):Prop where
 lo:∀ k,k<G.m->0<=F k
 hi:∀ k,k<G.m->F k<=G.cap k
 vI:∀ v,v<n->v≠s->v≠t->dL G F v=0
structure iF(G:Net)(n s t:Nat):Prop where
 fr:∀ k,k<G.m->G.fr k<n
 to:∀ k,k<G.m->G.to k<n
 ne:∀ k,k<G.m->G.fr k≠G.to k
 ls:s<n
 lt:t<n
 st:s≠t
def nr(G:Net)(S:Nat->Bool):Int:=ez (λk=>if S (G.fr k)=true/\S (G.to k)=false then G.cap k else 0) G.m
theorem I1{G:Net}{n s t:Nat}{F:Nat->Int}{S:Nat->Bool}(hG:iF G n s t)(hF:∀ v,v<n->v≠s->v≠t->dL G F v=0)(hs:S s=true)(ht:S t=false):
  dL G F s=ez (λk=>(if S (G.fr k)=true/\S (G.to k)=false then F k else 0)-(if S (G.fr k)=false/\S (G.to k)=true then F k else 0)) G.m:=by
 have h1:ez (λv=>if v=s then dL G F v else 0) n=dL G F s:=by rw[pw,bS hG.ls]
 have h2:ez (λv=>if v=s then dL G F v else 0) n=ez (λv=>if S v=true then dL G F v else 0) n:=by
  refine iW λv hv=>?_;by_cases hvs:v=s
  .subst hvs;rw[bS rfl,bS hs]
  rw[bQ hvs];by_cases hS:S v=true
  .rw[bS hS,hF v hv hvs (by intro e;rw[e,ht]at hS;cases hS)]
  rw[bQ hS]
 have h3:ez (λv=>if S v=true then dL G F v else 0) n=ez (λv=>ez (λk=>if S v=true then gk G F v k else 0) G.m) n:=by
  refine iW λv hv=>?_;by_cases hS:S v=true
  .rw[bS hS];exact iW λk hk=>by rw[bS hS]
  rw[bQ hS];rw[iW (h:=λ_=>0) λk hk=>by rw[bQ hS],ri]
 rw[<-h1,h2,h3,<- UE];refine iW λk hk=>?_;have e:∀ v,(if S v=true then gk G F v k else 0)=(if v=G.fr k then(if S v=true then F k else 0)else 0)-(if v=G.to k then(if S v=true then F k else 0)else 0):=by
  intro v;unfold gk;by_cases hS:S v=true
  .rw[bS hS];by_cases ha:G.fr k=v<;>by_cases hb:G.to k=v<;>simp only[ha,hb,hS,iI,ic,iP (a:=v)]
  rw[bQ hS];by_cases ha:G.fr k=v<;>by_cases hb:G.to k=v<;>simp only[ha,hb,hS,iI,ic,iP (a:=v)]<;>rfl
 rw[iW λv _=>e v,IZ,pw,pw,bS (hG.fr k hk),bS (hG.to k hk)];cases S (G.fr k)<;>cases S (G.to k)<;>simp
theorem UF{G:Net}{n s t:Nat}{F:Nat->Int}{S:Nat->Bool}(hG:iF G n s t)(hF:iO G n s t F)(hs:S s=true)(ht:S t=false):dL G F s<=nr G S:=by
 rw[I1 hG hF.vI hs ht];refine AH λk hk=>?_;have h1:=hF.lo k hk;have h2:=hF.hi k hk;cases S (G.fr k)<;>cases S (G.to k)<;>simp<;>omega
theorem alw{G:Net}{n s t:Nat}{F:Nat->Int}{S:Nat->Bool}(hG:iF G n s t)(hF:∀ v,v<n->v≠s->v≠t->dL G F v=0)(hs:S s=true)(ht:S t=false)
  (ho:∀ k,k<G.m->S (G.fr k)=true->S (G.to k)=false->F k=G.cap k) (hi:∀ k,k<G.m->S (G.fr k)=false->S (G.to k)=true->F k=0):dL G F s=nr G S:=by
 rw[I1 hG hF hs ht];refine iW λk hk=>?_;have h1:=ho k hk;have h2:=hi k hk;cases ha:S (G.fr k)<;>cases hb:S (G.to k)<;>simp_all
def lf(G:Net)(j:Nat):Nat:=if j%2=0 then G.fr (j/2)else G.to (j/2)
def lt(G:Net)(j:Nat):Nat:=if j%2=0 then G.to (j/2)else G.fr (j/2)
def rm(G:Net)(F:Nat->Int)(j:Nat):Int:=if j%2=0 then G.cap (j/2)-F (j/2)else F (j/2)
def push(r:Int)(F:Nat->Int)(j:Nat):Nat->Int:=λk=>if k=j/2 then(if j%2=0 then F k+r else F k-r)else F k
def lP(r:Int):(Nat->Int)->List Nat->Nat->Int
 |F,[]=>F
 |F,j::P=>lP r (push r F j) P
structure Lg where
 m:Nat
 lf:Nat->Nat
 lt:Nat->Nat
def en(G:Net):Lg:=⟨2*G.m,lf G,lt G⟩
def fH(G:Net):Lg:=⟨G.m,G.fr,G.to⟩
def jN(L:Lg):Nat->List Nat->Nat->Prop
 |u,[],v=>u=v
 |u,j::P,v=>L.lf j=u/\jN L (L.lt j) P v
def ml:List Nat->List Nat
 |[]=>[]
 |j::P=>j/2::ml P
theorem alx{G:Net}{F:Nat->Int}{r:Int}{j:Nat}(hj:j/2<G.m)(v:Nat):dL G (push r F j) v=dL G F v+(if lf G j=v then r else 0)-(if lt G j=v then r else 0):=by
 unfold dL;rw[IY (h:=gk G F v) (j/2) hj (λk hk hne=>by simp only[gk,push,bQ hne])];simp only[gk,push,lf,lt,iI];by_cases h2:j%2=0
 .simp only[bS h2];by_cases ha:G.fr (j/2)=v<;>by_cases hb:G.to (j/2)=v<;>simp only[ha,hb,iI,ic]<;>omega
 simp only[bQ h2];by_cases ha:G.fr (j/2)=v<;>by_cases hb:G.to (j/2)=v<;>simp only[ha,hb,iI,ic]<;>omega
theorem Kq{G:Net}{r:Int}:∀ {P:List Nat} {F:Nat->Int} {u w:Nat},jN (en G) u P w->(∀j∈P,j/2<G.m)-> ∀v,dL G (lP r F P) v=dL G F v+(if u=v then r else 0)-(if w=v then r else 0)
 |[],F,u,w,hc,_,v=>by
  simp only[jN]at hc;subst hc;simp only[lP];omega
 |j::P,F,u,w,hc,hm,v=>by
  simp only[jN]at hc;simp only[lP];rw[Kq hc.2 (λk hk=>hm k (az _ hk)) v,alx (hm j aA),show lf G j=u from hc.1];show _-(if lt G j=v then r else 0)+(if lt G j=v then r else 0)-_=_;omega
theorem AB{r:Int}:∀ {P:List Nat} {F:Nat->Int} {k:Nat},k∉ml P->lP r F P k=F k
 |[],F,k,_=>rfl
 |j::P,F,k,h=>by
  simp only[ml,aB,not_or]at h;simp only[lP];rw[AB h.2];simp only[push,bQ h.1]
theorem II:∀ {P:List Nat} {j:Nat},j∈P->j/2∈ml P
 |[],j,h=>by cases h
 |a::P,j,h=>by
  rcases aB.1 h with rfl|h
  .exact aA
  exact az _ (II h)
theorem Kr{r:Int}:∀ {P:List Nat} {F:Nat->Int} {j:Nat},(ml P).Nodup->j∈P->lP r F P (j/2)=if j%2=0 then F (j/2)+r else F (j/2)-r
 |[],F,j,_,h=>by cases h
 |i::P,F,j,hn,hm=>by
  simp only[ml,aU]at hn;simp only[lP];rcases aB.1 hm with rfl|hm
  .rw[AB hn.1];simp only[push,iI]
  have hne:j/2≠i/2:=by
   intro e;refine hn.1 ?_;rw[<-e];exact II hm
  rw[Kr hn.2 hm];simp only[push,bQ hne]
theorem Fm:∀ {P:List Nat} {k:Nat},k∈ml P-> ∃j∈P,j/2=k
 |[],k,h=>by cases h
 |i::P,k,h=>by
  rcases aB.1 h with rfl|h
  .exact⟨i,aA,rfl⟩
  obtain⟨j,hj,e⟩:=Fm h;exact⟨j,az _ hj,e⟩
theorem aly{G:Net}{n s t:Nat}{F:Nat->Int}{P:List Nat}{r:Int}(hG:iF G n s t)(hF:iO G n s t F)(hc:jN (en G) s P t)(hm:∀ j∈P,j/2<G.m)(hn:(ml P).Nodup)(mO:0<=r)(hr:∀ j∈P,r<=rm G F j):
  iO G n s t (lP r F P)/\dL G (lP r F P) s=dL G F s+r:=by
 refine⟨⟨λk hk=>?_,λk hk=>?_,λv hv hvs mR=>?_⟩,?_⟩
 .by_cases hm':k∈ml P
  .obtain⟨j,hj,rfl⟩:=Fm hm';rw[Kr hn hj];have h1:=hr j hj;have h2:=hF.lo _ hk;unfold rm at h1;by_cases h3:j%2=0
   .rw[bS h3];omega
   rw[bQ h3]at h1 ⊢;omega
  rw[AB hm'];exact hF.lo k hk
 .by_cases hm':k∈ml P
  .obtain⟨j,hj,rfl⟩:=Fm hm';rw[Kr hn hj];have h1:=hr j hj;have h2:=hF.hi _ hk;unfold rm at h1;by_cases h3:j%2=0
   .rw[bS h3]at h1 ⊢;omega
   rw[bQ h3];omega
  rw[AB hm'];exact hF.hi k hk
 .rw[Kq hc hm v,hF.vI v hv hvs mR,bQ (Ne.symm hvs),bQ (Ne.symm mR)];rfl
 rw[Kq hc hm s,bS rfl,bQ (Ne.symm hG.st)];omega
theorem UG{G:Net}{n s t:Nat}{F:Nat->Int}{S:Nat->Bool}(hG:iF G n s t)(hF:iO G n s t F)(hs:S s=true)(ht:S t=false)
  (hno:∀ j,j/2<G.m->S (lf G j)=true->S (lt G j)=false->rm G F j<=0):dL G F s=nr G S:=by
 refine alw hG hF.vI hs ht (λk hk h1 h2=>?_) (λk hk h1 h2=>?_)
 .have:=hno (2*k) (by omega) (by unfold lf;rw[bS (by omega),show 2*k/2=k by omega];exact h1) (by unfold lt;rw[bS (by omega),show 2*k/2=k by omega];exact h2);unfold rm at this;rw[bS (by omega),show 2*k/2=k by omega]at this;have:=hF.hi k hk;omega
 have:=hno (2*k+1) (by omega) (by unfold lf;rw[bQ (by omega),show(2*k+1)/2=k by omega];exact h2) (by unfold lt;rw[bQ (by omega),show(2*k+1)/2=k by omega];exact h1);unfold rm at this;rw[bQ (by omega),show(2*k+1)/2=k by omega]at this;have:=hF.lo k hk;omega
def fO(L:Lg)(v:Nat):List Nat:=(aH (L.m)).filter λj=>L.lf j==v
def xS(L:Lg)(v:Nat):List Nat:=(aH (L.m)).filter λj=>L.lt j==v
theorem vF{L:Lg}{v j:Nat}:j∈fO L v↔j<L.m/\L.lf j=v:=by
 unfold fO;rw[aL,aJ,gH]
theorem vE{L:Lg}{v j:Nat}:j∈xS L v↔j<L.m/\L.lt j=v:=by
 unfold xS;rw[aL,aJ,gH]
def ku(D:Nat->Int)(u:Nat)(x:Int):Nat->Int:=λk=>if k=u then x else D k
def kN(L:Lg)(R:Nat->Int)(v:Nat)(st:(Nat->Int)×List Nat)(j:Nat):(Nat->Int)×List Nat:=
 if 0<R j/\st.1 (L.lf j)<0 then(ku st.1 (L.lf j) (st.1 v+1),st.2++[L.lf j])else st
def iE(L:Lg)(R:Nat->Int)(v:Nat):(Nat->Int)×List Nat->List Nat->(Nat->Int)×List Nat
 |st,[]=>st
 |st,j::l=>iE L R v (kN L R v st j) l
def pj(L:Lg)(R:Nat->Int):Nat->(Nat->Int)×List Nat->Nat->Int
 |0,st=>st.1
 |f+1,(D,[])=>D
 |f+1,(D,v::Q)=>pj L R f (iE L R v (D,Q) (xS L v))
def lu(t:Nat):Nat->Int:=λk=>if k=t then 0 else-1
def eL(L:Lg)(R:Nat->Int)(n t:Nat):Nat->Int:=pj L R n (lu t,[t])
def jY(D:Nat->Int):Nat->Nat
 |0=>0
 |n+1=>jY D n+(if D n<0 then 1 else 0)
theorem UH{D D':Nat->Int}:∀ {n:Nat},(∀k,k<n->(D k<0↔D' k<0))->jY D n=jY D' n
 |0,_=>rfl
 |n+1,h=>by
  simp only[jY];rw[UH λk hk=>h k (by omega)];by_cases hd:D n<0
  .rw[bS hd,bS ((h n (by omega)).1 hd)]
  rw[bQ hd,bQ λh'=>hd ((h n (by omega)).2 h')]
theorem Ks{D:Nat->Int}{u:Nat}{x:Int}(hu:D u<0)(hx:0<=x):∀ {n:Nat},u<n->jY (ku D u x) n+1=jY D n
 |0,h=>by omega
 |n+1,h=>by
  simp only[jY];by_cases hn:n=u
  .subst hn;rw[UH (D:=ku D n x) (D':=D) λk hk=>by simp only[ku];rw[bQ (by omega)],bS hu,bQ (by simp only[ku,iI];omega)]
  have:=Ks (n:=n) hu hx (by omega);simp only[ku,bQ hn]at this⊢;omega
theorem UI:∀ n:Nat,jY (λ_=>-1) n=n
 |0=>rfl
 |n+1=>by
  simp only[jY];rw[UI n,bS (by omega)]
theorem RP{t n:Nat}(h:t<n):jY (lu t) n+1=n:=by
 have:=Ks (D:=λ_=>-1) (u:=t) (x:=0) (by omega) (by omega) h;rw[UI]at this;exact this
structure nT(L:Lg)(R:Nat->Int)(n t:Nat)(D:Nat->Int)(Q:List Nat):Prop where
 d0:D t=0
 ge:∀ v,-1<=D v
 zero:∀ v,D v=0->v=t
 dn:∀ v,0<=D v->v<n
 q:∀ v∈Q,0<=D v
 next:∀ v,0<=D v->v≠t-> ∃j,j<L.m/\L.lf j=v/\0<R j/\D (L.lt j)=D v-1
theorem alz{L:Lg}{R:Nat->Int}{n t v j:Nat}{D:Nat->Int}{Q:List Nat}(hlf:∀ j,j<L.m->L.lf j<n)(h:nT L R n t D Q)(hv:0<=D v)(hj:j<L.m)(Kt:L.lt j=v):
  nT L R n t (kN L R v (D,Q) j).1 (kN L R v (D,Q) j).2/\jY (kN L R v (D,Q) j).1 n+(kN L R v (D,Q) j).2.length=jY D n+Q.length/\
   (∀u,0<=D u->(kN L R v (D,Q) j).1 u=D u)/\(0<R j->0<=(kN L R v (D,Q) j).1 (L.lf j))/\(∀u,0<=(kN L R v (D,Q) j).1 u->0<=D u\/u∈(kN L R v (D,Q) j).2)/\(∀u∈Q,u∈(kN L R v (D,Q) j).2):=by
 unfold kN;by_cases hc:0<R j/\D (L.lf j)<0
 .rw[bS hc];have hu:=hlf j hj;have hne:∀ w,0<=D w->w≠L.lf j:=λw hw e=>by rw[e]at hw;omega
  refine⟨⟨?_,λw=>?_,λw hw=>?_,λw hw=>?_,λw hw=>?_,λw hw UJ=>?_⟩,?_,λw hw=>?_,λ_=>?_,λw hw=>?_,λw hw=>?_⟩
  .simp only[ku];rw[bQ (hne t (by rw[h.d0];exact ar _))];exact h.d0
  .simp only[ku];split
   .omega
   exact h.ge w
  .simp only[ku]at hw;split at hw
   .omega
   exact h.zero w hw
  .simp only[ku]at hw;split at hw
   .rename_i e;rw[e];exact hu
   exact h.dn w hw
  .simp only[ku];rcases aI.1 hw with hw|hw
   .rw[bQ (hne w (h.q w hw))];exact h.q w hw
   simp only[aF]at hw;rw[bS hw];omega
  .simp only[ku]at hw⊢;by_cases e:w=L.lf j
   .refine⟨j,hj,e.symm,hc.1,?_⟩;rw[Kt,bQ (hne v hv),bS e];omega
   rw[bQ e]at hw⊢;obtain⟨i,h1,h2,h3,h4⟩:=h.next w hw UJ;have h0:0<D w:=by
    rcases ay hw with h5|h5
    .exact h5
    exact(UJ (h.zero w h5.symm)).elim
   refine⟨i,h1,h2,h3,?_⟩;rw[bQ (hne _ (by omega))];exact h4
  .have:=Ks (n:=n) (x:=D v+1) hc.2 (by omega) hu;simp only[List.length_append,aG,ba];omega
  .simp only[ku];rw[bQ (hne w hw)]
  .simp only[ku,iI];omega
  .simp only[ku]at hw;by_cases e:w=L.lf j
   .exact .inr (by simp[e])
   rw[bQ e]at hw;exact .inl hw
  exact aK _ hw
 rw[bQ hc];refine⟨h,rfl,λ_ _=>rfl,λh1=>?_,λu hu=>.inl hu,λu hu=>hu⟩;have:¬ D (L.lf j)<0:=λh2=>hc ⟨h1,h2⟩;show 0<=D (L.lf j);omega
theorem Aq{L:Lg}{R:Nat->Int}{n t v:Nat}(hlf:∀ j,j<L.m->L.lf j<n):∀ (l:List Nat) {D:Nat->Int} {Q:List Nat},nT L R n t D Q->0<=D v->(∀j∈l,j<L.m/\L.lt j=v)->
  nT L R n t (iE L R v (D,Q) l).1 (iE L R v (D,Q) l).2/\jY (iE L R v (D,Q) l).1 n+(iE L R v (D,Q) l).2.length=jY D n+Q.length/\
   (∀u,0<=D u->(iE L R v (D,Q) l).1 u=D u)/\(∀j∈l,0<R j->0<=(iE L R v (D,Q) l).1 (L.lf j))/\(∀u,0<=(iE L R v (D,Q) l).1 u->0<=D u\/u∈(iE L R v (D,Q) l).2)/\(∀u∈Q,u∈(iE L R v (D,Q) l).2)
 |[],D,Q,h,hv,_=>⟨h,rfl,λ_ _=>rfl,(λj hj=>by cases hj),λu hu=>.inl hu,λu hu=>hu⟩
 |j::l,D,Q,h,hv,hl=>by
  obtain⟨hj,Kt⟩:=hl j aA;obtain⟨h1,h2,h3,h4,h5,h6⟩:=alz hlf h hv hj Kt;simp only[iE];obtain⟨g1,g2,g3,g4,g5,g6⟩:=Aq hlf l (D:=(kN L R v (D,Q) j).1) (Q:=(kN L R v (D,Q) j).2) h1 (by rw[h3 v hv];exact hv) (λi hi=>hl i (az _ hi));refine⟨g1,g2.trans h2,λu hu=>?_,λi hi hR=>?_,λu hu=>?_,λu hu=>g6 u (h6 u hu)⟩
  .rw[g3 u (by rw[h3 u hu];exact hu),h3 u hu]
  .rcases aB.1 hi with rfl|hi
   .have:=h4 hR;rw[g3 _ this];exact this
   exact g4 i hi hR
  rcases g5 u hu with h7|h7
  .rcases h5 u h7 with h8|h8
   .exact .inl h8
   exact .inr (g6 u h8)
  exact .inr h7
theorem UK{L:Lg}{R:Nat->Int}{n t:Nat}(hlf:∀ j,j<L.m->L.lf j<n):∀ (f:Nat) {D:Nat->Int} {Q:List Nat},nT L R n t D Q->jY D n+Q.length<=f->
  (∀v,0<=D v->v∉Q-> ∀j,j<L.m->L.lt j=v->0<R j->0<=D (L.lf j))->
  nT L R n t (pj L R f (D,Q)) []/\ ∀j,j<L.m->0<=pj L R f (D,Q) (L.lt j)->0<R j->0<=pj L R f (D,Q) (L.lf j)
 |0,D,Q,h,hf,hp=>by
  have:Q=[]:=List.eq_nil_of_length_eq_zero (by omega);subst this;simp only[pj];exact⟨h,λj hj h1 h2=>hp _ h1 (by simp) j hj rfl h2⟩
 |f+1,D,[],h,hf,hp=>by
  simp only[pj];exact⟨h,λj hj h1 h2=>hp _ h1 (by simp) j hj rfl h2⟩
 |f+1,D,v::Q,h,hf,hp=>by
  have hv:=h.q v aA;obtain⟨g1,g2,g3,g4,g5,g6⟩:=Aq (v:=v) hlf (xS L v) (D:=D) (Q:=Q) ⟨h.d0,h.ge,h.zero,h.dn,λu hu=>h.q u (az _ hu),h.next⟩ hv (λj hj=>vE.1 hj);simp only[pj];simp only[aG]at hf;refine UK hlf f g1 (by omega) λu hu hq j hj UL hR=>?_;rcases g5 u hu with h7|h7
  .by_cases wm:u=v
   .subst wm;exact g4 j (vE.2 ⟨hj,UL⟩) hR
   have:u∉v::Q:=by
    rintro hm;rcases aB.1 hm with rfl|hm
    .exact wm rfl
    exact hq (g6 u hm)
   have h8:=hp u h7 this j hj UL hR;rw[g3 _ h8];exact h8
  exact(hq h7).elim
theorem ss{L:Lg}{R:Nat->Int}{n t:Nat}(hlf:∀ j,j<L.m->L.lf j<n)(ht:t<n):nT L R n t (eL L R n t) []/\ ∀j,j<L.m->0<=eL L R n t (L.lt j)->0<R j->0<=eL L R n t (L.lf j):=by
 refine UK hlf n ⟨by simp[lu],λv=>?_,λv hv=>?_,λv hv=>?_,λv hv=>?_,λv hv hne=>?_⟩ ?_ λv hv hq=>?_
 .unfold lu;split<;>omega
 .unfold lu at hv;split at hv
  .assumption
  omega
 .unfold lu at hv;split at hv
  .rename_i e;rw[e];exact ht
  omega
 .simp only[aF]at hv;subst hv;simp[lu]
 .unfold lu at hv;rw[bQ hne]at hv;omega
 .have:=RP ht;simp only[aG,ba];omega
 refine(hq ?_).elim;unfold lu at hv;split at hv
 .rename_i e;simp[e]
 omega
def qi(L:Lg)(R:Nat->Int)(D:Nat->Int)(v:Nat):Option Nat:=(fO L v).find? λj=>decide (0<R j/\D (L.lt j)=D v-1)
def kO(L:Lg)(R:Nat->Int)(D:Nat->Int)(t:Nat):Nat->Nat->List Nat
 |0,_=>[]
 |f+1,v=>if v=t then[]else match qi L R D v with
  |some j=>j::kO L R D t f (L.lt j)
  |none=>[]
theorem ID{L:Lg}{R D:Nat->Int}{v j:Nat}(h:qi L R D v=some j):j<L.m/\L.lf j=v/\0<R j/\D (L.lt j)=D v-1:=by
 unfold qi at h;have h1:=List.mem_of_find?_eq_some h;have h2:=List.find?_some h;simp only[dN]at h2;obtain⟨h3,h4⟩:=vF.1 h1;exact⟨h3,h4,h2.1,h2.2⟩
theorem alA{L:Lg}{R D:Nat->Int}{v:Nat}(h:qi L R D v=none):∀ j,j<L.m->L.lf j=v->0<R j->D (L.lt j)≠D v-1:=by
 intro j h1 h2 h3 h4;unfold qi at h;have:=List.find?_eq_none.1 h j (vF.2 ⟨h1,h2⟩);simp only[dN,not_and]at this;exact this h3 h4
theorem nT.qi{L:Lg}{R D:Nat->Int}{n t v:Nat}{Q:List Nat}(h:nT L R n t D Q)(hv:0<=D v)(mR:v≠t):∃ j,Go.Proofs.YtjhmdfofhnijeaaGreatDoor.qi L R D v=some j:=by
 obtain⟨j,h1,h2,h3,h4⟩:=h.next v hv mR;cases hn:Go.Proofs.YtjhmdfofhnijeaaGreatDoor.qi L R D v with
 |some i=>exact⟨i,rfl⟩
 |none=>exact(alA hn j h1 h2 h3 h4).elim
theorem nT.pos{L:Lg}{R D:Nat->Int}{n t v:Nat}{Q:List Nat}(h:nT L R n t D Q)(hv:0<=D v)(mR:v≠t):0<D v:=by
 rcases ay hv with h1|h1
 .exact h1
 exact(mR (h.zero v h1.symm)).elim
theorem Aw{L:Lg}{R D:Nat->Int}{n t:Nat}(h:nT L R n t D []):∀ (f v:Nat),0<=D v->D v=(f:Int)->jN L v (kO L R D t f v) t/\(kO L R D t f v).Pairwise (λi j=>D (L.lf j)<D (L.lf i))/\
  ∀j∈kO L R D t f v,j<L.m/\0<R j/\D (L.lt j)=D (L.lf j)-1/\D (L.lf j)<=D v
 |0,v,hv,hf=>by
  have:v=t:=h.zero v (by simpa using hf);simp only[kO,jN];exact⟨this,bd,λj hj=>by cases hj⟩
 |f+1,v,hv,hf=>by
  simp only[kO];by_cases mR:v=t
  .rw[bS mR];exact⟨mR,bd,λj hj=>by cases hj⟩
  rw[bQ mR];obtain⟨j,hj⟩:=h.qi hv mR;obtain⟨h1,h2,h3,h4⟩:=ID hj;rw[hj];simp only;have h5:D (L.lt j)=(f:Int):=by rw[h4,hf];omega
  obtain⟨g1,g2,g3⟩:=Aw h f (L.lt j) (by omega) h5;refine⟨⟨h2,g1⟩,aD.2 ⟨λi hi=>?_,g2⟩,λi hi=>?_⟩
  .have:=(g3 i hi).2.2.2;rw[h2];omega
  rcases aB.1 hi with rfl|hi
  .exact⟨h1,h3,by rw[h2,h4],by rw[h2];exact ar _⟩
  obtain⟨k1,k2,k3,k4⟩:=g3 i hi;exact⟨k1,k2,k3,by omega⟩
theorem IL{G:Net}{D:Nat->Int}:∀ {P:List Nat},P.Pairwise (λi j=>D (lf G j)<D (lf G i))->(∀j∈P,D (lt G j)=D (lf G j)-1)->(ml P).Nodup
 |[],_,_=>List.nodup_nil
 |j::P,hp,hd=>by
  obtain⟨p1,p2⟩:=aD.1 hp;simp only[ml,aU];refine⟨λhm=>?_,IL p2 λi hi=>hd i (az _ hi)⟩;obtain⟨i,hi,e⟩:=Fm hm;have k4:=p1 i hi;by_cases hq:i%2=j%2
  .have:i=j:=by omega
   rw[this]at k4;omega
  have k3:=hd i (az _ hi);have k2:=hd j aA;have e1:lf G i=lt G j/\lt G i=lf G j:=by
   unfold lf lt;rw[e];by_cases h6:j%2=0
   .rw[bS h6,bQ (by omega),bQ (by omega),bS h6];exact⟨rfl,rfl⟩
   rw[bQ h6,bS (by omega),bS (by omega),bQ h6];exact⟨rfl,rfl⟩
  rw[e1.1,e1.2]at k3;omega
def gF(R:Nat->Int):List Nat->Int->Int
 |[],a=>a
 |j::P,a=>gF R P (if R j<a then R j else a)
theorem Ax(R:Nat->Int):∀ (P:List Nat) (a:Int),gF R P a<=a/\ ∀j∈P,gF R P a<=R j
 |[],a=>⟨ar _,λj hj=>by cases hj⟩
 |i::P,a=>by
  obtain⟨h1,h2⟩:=Ax R P (if R i<a then R i else a);have h3:(if R i<a then R i else a)<=a/\(if R i<a then R i else a)<=R i:=by split<;>omega
  simp only[gF];refine⟨au h1 h3.1,λj hj=>?_⟩;rcases aB.1 hj with rfl|hj
  .exact au h1 h3.2
  exact h2 j hj
theorem Eu{R:Nat->Int}:∀ {P:List Nat} {a:Int},0<a->(∀j∈P,0<R j)->0<gF R P a
 |[],a,h,_=>h
 |i::P,a,h,hp=>by
  simp only[gF];refine Eu ?_ λj hj=>hp j (az _ hj);have:=hp i aA;split<;>omega
def lO(G:Net)(n s t:Nat)(F:Nat->Int):List Nat:=kO (en G) (rm G F) (eL (en G) (rm G F) n t) t (eL (en G) (rm G F) n t s).toNat s
def once(G:Net)(n s t:Nat)(F:Nat->Int):Nat->Int:=lP (gF (rm G F) (lO G n s t F) 1099511627776) F (lO G n s t F)
def xT(G:Net)(n s t:Nat):Nat->(Nat->Int)->Nat->Int
 |0,F=>F
 |f+1,F=>if eL (en G) (rm G F) n t s<0 then F else xT G n s t f (once G n s t F)
theorem vG{G:Net}{j:Nat}(h:j<(en G).m):j/2<G.m:=by
 have h:j<2*G.m:=h;omega
theorem Av{G:Net}{n s t:Nat}(hG:iF G n s t)(j:Nat)(hj:j<(en G).m):(en G).lf j<n:=by
 show lf G j<n;unfold lf;split
 .exact hG.fr _ (vG hj)
 exact hG.to _ (vG hj)
theorem R0{G:Net}{n s t:Nat}(hG:iF G n s t)(j:Nat)(hj:j<(en G).m):(en G).lt j<n:=by
 show lt G j<n;unfold lt;split
 .exact hG.to _ (vG hj)
 exact hG.fr _ (vG hj)
theorem RV{G:Net}{n s t:Nat}{F:Nat->Int}(hG:iF G n s t)(hF:iO G n s t F)(hs:0<=eL (en G) (rm G F) n t s):iO G n s t (once G n s t F)/\dL G F s<dL G (once G n s t F) s:=by
 have hlf:=Av hG;obtain⟨hb,_⟩:=ss (R:=rm G F) hlf hG.lt;obtain⟨h1,h2,h3⟩:=Aw hb (eL (en G) (rm G F) n t s).toNat s hs (by omega);have hl:=Ax (rm G F) (lO G n s t F) 1099511627776;have hpos:0<gF (rm G F) (lO G n s t F) 1099511627776:=Eu (by omega) λj hj=>(h3 j hj).2.1;obtain⟨g1,g2⟩:=aly (r:=gF (rm G F) (lO G n s t F) 1099511627776) hG hF h1 (λj hj=>vG (h3 j hj).1) (IL h2 λj hj=>(h3 j hj).2.2.1) (by omega) (λj hj=>hl.2 j hj);refine⟨g1,?_⟩;have:dL G (once G n s t F) s=dL G F s+gF (rm G F) (lO G n s t F) 1099511627776:=g2;omega
def Au(G:Net)(s:Nat):Int:=nr G λv=>v==s
theorem RW{G:Net}{n s t:Nat}{F:Nat->Int}(hG:iF G n s t)(hF:iO G n s t F):dL G F s<=Au G s:=
 UF hG hF (by simp) (by simpa using Ne.symm hG.st)
theorem UM{G:Net}{n s t:Nat}(hG:iF G n s t):∀ (f:Nat) {F:Nat->Int},iO G n s t F->Au G s-dL G F s<(f:Int)->iO G n s t (xT G n s t f F)/\eL (en G) (rm G (xT G n s t f F)) n t s<0
 |0,F,hF,h=>by
  have:=RW hG hF;simp at h;omega
 |f+1,F,hF,h=>by
  simp only[xT];by_cases hd:eL (en G) (rm G F) n t s<0
  .rw[bS hd];exact⟨hF,hd⟩
  rw[bQ hd];obtain⟨h1,h2⟩:=RV hG hF (by omega);exact UM hG f h1 (by push_cast at h;omega)
def xU:Nat->Int:=λ_=>0
theorem IG(G:Net)(v:Nat):dL G xU v=0:=by
 unfold dL;rw[iW (h:=λ_=>0) λk hk=>by unfold gk xU;split<;>split<;>rfl,ri]
def kx(G:Net)(n s t:Nat):Nat->Int:=xT G n s t ((Au G s).toNat+1) xU
def AE(G:Net)(n s t:Nat):Int:=dL G (kx G n s t) s
theorem RU{G:Net}{n s t:Nat}(hc:∀ k,k<G.m->0<=G.cap k):iO G n s t xU:=⟨λk hk=>ar _,λk hk=>hc k hk,λv _ _ _=>IG G v⟩
theorem xW{G:Net}{n s t:Nat}(hG:iF G n s t)(hc:∀ k,k<G.m->0<=G.cap k):iO G n s t (kx G n s t)/\eL (en G) (rm G (kx G n s t)) n t s<0:=by
 refine UM hG _ (RU hc) ?_;rw[IG];omega
theorem ajZ{G:Net}{n s t:Nat}(hG:iF G n s t)(hc:∀ k,k<G.m->0<=G.cap k):∃ S:Nat->Bool,S s=true/\S t=false/\AE G n s t=nr G S:=by
 obtain⟨h1,h2⟩:=xW hG hc;have hlf:=Av hG;obtain⟨hb,hcl⟩:=ss (R:=rm G (kx G n s t)) hlf hG.lt;refine⟨λv=>decide (eL (en G) (rm G (kx G n s t)) n t v<0),by simpa using h2,by simp[hb.d0],?_⟩;refine UG hG h1 (by simpa using h2) (by simp[hb.d0]) λj hj ha hb'=>?_;simp only[dN,gU]at ha hb';rcases Int.lt_or_le 0 (rm G (kx G n s t) j)with h3|h3
 .have h4:0<=eL (en G) (rm G (kx G n s t)) n t (lf G j):=hcl j (by show j<2*G.m;omega) (by show 0<=eL (en G) (rm G (kx G n s t)) n t (lt G j);omega) h3;omega
 exact h3
theorem alB{G:Net}{n s t:Nat}(hG:iF G n s t)(hc:∀ k,k<G.m->0<=G.cap k){S:Nat->Bool}(hs:S s=true)(ht:S t=false):AE G n s t<=nr G S:=
 UF hG (xW hG hc).1 hs ht
end Go.Proofs.YtjhmdfofhnijeaaGreatDoor
namespace Go.Proofs.YtjhmdfofhnijeaaGreatDoor
open Go.Sy Go.Mb
def cT{α:Type}(f:α->Int):List α->Int
 |[]=>0
 |a::l=>f a+cT f l
theorem nu{α:Type}(f:α->Int):∀ l m:List α,cT f (l++m)=cT f l+cT f m
 |[],m=>by simp[cT]
 |a::l,m=>by simp only[a8,cT,nu f l m];omega
theorem lY{α:Type}{f g:α->Int}:∀ {l:List α},(∀a∈l,f a=g a)->cT f l=cT g l
 |[],_=>rfl
 |a::l,h=>by simp only[cT];rw[h a aA,lY λx hx=>h x (az _ hx)]
theorem Ku{α:Type}{f g:α->Int}:∀ {l:List α},(∀a∈l,f a<=g a)->cT f l<=cT g l
 |[],_=>ar _
 |a::l,h=>by
  have h1:=h a aA;have h2:=Ku λx hx=>h x (az a hx);simp only[cT];omega
theorem Bs{α:Type}:∀ l:List α,cT (λ_=>0) l=0
 |[]=>rfl
 |a::l=>by simp only[cT,Bs l];rfl
theorem ru{α:Type}{f:α->Int}{l:List α}(h:∀ a∈l,f a=0):cT f l=0:=by rw[lY h,Bs]
theorem EY{α:Type}(f g:α->Int):∀ l:List α,cT (λa=>f a+g a) l=cT f l+cT g l
 |[]=>rfl
 |a::l=>by simp only[cT,EY f g l];omega
theorem yz{α:Type}(f g:α->Int):∀ l:List α,cT (λa=>f a-g a) l=cT f l-cT g l
 |[]=>rfl
 |a::l=>by simp only[cT,yz f g l];omega
theorem Fo{α β:Type}(f:β->Int)(g:α->β):∀ l:List α,cT f (l.map g)=cT (λa=>f (g a)) l
 |[]=>rfl
 |a::l=>by simp only[bc,cT,Fo f g l]
theorem A7{α:Type}(f:α->Int)(p:α->Bool):∀ l:List α,cT f (l.filter p)=cT (λa=>if p a=true then f a else 0) l
 |[]=>rfl
 |a::l=>by
  by_cases h:p a=true
  .rw[List.filter_cons_of_pos h];simp only[cT,bS h,A7 f p l]
  rw[List.filter_cons_of_neg h];simp only[cT,bQ h,A7 f p l];omega
theorem JN{α β:Type}(f:β->Int)(g:α->List β):∀ l:List α,cT f (l.flatMap g)=cT (λa=>cT f (g a)) l
 |[]=>rfl
 |a::l=>by rw[aZ,nu,cT,JN f g l]
theorem Fp{α β:Type}(g:α->β->Int)(m:List β):∀ l:List α,cT (λa=>cT (λb=>g a b) m) l=cT (λb=>cT (λa=>g a b) l) m
 |[]=>by simp only[cT];rw[Bs]
 |a::l=>by simp only[cT];rw[Fp g m l,<- EY]
theorem sH(f:Nat->Int):∀ n:Nat,cT f (aH n)=ez f n
 |0=>rfl
 |n+1=>by rw[aT,nu,sH f n];simp only[cT,ez];omega
theorem UN{α:Type}[DecidableEq α](c:α->Int)(u:α):∀ {l:List α},l.Nodup->cT (λv=>if v=u then c v else 0) l=if u∈l then c u else 0
 |[],_=>by simp[cT]
 |a::l,h=>by
  obtain⟨h1,h2⟩:=aU.1 h;simp only[cT];rw[UN c u h2];by_cases e:a=u
  .subst e;rw[bS rfl,bQ h1,bS aA];omega
  rw[bQ e];by_cases hm:u∈l
  .rw[bS hm,bS (az _ hm)];omega
  rw[bQ hm,bQ (by simp only[aB,not_or];exact⟨λq=>e q.symm,hm⟩)];omega
theorem UO{α:Type}[Inhabited α](g:α->Int){l:List α}:∀ {n:Nat},n<=l.length->ez (λk=>g (l.getD k aq)) n=cT g (l.take n)
 |0,_=>by simp[ez,cT]
 |n+1,h=>by
  rw[gg (by omega),nu];simp only[ez,cT];rw[UO g (by omega)];omega
theorem UP{α:Type}[Inhabited α](g:α->Int)(l:List α):ez (λk=>g (l.getD k aq)) l.length=cT g l:=by rw[UO g (Nat.le_refl _),List.take_length]
structure mh(n:Nat)(a:dR):Prop where
 fr:0<=a.fr/\a.fr<(n:Int)
 to:0<=a.to/\a.to<(n:Int)
 ne:a.fr≠a.to
 cap:0<=a.cap/\a.cap<=1099511627776
def b9(l:List dR):Net:=⟨l.length,λk=>(l.getD k aq).fr.toNat,λk=>(l.getD k aq).to.toNat,λk=>(l.getD k aq).cap⟩
theorem Ay{n s t:Nat}{l:List dR}(h:∀ a∈l,mh n a)(hs:s<n)(ht:t<n)(hst:s≠t):iF (b9 l) n s t where
 fr k hk:=by have:=(h (l.getD k aq) (by rw[cV hk];exact aC _)).fr;show(l.getD k aq).fr.toNat<n;omega
 to k hk:=by have:=(h (l.getD k aq) (by rw[cV hk];exact aC _)).to;show(l.getD k aq).to.toNat<n;omega
 ne k hk:=by have h1:=(h (l.getD k aq) (by rw[cV hk];exact aC _));have:=h1.ne;have:=h1.fr;have:=h1.to;show(l.getD k aq).fr.toNat≠(l.getD k aq).to.toNat;omega
 ls:=hs
 lt:=ht
 st:=hst
def oe(node time:Int):List di->Int->Int
 |[],n=>n
 |x::l,n=>oe node time l (if gz node time x then n-x.size else n)
def jm(t:cE)(d:cA)(node time:Int):Int:=if node=d.src\/node=d.dst then 1099511627776 else oe node time t.dw (t.bO.qs.getD node.toNat 0)
structure XA where
 dv:dR
 ct:Int
 tm:Int
instance:Inhabited XA:=⟨⟨aq,0,0⟩⟩
def sS(d:cA)(h i:Nat):Int:=d.ready+((i%h:Nat):Int)
def wX(t:cE)(d:cA)(h i:Nat):XA:=⟨⟨(i:Int),(i:Int)+1,jm t d ((i/h:Nat):Int) (sS d h i)⟩,-1,sS d h i⟩
def dV(t:cE)(d:cA)(h n:Nat):List XA:=((aH n).filter λi=>i%h !=h-1).map (wX t d h)
def yA(d:cA)(h:Nat)(node time:Int):Int:=node*(h:Int)+(time-d.ready)
def cX(t:cE)(d:cA)(h ct:Nat)(u:Int):XA:=⟨⟨yA d h (t.bO.bW.getD ct aq).fr u,yA d h (t.bO.bW.getD ct aq).to (u+1+(t.bO.bW.getD ct aq).c7),(t.bO.bW.getD ct aq).gn⟩,(ct:Int),u⟩
def iz(t:cE)(d:cA)(h ct:Nat):List XA:=(mA t d ct).map (cX t d h ct)
def dy(t:cE)(d:cA)(h:Nat):List XA:=dV t d h (t.bO.qs.length*h)++(aH t.bO.bW.length).flatMap (iz t d h)
def dq(t:cE)(d:cA)(h:Nat):List dR:=(dy t d h).map XA.dv
theorem rK(t:cE)(d:cA)(h n:Nat):dV t d h (n+1)=dV t d h n++if n%h=h-1 then[]else[wX t d h n]:=by
 unfold dV;rw[aT,aR,aV];congr 1;by_cases e:n%h=h-1
 .rw[bS e];simp[e]
 rw[bQ e];simp[e]
theorem uw(t:cE)(d:cA)(h n:Nat):(dV t d h n).length<=n:=by
 unfold dV;rw[aP];exact bl (aQ _ _) (by simp)
theorem Kv(t:cE)(d:cA)(h k:Nat)(hk:k<(dy t d h).length):(dq t d h).getD k aq=((dy t d h).getD k aq).dv:=by
 have h1:k<(dq t d h).length:=by unfold dq;rw[aP];exact hk
 unfold dq at h1⊢;rw[cV hk,cV h1,List.getElem_map]
theorem Bt(t:cE)(d:cA)(h:Nat):(dq t d h).length=(dy t d h).length:=by unfold dq;rw[aP]
theorem l8{h a b:Nat}(hb:b<h):(a*h+b)/h=a:=by rw[bj,Nat.mul_add_div (by omega),Nat.div_eq_of_lt hb];rfl
theorem jT{h a b:Nat}(hb:b<h):(a*h+b)%h=b:=by rw[bj,Nat.mul_add_mod,Nat.mod_eq_of_lt hb]
theorem sU{h a b N:Nat}(hb:b<h)(ha:a<N):a*h+b<N*h:=by
 have:=Nat.mul_le_mul_right h (show a+1<=N from ha);rw[bn]at this;omega
theorem ux{h a b a' b':Nat}(hb:b<h)(hb':b'<h):a*h+b=a'*h+b'↔a=a'/\b=b':=by
 constructor
 .intro e;have e1:=l8 (a:=a) hb;have e2:=jT (a:=a) hb;rw[e]at e1 e2;rw[l8 hb']at e1;rw[jT hb']at e2;exact⟨e1.symm,e2.symm⟩
 rintro⟨rfl,rfl⟩;rfl
theorem Fq{d:cA}{h:Nat}{x u:Int}(hx:0<=x)(hu:d.ready<=u):yA d h x u=((x.toNat*h+(u-d.ready).toNat:Nat):Int):=by
 unfold yA;rw[Int.natCast_add,Int.natCast_mul,av hx,av (by omega)]
theorem wo{h N v:Nat}(h0:0<h)(hv:v<N*h):v/h<N/\v%h<h/\v=v/h*h+v%h:=by
 refine⟨Nat.div_lt_of_lt_mul (by rw[bj];exact hv),Nat.mod_lt _ h0,?_⟩;rw[bj];exact(Nat.div_add_mod v h).symm
theorem alC{t:cE}(ok:fj t){d:cA}{h ct:Nat}{y:XA}:y∈iz t d h ct↔ ∃u,oT t d ct u=true/\y=cX t d h ct u:=by
 unfold iz;simp only[aM,Kp ok];constructor
 .rintro⟨u,h1,rfl⟩;exact⟨u,h1,rfl⟩
 rintro⟨u,h1,rfl⟩;exact⟨u,h1,rfl⟩
theorem wq{t:cE}{d:cA}{h n:Nat}{y:XA}:y∈dV t d h n↔ ∃i,i<n/\i%h≠h-1/\y=wX t d h i:=by
 unfold dV;simp only[aM,aL,aJ,mX];constructor
 .rintro⟨i,⟨h1,h2⟩,rfl⟩;exact⟨i,h1,h2,rfl⟩
 rintro⟨i,h1,h2,rfl⟩;exact⟨i,⟨h1,h2⟩,rfl⟩
theorem Bu{t:cE}(ok:fj t){d:cA}{h:Nat}{y:XA}:y∈dy t d h↔(∃i,i<t.bO.qs.length*h/\i%h≠h-1/\y=wX t d h i)\/ ∃ct u,ct<t.bO.bW.length/\oT t d ct u=true/\y=cX t d h ct u:=by
 unfold dy;rw[aI,wq,aN];simp only[aJ,alC ok];constructor
 .rintro(h1|⟨ct,h1,u,h2,h3⟩)
  .exact .inl h1
  exact .inr ⟨ct,u,h1,h2,h3⟩
 rintro(h1|⟨ct,u,h1,h2,h3⟩)
 .exact .inl h1
 exact .inr ⟨ct,h1,u,h2,h3⟩
theorem Kw{t:cE}(ok:fj t){d:cA}{h ct:Nat}(hv:d.dead=d.ready+(h:Int)-1)(hc:ct<t.bO.bW.length){u:Int}(hu:oT t d ct u=true):
  ∃a b k j:Nat,(t.bO.bW.getD ct aq).fr=(a:Int)/\(t.bO.bW.getD ct aq).to=(b:Int)/\a<t.bO.qs.length/\b<t.bO.qs.length/\a≠b/\u=d.ready+(k:Int)/\u+1+(t.bO.bW.getD ct aq).c7=d.ready+(j:Int)/\k<j/\j<h/\
   (cX t d h ct u).dv.fr=((a*h+k:Nat):Int)/\(cX t d h ct u).dv.to=((b*h+j:Nat):Int):=by
 obtain⟨h1,h2,h3,h4,h5⟩:=qn.1 hu;have hok:=ok.p.bW (t.bO.bW.getD ct aq) (by rw[cV hc];exact aC _);have k1:=hok.fr;have k2:=hok.to;have k3:=hok.c7;have k4:=hok.ne;refine⟨(t.bO.bW.getD ct aq).fr.toNat,(t.bO.bW.getD ct aq).to.toNat,(u-d.ready).toNat,(u+1+(t.bO.bW.getD ct aq).c7-d.ready).toNat,by omega,by omega,by omega,by omega,by omega,by omega,by omega,by omega,by omega,?_,?_⟩
 .exact Fq k1.1 h3
 exact Fq k2.1 (by omega)
theorem UQ{t:cE}{h i:Nat}(h0:0<h)(hi:i<t.bO.qs.length*h)(hm:i%h≠h-1):
  i/h<t.bO.qs.length/\i%h+1<h/\i=i/h*h+i%h:=by
 obtain⟨h1,h2,h3⟩:=wo h0 hi;exact⟨h1,by omega,h3⟩
theorem alD{t:cE}(ok:fj t){d:cA}{h:Nat}(h2:2<=h)(hv:d.dead=d.ready+(h:Int)-1){y:XA}(hy:y∈dy t d h):
  0<=y.dv.fr/\y.dv.fr<((t.bO.qs.length*h:Nat):Int)/\0<=y.dv.to/\y.dv.to<((t.bO.qs.length*h:Nat):Int)/\y.dv.fr≠y.dv.to:=by
 rcases(Bu ok).1 hy with ⟨i,hi,hm,rfl⟩|⟨ct,u,hc,hu,rfl⟩
 .obtain⟨h3,h4,h5⟩:=UQ (by omega) hi hm;have:=sU (a:=i/h) (b:=i%h+1) h4 h3;simp only[wX];omega
 obtain⟨a,b,k,j,_,_,ha,hb,hab,_,_,yB,hj,e1,e2⟩:=Kw ok hv hc hu;rw[e1,e2];have h3:=sU (a:=a) (b:=k) (show k<h by omega) ha;have h4:=sU (a:=b) (b:=j) hj hb;have h5:=ux (h:=h) (a:=a) (b:=k) (a':=b) (b':=j) (by omega) hj;have h6:¬ (a*h+k=b*h+j):=λe=>hab (h5.1 e).1;omega
theorem A8(node time:Int):∀ (l:List di) (n:Int),oe node time l n=n-e7 node time l
 |[],n=>by simp[oe,e7]
 |x::l,n=>by
  simp only[oe,e7];rw[A8 node time l];by_cases e:gz node time x=true
  .rw[bS e,bS e];omega
  rw[bQ e,bQ e];omega
def mw(d:cA)(nd a b node k:Int):Int:=if nd=node then(if node=d.src then(if k<a then-b else 0)else(if a<=k then b else 0))else 0
def dS(t:cE)(x:dC):fV:=t.bO.bW.getD x.ct.toNat aq
def iQ(t:cE)(x:dC):Int:=x.tm+1+(dS t x).c7
def mW(t:cE)(d:cA)(node k:Int)(x:dC):Int:=mw d (dS t x).fr (x.tm-d.ready) (-x.n) node k+mw d (dS t x).to (iQ t x-d.ready) x.n node k
def stM(t:cE)(d:cA)(l:List dC)(node k:Int):Int:=cT (mW t d node k) l
def pE(l:List dC)(ct tm:Int):Int:=cT (λx=>if x.ct=ct/\x.tm=tm then x.n else 0) l
def pF(t:cE)(d:cA)(h:Nat)(l:List dC)(y:XA):Int:=if y.ct<0 then stM t d l ((y.dv.fr.toNat/h:Nat):Int) ((y.dv.fr.toNat%h:Nat):Int)else pE l y.ct y.tm
def Fs(t:cE)(d:cA)(h:Nat)(l:List dC)(k:Nat):Int:=pF t d h l ((dy t d h).getD k aq)
structure jA(t:cE)(d:cA)(x:dC):Prop where
 ct:0<=x.ct/\x.ct<(t.bO.bW.length:Int)
 n:1<=x.n/\x.n<=(dS t x).gn
 tick:oT t d x.ct.toNat x.tm=true
def lV(a b:dC):Prop:=¬ (a.ct=b.ct/\a.tm=b.tm)
theorem UR(t:cE)(d:cA)(h:Nat)(f:XA->Int)(v:Nat):dL (b9 (dq t d h)) (λk=>f ((dy t d h).getD k aq)) v=cT (λy=>(if y.dv.fr.toNat=v then f y else 0)-(if y.dv.to.toNat=v then f y else 0)) (dy t d h):=by
 rw[<-UP];have e:(b9 (dq t d h)).m=(dy t d h).length:=Bt t d h;unfold dL;rw[e];refine iW λk hk=>?_;unfold gk b9;simp only;rw[Kv t d h k hk]
theorem US(t:cE)(d:cA)(h:Nat)(S:Nat->Bool):nr (b9 (dq t d h)) S=cT (λa:dR=>if S a.fr.toNat=true/\S a.to.toNat=false then a.cap else 0) (dq t d h):=by
 rw[<-UP];rfl
theorem Kx(t:cE)(d:cA)(h i:Nat):(wX t d h i).dv.fr.toNat=i:=rfl
theorem Bv(t:cE)(d:cA)(h i:Nat):(wX t d h i).dv.to.toNat=i+1:=by show((i:Int)+1).toNat=i+1;omega
theorem UT(t:cE)(d:cA)(h n a b:Nat)(g:Nat->Nat->Int)(hb:b<h)(ha:a*h+b<n):
  cT (λy=>if y.dv.fr.toNat=a*h+b then g (y.dv.fr.toNat/h) (y.dv.fr.toNat%h)else 0) (dV t d h n)=if b=h-1 then 0 else g a b:=by
 unfold dV;rw[Fo,A7,sH];rw[iW (h:=λi=>if i=a*h+b then(if b=h-1 then 0 else g a b)else 0)]
 .rw[pw (λ_=>if b=h-1 then 0 else g a b),bS ha]
 intro i hi;rw[Kx];by_cases e:i=a*h+b
 .subst e;rw[bS rfl,bS rfl,l8 hb,jT hb];by_cases e:b=h-1
  .rw[bQ (by simp[e]),bS e]
  rw[bS (by simp[e]),bQ e]
 rw[bQ e,bQ e];split<;>rfl
theorem UU(t:cE)(d:cA)(h n a b:Nat)(g:Nat->Nat->Int)(hb:b<h)(ha:a*h+b<n):
  cT (λy=>if y.dv.to.toNat=a*h+b then g (y.dv.fr.toNat/h) (y.dv.fr.toNat%h)else 0) (dV t d h n)=if b=0 then 0 else g a (b-1):=by
 unfold dV;rw[Fo,A7,sH];by_cases e:b=0
 .subst e;rw[bS rfl,iW (h:=λ_=>0),ri];intro i hi;rw[Bv];by_cases e2:i+1=a*h+0
  .have:i%h=h-1:=by
    obtain⟨a,rfl⟩:∃ a',a=a'+1:=⟨a-1,by
     rcases a with _|a
     .simp at e2
     rfl⟩
    have:i=a*h+(h-1):=by rw[bn]at e2;omega
    rw[this,jT (by omega)]
   rw[bQ (by simp[this])]
  rw[bQ e2];split<;>rfl
 obtain⟨b,rfl⟩:∃ b',b=b'+1:=⟨b-1,by omega⟩;rw[bQ e,iW (h:=λi=>if i=a*h+b then g a b else 0)]
 .rw[pw (λ_=>g a b),bS (by omega)];rfl
 intro i hi;rw[Bv,Kx];by_cases e2:i=a*h+b
 .subst e2;rw[bS (by omega:a*h+b+1=a*h+(b+1)),bS rfl,l8 (by omega),jT (by omega),bS (by rw[mX];omega)]
 have e3:¬ (i+1=a*h+(b+1)):=λq=>e2 (by omega);rw[bQ e3,bQ e2];split<;>rfl
theorem UW{t:cE}(ok:fj t){d:cA}{h:Nat}{l:List dC}(hl:∀ x∈l,jA t d x)(p:XA->Prop)[DecidablePred p]:
  cT (λy=>if p y then pE l y.ct y.tm else 0) ((aH t.bO.bW.length).flatMap (iz t d h))=cT (λx=>if p (cX t d h x.ct.toNat x.tm)then x.n else 0) l:=by
 rw[JN,sH];have e1:∀ ct,cT (λy=>if p y then pE l y.ct y.tm else 0) (iz t d h ct)=cT (λx=>if x.ct=(ct:Int)/\p (cX t d h x.ct.toNat x.tm)then x.n else 0) l:=by
  intro ct;unfold iz;rw[Fo];have e2:∀ u∈mA t d ct,(if p (cX t d h ct u)then pE l (cX t d h ct u).ct (cX t d h ct u).tm else 0)=cT (λx=>if u=x.tm then(if x.ct=(ct:Int)/\p (cX t d h ct x.tm)then x.n else 0)else 0) l:=by
   intro u _;unfold pE;by_cases hp:p (cX t d h ct u)
   .rw[bS hp];refine lY λx _=>?_;show(if x.ct=(ct:Int)/\x.tm=u then x.n else 0)=_;by_cases e:u=x.tm
    .subst e;rw[bS rfl];by_cases e':x.ct=(ct:Int)
     .rw[bS ⟨e',rfl⟩,bS ⟨e',hp⟩]
     rw[bQ (λq=>e' q.1),bQ (λq=>e' q.1)]
    rw[bQ e,bQ (λq=>e q.2.symm)]
   rw[bQ hp,ru];intro x _;by_cases e:u=x.tm
   .subst e;rw[bS rfl,bQ (λq=>hp q.2)]
   rw[bQ e]
  rw[lY e2,Fp];refine lY λx hx=>?_;have hn:(mA t d ct).Nodup:=(Ko ok d ct).imp λ{a b} q=>by omega
  rw[UN (λ_=>if x.ct=(ct:Int)/\p (cX t d h ct x.tm)then x.n else 0) x.tm hn];have hx:=hl x hx;by_cases e:x.ct=(ct:Int)
  .have e':x.ct.toNat=ct:=by rw[e];rfl
   rw[bS ((Kp ok).2 (by rw[<-e'];exact hx.tick)),e']
  have e1:∀ p:Prop,¬ (x.ct=(ct:Int)/\p):=λp q=>e q.1;rw[bQ (e1 _),bQ (e1 _)];split<;>rfl
 rw[iW λct _=>e1 ct,<- sH,Fp];refine lY λx hx=>?_;have hx:=hl x hx;rw[sH,iW (h:=λct=>if ct=x.ct.toNat then(if p (cX t d h x.ct.toNat x.tm)then x.n else 0)else 0),pw (λ_=>if p (cX t d h x.ct.toNat x.tm)then x.n else 0),bS (by have:=hx.ct;omega)];intro ct _;have:=hx.ct;by_cases e:ct=x.ct.toNat
 .rw[bS e];by_cases hp:p (cX t d h x.ct.toNat x.tm)
  .rw[bS hp,bS ⟨by omega,hp⟩]
  rw[bQ hp,bQ (λq=>hp q.2)]
 rw[bQ e,bQ (λq=>e (by omega))]
theorem Ky{t:cE}{d:cA}{h n:Nat}{l:List dC}{y:XA}(hy:y∈dV t d h n):pF t d h l y=stM t d l ((y.dv.fr.toNat/h:Nat):Int) ((y.dv.fr.toNat%h:Nat):Int):=by
 obtain⟨i,_,_,rfl⟩:=wq.1 hy;unfold pF;rw[bS (show(wX t d h i).ct<0 from by show(-1:Int)<0;omega)]
theorem Kz{t:cE}{d:cA}{h:Nat}{l:List dC}{y:XA}(hy:y∈(aH t.bO.bW.length).flatMap (iz t d h)):pF t d h l y=pE l y.ct y.tm:=by
 obtain⟨ct,_,hy⟩:=aN.1 hy;unfold iz at hy;obtain⟨u,_,rfl⟩:=aM.1 hy;unfold pF;rw[bQ (show¬(cX t d h ct u).ct<0 from by show¬(ct:Int)<0;omega)]
theorem alE{t:cE}(ok:fj t){d:cA}{h:Nat}{l:List dC}(hl:∀ x∈l,jA t d x)(a b:Nat)(ha:a<t.bO.qs.length)(hb:b<h):
  dL (b9 (dq t d h)) (Fs t d h l) (a*h+b)=(if b=h-1 then 0 else stM t d l a b)-(if b=0 then 0 else stM t d l a ((b-1:Nat):Int))+cT (λx=>(if(cX t d h x.ct.toNat x.tm).dv.fr.toNat=a*h+b then x.n else 0)-(if(cX t d h x.ct.toNat x.tm).dv.to.toNat=a*h+b then x.n else 0)) l:=by
 have hlt:=sU hb ha;rw[show Fs t d h l=λk=>pF t d h l ((dy t d h).getD k aq)from rfl,UR];unfold dy;rw[nu];congr 1
 .rw[yz,lY (g:=λy=>if y.dv.fr.toNat=a*h+b then(λ(x y:Nat)=>stM t d l x y) (y.dv.fr.toNat/h) (y.dv.fr.toNat%h)else 0) λy hy=>by rw[Ky hy],UT t d h _ a b (λx y=>stM t d l x y) hb hlt];rw[lY (g:=λy=>if y.dv.to.toNat=a*h+b then(λ(x y:Nat)=>stM t d l x y) (y.dv.fr.toNat/h) (y.dv.fr.toNat%h)else 0) λy hy=>by rw[Ky hy],UU t d h _ a b (λx y=>stM t d l x y) hb hlt]
 rw[yz,yz,lY (g:=λy=>if y.dv.fr.toNat=a*h+b then pE l y.ct y.tm else 0) λy hy=>by rw[Kz hy],lY (f:=λy=>if y.dv.to.toNat=a*h+b then pF t d h l y else 0) (g:=λy=>if y.dv.to.toNat=a*h+b then pE l y.ct y.tm else 0) λy hy=>by rw[Kz hy]];rw[UW ok hl (λy=>y.dv.fr.toNat=a*h+b),UW ok hl (λy=>y.dv.to.toNat=a*h+b)]
def rL(d:cA)(h:Nat)(nd β:Int)(a b:Nat):Int:=if nd=(a:Int)then(if(a:Int)=d.src then(if b=0 then-β else 0)else(if b=h-1 then-β else 0))else 0
theorem UX(d:cA){h K:Nat}(hK:K<h)(h2:2<=h)(nd β:Int)(a b:Nat)(hb:b<h):
  (if b=h-1 then 0 else mw d nd (K:Int) β a b)-(if b=0 then 0 else mw d nd (K:Int) β a ((b-1:Nat):Int))-(if nd=(a:Int)/\K=b then β else 0)=rL d h nd β a b:=by
 unfold rL mw;by_cases e:nd=(a:Int)
 .simp only[e,pB,iI];by_cases e1:(a:Int)=d.src
  .simp only[bS e1]
   (repeat' split)<;>omega
  simp only[bQ e1]
  (repeat' split)<;>omega
 have e2:¬ (nd=(a:Int)/\K=b):=λq=>e q.1;simp only[bQ e,bQ e2]
 (repeat' split)<;>omega
def kf(t:cE)(a:Int)(x:dC):Int:=(if(dS t x).fr=a then-x.n else 0)+(if(dS t x).to=a then x.n else 0)
def fS(t:cE)(l:List dC)(a:Int):Int:=cT (kf t a) l
structure ShF(t:cE)(d:cA)(h:Nat)(x:dC)(A B K J:Nat):Prop where
 fr:(dS t x).fr=(A:Int)
 to:(dS t x).to=(B:Int)
 hA:A<t.bO.qs.length
 hB:B<t.bO.qs.length
 hK:x.tm-d.ready=(K:Int)
 hJ:iQ t x-d.ready=(J:Int)
 KJ:K<J
 Jh:J<h
 vf:(cX t d h x.ct.toNat x.tm).dv.fr.toNat=A*h+K
 vt:(cX t d h x.ct.toNat x.tm).dv.to.toNat=B*h+J
theorem Bw{t:cE}(ok:fj t){d:cA}{h:Nat}(hv:d.dead=d.ready+(h:Int)-1){x:dC}(hx:jA t d x):∃ A B K J,ShF t d h x A B K J:=by
 obtain⟨A,B,K,J,h1,h2,h3,h4,h5,h6,h7,h8,h9,h10,h11⟩:=Kw ok hv (by have:=hx.ct;omega) hx.tick;exact⟨A,B,K,J,h1,h2,h3,h4,by omega,by unfold iQ dS;omega,h8,h9,by rw[h10];rfl,by rw[h11];rfl⟩
theorem UY{t:cE}(ok:fj t){d:cA}{h:Nat}(h2:2<=h)(hv:d.dead=d.ready+(h:Int)-1){l:List dC}(hl:∀ x∈l,jA t d x)(a b:Nat)(ha:a<t.bO.qs.length)(hb:b<h):
  dL (b9 (dq t d h)) (Fs t d h l) (a*h+b)=cT (λx=>rL d h (dS t x).fr (-x.n) a b+rL d h (dS t x).to x.n a b) l:=by
 rw[alE ok hl a b ha hb];have e1:(if b=h-1 then 0 else stM t d l a b)=cT (λx=>if b=h-1 then 0 else mW t d a b x) l:=by
  split
  .exact(Bs l).symm
  rfl
 have e2:(if b=0 then 0 else stM t d l a ((b-1:Nat):Int))=cT (λx=>if b=0 then 0 else mW t d a ((b-1:Nat):Int) x) l:=by
  split
  .exact(Bs l).symm
  rfl
 rw[e1,e2,<- yz,<- EY];refine lY λx hx=>?_;obtain⟨A,B,K,J,hs⟩:=Bw (h:=h) ok hv (hl x hx);rw[hs.vf,hs.vt];have c1:=UX d (h:=h) (K:=K) (by have:=hs.KJ;have:=hs.Jh;omega) h2 (dS t x).fr (-x.n) a b hb;have c2:=UX d (h:=h) (K:=J) hs.Jh h2 (dS t x).to x.n a b hb;rw[<-c1,<- c2];unfold mW;rw[hs.hK,hs.hJ];have f1:(A*h+K=a*h+b)↔((dS t x).fr=(a:Int)/\K=b):=by
  rw[ux (by have:=hs.KJ;have:=hs.Jh;omega) hb,hs.fr];omega
 have f2:(B*h+J=a*h+b)↔((dS t x).to=(a:Int)/\J=b):=by
  rw[ux hs.Jh hb,hs.to];omega
 by_cases g1:A*h+K=a*h+b
 .rw[bS g1,bS (f1.1 g1)];by_cases g2:B*h+J=a*h+b
  .rw[bS g2,bS (f2.1 g2)];by_cases b1:b=h-1<;>by_cases b0:b=0<;>simp only[b1,b0,iI,ic]<;>omega
  rw[bQ g2,bQ (λq=>g2 (f2.2 q))];by_cases b1:b=h-1<;>by_cases b0:b=0<;>simp only[b1,b0,iI,ic]<;>omega
 rw[bQ g1,bQ (λq=>g1 (f1.2 q))];by_cases g2:B*h+J=a*h+b
 .rw[bS g2,bS (f2.1 g2)];by_cases b1:b=h-1<;>by_cases b0:b=0<;>simp only[b1,b0,iI,ic]<;>omega
 rw[bQ g2,bQ (λq=>g2 (f2.2 q))];by_cases b1:b=h-1<;>by_cases b0:b=0<;>simp only[b1,b0,iI,ic]<;>omega
theorem JP{t:cE}(ok:fj t){d:cA}{h:Nat}(hv:d.dead=d.ready+(h:Int)-1){l:List dC}(hl:∀ x∈l,jA t d x)(a:Nat)(hs:(a:Int)≠d.src):stM t d l a ((h-1:Nat):Int)=fS t l a:=by
 unfold stM fS;refine lY λx hx=>?_;obtain⟨A,B,K,J,hf⟩:=Bw (h:=h) ok hv (hl x hx);have:=hf.KJ;have:=hf.Jh;unfold mW kf mw;rw[hf.hK,hf.hJ,bQ hs,bQ hs]
 (repeat' split)<;>omega
theorem ajN{t:cE}(ok:fj t){d:cA}{h:Nat}(hv:d.dead=d.ready+(h:Int)-1){l:List dC}(hl:∀ x∈l,jA t d x):ez (λa=>fS t l (a:Nat)) t.bO.qs.length=0:=by
 unfold fS;rw[<-sH,Fp,ru];intro x hx;obtain⟨A,B,K,J,hf⟩:=Bw (h:=h) ok hv (hl x hx);rw[sH];have e:∀ a:Nat,kf t (a:Int) x=(if a=A then(λ_=>-x.n) a else 0)+(if a=B then(λ_=>x.n) a else 0):=by
  intro a;unfold kf;rw[hf.fr,hf.to];by_cases e1:a=A<;>by_cases e2:a=B
  .rw[bS (by omega),bS (by omega),bS e1,bS e2]
  .rw[bS (by omega),bQ (by omega),bS e1,bQ e2]
  .rw[bQ (by omega),bS (by omega),bQ e1,bS e2]
  rw[bQ (by omega),bQ (by omega),bQ e1,bQ e2]
 rw[iW λa _=>e a,AK,pw,pw,bS hf.hA,bS hf.hB];omega
theorem ajO{g:Nat->Int}{i j:Nat}:∀ {n:Nat},i<n->j<n->i≠j->(∀k,k<n->k≠i->k≠j->g k=0)->ez g n=g i+g j:=by
 intro n hi hj hij H;have e:∀ k,k<n->g k=(if k=i then g k else 0)+(if k=j then g k else 0):=by
  intro k hk;by_cases e1:k=i<;>by_cases e2:k=j
  .omega
  .rw[bS e1,bQ e2];omega
  .rw[bQ e1,bS e2];omega
  rw[bQ e1,bQ e2,H k hk e1 e2];rfl
 rw[iW e,AK,pw,pw,bS hi,bS hj]
theorem UZ:∀ {l:List dC} (c u:Int),l.Pairwise lV->(pE l c u=0/\ ∀x∈l,¬ (x.ct=c/\x.tm=u))\/ ∃x∈l,x.ct=c/\x.tm=u/\pE l c u=x.n
 |[],c,u,_=>.inl ⟨rfl,λx hx=>by cases hx⟩
 |x::l,c,u,hp=>by
  obtain⟨p1,p2⟩:=aD.1 hp;have ih:=UZ c u p2;unfold pE at ih⊢;simp only[cT];by_cases e:x.ct=c/\x.tm=u
  .rw[bS e];refine .inr ⟨x,aA,e.1,e.2,?_⟩;rcases ih with ⟨h1,_⟩|⟨y,hy,h1,h2,_⟩
   .rw[h1];omega
   exact(p1 y hy ⟨by rw[e.1,h1],by rw[e.2,h2]⟩).elim
  rw[bQ e];rcases ih with ⟨h1,h2⟩|⟨y,hy,h1,h2,h3⟩
  .refine .inl ⟨by omega,λy hy=>?_⟩;rcases aB.1 hy with rfl|hy
   .exact e
   exact h2 y hy
  exact .inr ⟨y,az _ hy,h1,h2,by omega⟩
theorem E4{t:cE}(ok:fj t){d:cA}{x:dC}(hx:jA t d x):(dS t x).gn<=1000:=by
 have h1:=hx.ct;exact(ok.p.bW (dS t x) (by unfold dS;rw[cV (show x.ct.toNat<_ by omega)];exact aC _)).gn.2
theorem Tv{t:cE}(ok:fj t){d:cA}{l:List dC}(hl:∀ x∈l,jA t d x)(a b:Int):stM t d l a b<=2000*l.length:=by
 unfold stM;have:∀ x∈l,mW t d a b x<=(λ_=>2000) x:=by
  intro x hx;have h1:=E4 ok (hl x hx);have h2:=(hl x hx).n;show mW t d a b x<=2000;unfold mW mw
  (repeat' split)<;>omega
 refine au (Ku this) ?_;clear this hl
 induction l with
 |nil=>simp[cT]
 |cons x l ih=>simp only[cT,aG];push_cast;omega
end Go.Proofs.YtjhmdfofhnijeaaGreatDoor
