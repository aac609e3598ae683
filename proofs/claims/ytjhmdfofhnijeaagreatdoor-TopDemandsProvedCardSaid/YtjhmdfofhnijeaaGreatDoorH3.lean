import Derived.Test.YtjhmdfofhnijeaaGreatDoorH2
import Derived.Shelf.Spec.SlicesGrow
open Bool renaming and_eq_true->aa, eq_false_or_eq_true->ab, false_eq_true->ae, false_and->af, not_true->ai
open Go.IntKind renaming i64->aj
open Go.Proofs.Tryz renaming prog->ak, underlying3->al, underlying215->aq, underlying20->ar, zeroValue20->au, underlying9->av, underlying4->ay, underlying0->az, zeroValue9->aA, zeroValue4->aB, zeroValue3->aC, zeroValue0->aD, sizeOf20->aF, sizeOf9->aG, sizeOf4->aH, sizeOf3->aI, sizeOf0->aJ, isAgg20->aK, isAgg9->aL, isAgg4->aM, isAgg3->aN, isAgg0->aO
open Inhabited renaming default->aP
open Int renaming toNat_of_nonneg->aQ, le_refl->aR, add_zero->aS, toNat_natCast->aT, le_trans->aU
open List renaming length_append->aV, getElem_mem->aW, mem_cons_self->aX, mem_singleton->aY, take_length->aZ, mem_cons_of_mem->a6, length_map->a7, range->a8, length_cons->ba, mem_append->bc, mem_cons->bd, pairwise_append->bg, append_nil->bh, pairwise_cons->bj, mem_append_left->bk, mem_range->bl, mem_flatMap->bn, all_eq_true->bp, take_append_drop->bq, nodup_cons->br, mem_map->bu, mem_append_right->bw, map_append->bx, length_filter_le->bz, take_zero->bA, flatMap_append->bB, any_eq_false->bD, getElem_map->bE, pairwise_singleton->bF, length_singleton->bG, mem_of_mem_take->bH, length_reverse->bI, length_range->bJ, append_assoc->bK, length_take->bL, range_succ->bM, mem_filter->AI, nodup_nil->AS
open List.Pairwise renaming nil->AT, and->By
open Nat renaming not_lt_zero->BY, le_refl->IN, zero_le->IS, lt_or_ge->IT, zero_add->No
set_option linter.all false
namespace Go.Proofs
open Go.Shelf
def Tryz.ai7:Go.Shelf.Ren:=⟨λ|4=>88|n=>n,λ|22=>26|25=>126|3=>3|4=>4|9=>9|20=>20|0=>0|n=>n,λ|n=>n⟩
theorem Tryz.ai8:Go.Proofs.Lays8.n4 ak Tryz.ai7:={
 mixed:=by kernel_rfl
 f4:=⟨Tryz.f88.name,by decide,dO Tryz.func88⟩
 t0:=az
 a0:=aO
 z0:=aJ
 v0:=aD
 t3:=al
 a3:=aN
 z3:=aI
 v3:=aC
 t4:=ay
 a4:=aM
 z4:=aH
 v4:=aB
 t9:=av
 a9:=aL
 z9:=aG
 v9:=aA
 t20:=ar
 a20:=aK
 z20:=aF
 v20:=au
 t22:=Tryz.underlying26
 a22:=Tryz.isAgg26
 z22:=Tryz.sizeOf26
 v22:=Tryz.zeroValue26 }
def Tryz.ai9:Go.Shelf.Ren:=⟨λ|4=>93|n=>n,λ|22=>27|25=>130|3=>3|4=>4|9=>9|20=>20|0=>0|n=>n,λ|n=>n⟩
theorem Tryz.aja:Go.Proofs.Lays8.n4 ak Tryz.ai9:={
 mixed:=by kernel_rfl
 f4:=⟨Tryz.f93.name,by decide,dO Tryz.func93⟩
 t0:=az
 a0:=aO
 z0:=aJ
 v0:=aD
 t3:=al
 a3:=aN
 z3:=aI
 v3:=aC
 t4:=ay
 a4:=aM
 z4:=aH
 v4:=aB
 t9:=av
 a9:=aL
 z9:=aG
 v9:=aA
 t20:=ar
 a20:=aK
 z20:=aF
 v20:=au
 t22:=Tryz.underlying27
 a22:=Tryz.isAgg27
 z22:=Tryz.sizeOf27
 v22:=Tryz.zeroValue27 }
end Go.Proofs
namespace Go.Sy
set_option maxRecDepth 10000
open Go.RowKit Go.Proofs Go.Shelf
variable [fI]
theorem SQ{P:Program}{ρ:Ren}(L:Lays8.n4 P ρ)(hent:jw P (ρ.f 4)=true){i0:TypeInfo}{z:Value}(hi0:P.info? (ρ.t 25)=some i0)(hz0:i0.zero=some z)(hzs:z.cells.size=i0.size)(hs0:0<i0.size)(n:Nat)(hn:n*(i0.bytes+1)<=du)(el:Nat->Nat->A):
  cJ P (ρ.f 4) [.bN,.int .i64 n] (.own 0,some (.row (ρ.t 25) i0.size 0 el)):=by
 have hb:n*i0.bytes<=140737488355328/\n<=1099511627776:=by
  unfold du at hn;rw[Nat.mul_add,Nat.mul_one]at hn;omega
 refine⟨hent,λw X vs hX hr=>?_⟩;simp only[RL,R]at hr;obtain⟨v1,_,rfl,rfl,v2,_,rfl,rfl,rfl⟩:=hr;by_cases h0:n=0
 .subst h0;refine(Any8.slices_Grow_room L none 0 0 0 w (by omega) (by omega) (by omega) (by omega)).mono ?_;rintro e w' ⟨rfl,rfl⟩;refine⟨_,.row (.slice none 0 0),rfl,fP.refl _ _,?_,⟨_,[],rfl,⟨by simp,.inl ⟨rfl,_,rfl⟩⟩,by simp,λi hi=>by omega⟩,λb hb=>by cases hb⟩;simp only[R,dM];exact⟨bP,_,_,_,rfl⟩
 have h63:=grownCap_le_maxLen w (0+n) 0 (ρ.t 25) (by unfold maxLen;omega);have hge:0+n<=grownCap w (0+n) 0 (ρ.t 25):=grownCap_ge w _ _ _;refine(Any8.slices_Grow_grow L i0 z hi0 hz0 hs0 none 0 0 n [] w (by omega) (by omega) (by rw[No];exact hb.1) (by omega) (by simp) (λ_=>rfl) (by intro a h;cases h)).mono ?_;generalize grownCap w (0+n) 0 (ρ.t 25)=G at h63 hge;rintro e w' ⟨rfl,rfl⟩;have hlen:(w.drew).heap.size=w.heap.size:=rfl;have hG:G=(G-1)+1:=by omega
 refine⟨_,.row (.slice (some ⟨w.heap.size,0,none⟩) 0 G),rfl,?_,?_,⟨_,[],rfl,⟨by simp,.inr ⟨w.heap.size,0,G-1,_,by rw[<-hG],⟨(0,0),Array.getElem?_push_size,.inr rfl⟩,by omega,by omega,?_,by simp⟩⟩,by simp,λi hi=>by omega⟩,λb hb=>?_⟩
 .have hd:fP w.heap.size w w.drew:=⟨rfl,rfl,rfl,IN _,λ_ _=>rfl,fI.le (Nat.le_succ _)⟩;exact hd.alloc (IN _) _
 .simp only[R,dM];exact⟨bP,_,_,_,rfl⟩
 .simp only[Array.size_append,List.size_toArray,List.length_nil,size_zeroCells,hzs,No,Nat.sub_zero];rw[<-Nat.add_mul];congr 1;omega
 rw[hG]at hb;simp only[Loc.has,eQ,Option.some.injEq]at hb;subst hb;exact⟨IN _,by simp[World.alloc]⟩
end Go.Sy
namespace Go.Mb
open Go.Sy
theorem EJ{α:Type}{ls:List (List α)}{k:Nat}(h:k<ls.length):(ls.take (k+1)).flatten=(ls.take k).flatten++ls.getD k aP:=by
 rw[gg h];simp
theorem EK{α:Type}(ls:List (List α))(k:Nat):((ls.take k).flatten).length<=ls.flatten.length:=by
 have:ls.flatten=(ls.take k).flatten++(ls.drop k).flatten:=by rw[<-List.flatten_append,bq]
 rw[this,aV];omega
end Go.Mb
namespace Go.Proofs.YtjhmdfofhnijeaaGreatDoor
open Go.Sy Go.Mb
set_option maxRecDepth 100000
set_option maxHeartbeats 4000000
theorem ajb:∃ i0 z,ak.info? 126=some i0/\i0.zero=some z/\z.cells.size=i0.size/\i0.size=4/\i0.bytes=32:=⟨_,_,rfl,rfl,rfl,rfl,rfl⟩
theorem ajc(n:Nat)(hn:n<=1000000):cJ ak 88 [.bN,.int .i64 n] (.own 0,some (.row 126 4 0 (cO dE.cells []))):=by
 obtain⟨i0,z,h1,h2,h3,h4,h5⟩:=ajb;have:=SQ Tryz.ai8 (by kernel_rfl) (i0:=i0) (z:=z) h1 h2 h3 (by omega) n (by rw[h5];unfold du;omega) (cO dE.cells []);rw[h4]at this;exact this
theorem ajd(ls:List (List dE))(h1:ls.length<=1000)(h2:ls.flatten.length<=1000000):cJ ak 41 [.sl 1 ls.length (cO (λl=>[lU l]) ls)] (.own 0,some (.row 126 4 ls.flatten.length (cO dE.cells ls.flatten))):=by
 refine c8 CM Tryz.func41 rfl ?_;refine eG zE ls.length (λk=>[(0,.sl 1 ls.length (cO (λl=>[lU l]) ls)),(3,.int .i64 ((ls.take k).flatten.length:Nat)),(9,.sl 1 ls.length (cO (λl=>[lU l]) ls)),(10,.int .i64 ls.length),(11,.int .i64 k)]) (λ_=>[]) ?_ ?_
 .exact cB [] ⟨rfl,rfl,rfl,rfl,rfl,bP⟩ trivial
 rintro⟨k,(hk:k<=ls.length)⟩;by_cases a:k<ls.length
 .have hs:=EJ a;have hle:=EK ls (k+1);have hlen:((ls.take (k+1)).flatten).length=((ls.take k).flatten).length+(ls.getD k aP).length:=by rw[hs,aV]
  have hw:aj.wrap ((((ls.take k).flatten).length:Int)+((ls.getD k aP).length:Int))=(((ls.take (k+1)).flatten).length:Int):=by rw[dG,hlen];omega
  refine cD zE (er (show k<ls.length by omega)) (bU zE (cZ a) (b8 zE (by rw[gU];intro hc;have hc:aj.wrap ((((ls.take k).flatten).length:Int)+((ls.getD k aP).length:Int))<0:=hc;rw[hw]at hc;omega) (cH zE ⟨k+1,a⟩ (dp a) ?_)));exact cB [] ⟨rfl,c9 rfl hw,rfl,rfl,c6 (k:=k) (n:=ls.length) a,bP⟩ trivial
 have a:ls.length=k:=by omega
 subst a;refine b8 zE eF (dt zE rfl zE ?_);rw[aZ];refine cj zE (ajc ls.flatten.length h2) ?_;refine eG zE ls.length (λk=>[(6,.own 24),(25,.sl 1 ls.length (cO (λl=>[lU l]) ls)),(26,.int .i64 ls.length),(27,.int .i64 k)]) (λk=>[(24,.row 126 4 ((ls.take k).flatten.length) (cO dE.cells (ls.take k).flatten))]) ?_ ?_
 .exact cB [] ⟨rfl,rfl,rfl,rfl,bP⟩ ⟨df rfl rfl λ_ _ _ _=>rfl,bP⟩
 rintro⟨k,(hk:k<=ls.length)⟩;by_cases b:k<ls.length
 .have hs:=EJ b;have hle:=EK ls (k+1);have hlen:((ls.take (k+1)).flatten).length=((ls.take k).flatten).length+(ls.getD k aP).length:=by rw[hs,aV]
  refine cD zE (er (show k<ls.length by omega)) (bU zE (cZ b) (bU zE (cw (by show((ls.take k).flatten.length+(ls.getD k aP).length)*33<=du;unfold du;omega)) (cH zE ⟨k+1,b⟩ (dp b) ?_)));exact cB [(24,33)] ⟨rfl,rfl,rfl,c6 (k:=k) (n:=ls.length) b,bP⟩ ⟨df rfl hlen.symm λi hi j hj=>(Ep dE.cells (ls.take k).flatten (ls.getD k aP) i j).trans (by rw[<-hs]),bP⟩
 have b:ls.length=k:=by omega
 subst b;refine b8 zE eF (dt zE rfl zE ?_);refine zG zE (NS.ub 24 rfl rfl (bY.refl _) ⟨rfl,rfl,by rw[aZ],λi hi j hj=>by rw[aZ]⟩ λ_ _ j _=>SR rfl j)
theorem aje:∃ i0 z,ak.info? 130=some i0/\i0.zero=some z/\z.cells.size=i0.size/\i0.size=5/\i0.bytes=40:=⟨_,_,rfl,rfl,rfl,rfl,rfl⟩
theorem ajf(n:Nat)(hn:n<=1000000):cJ ak 93 [.bN,.int .i64 n] (.own 0,some (.row 130 5 0 (cO di.cells []))):=by
 obtain⟨i0,z,h1,h2,h3,h4,h5⟩:=aje;have:=SQ Tryz.aja (by kernel_rfl) (i0:=i0) (z:=z) h1 h2 h3 (by omega) n (by rw[h5];unfold du;omega) (cO di.cells []);rw[h4]at this;exact this
theorem ajg(ls:List (List di))(h1:ls.length<=1000)(h2:ls.flatten.length<=1000000):cJ ak 43 [.sl 1 ls.length (cO (λl=>[jz l]) ls)] (.own 0,some (.row 130 5 ls.flatten.length (cO di.cells ls.flatten))):=by
 refine c8 CM Tryz.func43 rfl ?_;refine eG zE ls.length (λk=>[(0,.sl 1 ls.length (cO (λl=>[jz l]) ls)),(3,.int .i64 ((ls.take k).flatten.length:Nat)),(9,.sl 1 ls.length (cO (λl=>[jz l]) ls)),(10,.int .i64 ls.length),(11,.int .i64 k)]) (λ_=>[]) ?_ ?_
 .exact cB [] ⟨rfl,rfl,rfl,rfl,rfl,bP⟩ trivial
 rintro⟨k,(hk:k<=ls.length)⟩;by_cases a:k<ls.length
 .have hs:=EJ a;have hle:=EK ls (k+1);have hlen:((ls.take (k+1)).flatten).length=((ls.take k).flatten).length+(ls.getD k aP).length:=by rw[hs,aV]
  have hw:aj.wrap ((((ls.take k).flatten).length:Int)+((ls.getD k aP).length:Int))=(((ls.take (k+1)).flatten).length:Int):=by rw[dG,hlen];omega
  refine cD zE (er (show k<ls.length by omega)) (bU zE (cZ a) (b8 zE (by rw[gU];intro hc;have hc:aj.wrap ((((ls.take k).flatten).length:Int)+((ls.getD k aP).length:Int))<0:=hc;rw[hw]at hc;omega) (cH zE ⟨k+1,a⟩ (dp a) ?_)));exact cB [] ⟨rfl,c9 rfl hw,rfl,rfl,c6 (k:=k) (n:=ls.length) a,bP⟩ trivial
 have a:ls.length=k:=by omega
 subst a;refine b8 zE eF (dt zE rfl zE ?_);rw[aZ];refine cj zE (ajf ls.flatten.length h2) ?_;refine eG zE ls.length (λk=>[(6,.own 24),(25,.sl 1 ls.length (cO (λl=>[jz l]) ls)),(26,.int .i64 ls.length),(27,.int .i64 k)]) (λk=>[(24,.row 130 5 ((ls.take k).flatten.length) (cO di.cells (ls.take k).flatten))]) ?_ ?_
 .exact cB [] ⟨rfl,rfl,rfl,rfl,bP⟩ ⟨df rfl rfl λ_ _ _ _=>rfl,bP⟩
 rintro⟨k,(hk:k<=ls.length)⟩;by_cases b:k<ls.length
 .have hs:=EJ b;have hle:=EK ls (k+1);have hlen:((ls.take (k+1)).flatten).length=((ls.take k).flatten).length+(ls.getD k aP).length:=by rw[hs,aV]
  refine cD zE (er (show k<ls.length by omega)) (bU zE (cZ b) (bU zE (cw (by show((ls.take k).flatten.length+(ls.getD k aP).length)*41<=du;unfold du;omega)) (cH zE ⟨k+1,b⟩ (dp b) ?_)));exact cB [(24,33)] ⟨rfl,rfl,rfl,c6 (k:=k) (n:=ls.length) b,bP⟩ ⟨df rfl hlen.symm λi hi j hj=>(Ep di.cells (ls.take k).flatten (ls.getD k aP) i j).trans (by rw[<-hs]),bP⟩
 have b:ls.length=k:=by omega
 subst b;refine b8 zE eF (dt zE rfl zE ?_);refine zG zE (NS.ub 24 rfl rfl (bY.refl _) ⟨rfl,rfl,by rw[aZ],λi hi j hj=>by rw[aZ]⟩ λ_ _ j _=>SR rfl j)
theorem ajh(w:World)(em:Bool)(q:List Int)(hq:q.length=2):(Instr.checkKey em 10000 215 (ep true q)).run ak w= .ok () w:=by
 match q,hq with
 |[a,b],_=>
  rw[show(10000:Nat)=9998+1+1 from rfl];unfold Instr.checkKey;simp only[ep,Sem.run_bind,run_underlying aq,Result.andThen_ok];have p0:=yb al w #[Value.int .i64 a,Value.int .i64 b] 0 _ rfl;have p1:=yb al w #[Value.int .i64 a,Value.int .i64 b] 1 _ rfl;simp[p0,p1,Jm al w em 9998]
def Jn:List (TypeId×List Go.Sy.CK):=[(215,[.i .i64,.i .i64])]
theorem SS:tS ak Jn:=by
 intro p hp;simp only[Jn,bd,List.not_mem_nil,or_false]at hp;rcases hp with rfl;exact⟨by kernel_rfl,by kernel_rfl,by rw[aq];trivial⟩
theorem aji:xm ak [(213,true,2)]:=by
 intro p hp;obtain rfl:=aY.1 hp;exact⟨215,4,by kernel_rfl,Jo SS rfl ⟨_,aq⟩ ajh⟩
noncomputable def SU:Env:={ P:=ak,lJ:=lK Jn,nO:=tT [(213,true,2)] }
theorem ajj:ib SU:=zI SS aji
noncomputable def CTk:Cx:={ E:=SU,inl:=[],ok:=ajj }
theorem ajk(x:cU)(y:dC):cJ ak 85 [.agg x.cells,.ip 3 (bT y.cells)] (.bool (iH y.tm x),none):=by
 refine c8 CM Tryz.func85 rfl ?_
 repeat' (first|(refine cK zE (λh=>?_) (λh=>?_))|(refine cN zE ?_)|(exact cL zE rfl rfl (fk ((by unfold iH;simp only[*,Bool.true_and,af])))))
theorem ajl(t:cE)(d:cA)(l:List dC)(ok:fj t)(hl:l.length<=1600)(h1:∀ x∈l,jA t d x)(h2:l.Pairwise lV):cJ ak 39 [.agg t.cells,kC l] (.int .i64 0,none):=by
 have dF:=ok.b.len;refine c8 CTk Tryz.func39 rfl ?_;refine eG zE l.length (λk=>[(2,.ptr 2 0),(5,.dA 10),(11,kC l),(12,.int .i64 l.length),(13,.int .i64 (k:Nat))]) (λk=>[(2,.box t.cells),(10,.mp 213 true 2 true [] (yc (l.take k)) (λ_=>.kb true))]) ?_ ?_
 .exact cB [] ⟨rfl,rfl,rfl,rfl,rfl,bP⟩ ⟨bV,⟨_,_,_,rfl,rfl,λq hq=>rfl⟩,bP⟩
 rintro⟨k,(hk:k<=l.length)⟩;by_cases a:k<l.length
 .have hmem:l.getD k aP∈l:=by rw[cV a];exact aW _
  obtain⟨c1,c2,c3⟩:=h1 _ hmem;obtain⟨g1,g2,g3,g4,g5⟩:=qn.1 c3;have hb:=ue t.dg (l.getD k aP).ct;have hbz:(eO t.dg (l.getD k aP).ct).any (iH (l.getD k aP).tm)=false:=by
   rw[bD];intro y hy;have e:(((l.getD k aP).ct.toNat:Nat):Int)=(l.getD k aP).ct:=aQ c1.1;have:=g5 y (by rw[e];exact hy);unfold iH;simpa[nt]using this
  have hu:yc (l.take k) [(l.getD k aP).ct,(l.getD k aP).tm]=false:=by
   unfold yc;rw[bD];intro y hy;have h3:lV y (l.getD k aP):=by
    have:l.take k++l.drop k=l:=bq k l;have h4:=this▸h2;rw[bg]at h4;refine h4.2.2 y hy _ ?_;rw[drop_cons a];exact aX
   intro e;rw[aa,gH,gH]at e;exact h3 e
  refine cD zE (er (show k<l.length by omega)) (bU zE (cZ a) (b8 zE (by show decide ((l.getD k aP).ct<0)=false;exact dQ (by omega)) (b8 zE (by show decide ((l.getD k aP).ct>=(t.bO.bW.length:Int))=false;exact dQ (by omega)) (bU zE (cw (by show 0<=(l.getD k aP).ct/\(l.getD k aP).ct<(t.bO.bW.length:Int);omega)) (b8 zE (by show decide ((l.getD k aP).tm<(dS t (l.getD k aP)).start)=false;exact dQ (by unfold dS;omega)) (b8 zE (by show decide ((l.getD k aP).tm>=(dS t (l.getD k aP)).stop)=false;exact dQ (by unfold dS;omega)) (b8 zE (by show decide ((l.getD k aP).n<1)=false;exact dQ (by omega)) (b8 zE (by show decide ((l.getD k aP).n>(dS t (l.getD k aP)).gn)=false;exact dQ (by omega)) (cj zE (Jp t.dg (l.getD k aP).ct (by omega)) (b8 zE (hu) (cj zE (Jq (eO t.dg (l.getD k aP).ct) (by omega) 85 3 (bT (l.getD k aP).cells) (iH (l.getD k aP).tm) (λx _=>ajk x _)) (b8 zE (hbz) (cH zE ⟨k+1,a⟩ (dp a) ?_)))))))))))));exact cB [] ⟨rfl,rfl,rfl,rfl,c6 a,bP⟩ ⟨bV,⟨_,_,_,rfl,rfl,λq hq=>by show _=eu (yc (l.take (k+1))) _ _ q;rw[gg a];exact SV hq⟩,bP⟩
 have a:l.length=k:=by omega
 subst a;exact b8 zE eF (dt zE rfl zE (cL zE rfl rfl (bY.refl _)))
noncomputable def CIv:Cx:={ E:=A0,inl:=[],ok:=EL }
theorem SX{α:Type}:∀ (a b:List α),a.Nodup->(∀x∈a,x∈b)->a.length<=b.length
 |[],b,_,_=>by simp
 |x::a,b,hnd,hsub=>by
  obtain⟨p,q,rfl⟩:=List.append_of_mem (hsub x aX);have h1:=SX a (p++q) (br.1 hnd).2 (λy hy=>by
   have:=hsub y (a6 _ hy);simp only[bc,bd]at this⊢;rcases this with h|h|h
   .exact .inl h
   .subst h;exact((br.1 hnd).1 hy).elim
   exact .inr h)
  simp only[aV,ba]at h1⊢;omega
def fo(f:Int->Option Int)(z:Int):Int:=(f z).getD 0
def lW(f:Int->Option Int)(K:List Int):List Int:=K.filter λz=>fo f z !=0
def qp(f:Int->Option Int)(K:List Int):List Int:=kR (lW f K)
def gV(f:Int->Option Int)(T:List Int):Nat->List (cU×Int)
 |0=>[]
 |i+1=>gV f T i++if 0<eh (fo f) (T.take (i+1))/\i+1<T.length then[(⟨T.getD i aP,T.getD (i+1) aP⟩,eh (fo f) (T.take (i+1)))]else[]
theorem Jr(f:Int->Option Int)(T:List Int):∀ i,(gV f T i).length<=i
 |0=>IN _
 |i+1=>by
  have:=Jr f T i;rw[gV,aV];split<;>simp<;>omega
theorem ajm{a b:List Int}(h:a.Perm b):kR a=kR b:=by
 have so:∀ l:List Int,(kR l).Pairwise λa b=>decide (a<=b)=true:=λl=>List.pairwise_mergeSort (by intro a b c h1 h2;simp at *;omega) (by intro a b;simp;omega) l;exact List.Perm.eq_of_pairwise (λx y _ _ h1 h2=>by have:=fv h1;have:=fv h2;omega) (so a) (so b) ((uf a).trans (h.trans (uf b).symm))
theorem ajn(f:Int->Option Int)(K:List Int)(hK:K.Nodup)(hf:∀ z,(f z).isSome=true↔z∈K)(hl:K.length<=100000)(ly:∀ i,i<=(qp f K).length->0<=eh (fo f) ((qp f K).take i)/\eh (fo f) ((qp f K).take i)<=1000000000000):cJ ak 87 [.im 216 false 1 (gh f) (kd f)] (.cG [fM ((gV f (qp f K) (qp f K).length).map (·.1)),eD ((gV f (qp f K) (qp f K).length).map (·.2)),.bool true],none):=by
 have hlen:∀ L:List Int,L.Nodup->(∀z∈L,z∈K)->L.length<=K.length:=λL h1 h2=>SX L K h1 h2;refine c8 CIv Tryz.func87 rfl ?_;refine zG zE ?_;refine NS.loop (σ:={ L:List Int // L.Nodup/\ ∀z∈L,z∈K }) (λL=>[(0,.im 216 false 1 (gh f) (kd f)),(5,.own 70),(14,.ptr 14 0)]) (λL=>[(14,.it 216 false 1 (gh f) (kd f) (L.1.map λk=>[k])),(70,.row 3 1 (lW f L.1.reverse).length (cO nC (lW f L.1.reverse)))]) (λL=>K.length-L.1.length) ⟨[],AS,λz hz=>by cases hz⟩ ?_ ?_
 .refine(rj 5 70 3 1 (cO nC []) rfl rfl).trans ?_;exact cB [] ⟨rfl,rfl,rfl,bP⟩ ⟨rfl,df rfl rfl (λq hq=>dP hq (BY q)),bP⟩
 rintro⟨L,qq,Js⟩;have hLl:=hlen L qq Js;refine zG zE (NS.sD (λk hk hkL=>?_) λhall=>?_)
 .have hkK:k∈K:=(hf k).1 hk;have EO:(k::L).Nodup/\ ∀z∈k::L,z∈K:=⟨br.2 ⟨hkL,qq⟩,λz hz=>by
   rcases bd.1 hz with rfl|hz
   .exact hkK
   exact Js z hz⟩
  have ajo:=hlen (k::L) EO.1 EO.2;rw[ba]at ajo;have Jt:lW f (k::L).reverse=lW f L.reverse++if fo f k=0 then[]else[k]:=by
   unfold lW;rw[List.reverse_cons,List.filter_append];by_cases b:fo f k=0<;>simp[b]
  by_cases b:fo f k=0
  .refine b8 zE (by show(fo f k !=0)=false;rw[b];rfl) (cH zE ⟨k::L,EO⟩ (by show K.length-(k::L).length<K.length-L.length;rw[ba];omega) ?_);exact cB [] ⟨rfl,rfl,rfl,bP⟩ ⟨rfl,df rfl (by rw[Jt,bS b,bh]) (λq hq j hj=>by rw[Jt,bS b,bh]),bP⟩
  refine cD zE (by show(fo f k !=0)=true;exact bne_iff_ne.2 b) (bU zE (cw (by have:(lW f L.reverse).length<=L.reverse.length:=bz _ _;rw[bI]at this;show((lW f L.reverse).length+1)*(8+1)<=du;simp only[du];omega)) (cH zE ⟨k::L,EO⟩ (by show K.length-(k::L).length<K.length-L.length;rw[ba];omega) ?_));have e:=Jt;rw[bQ b]at e;refine cB [(70,25)] ⟨rfl,rfl,rfl,bP⟩ ⟨rfl,df rfl (by rw[e,aV];rfl) (λq hq j hj=>?_),bP⟩;rw[e];exact gE (cells:=nC) (c:=1) rfl q (by rw[e]at hq;simpa using hq) j hj
 have hp:(lW f L.reverse).Perm (lW f K):=by
  refine List.Perm.filter _ ?_;refine(List.reverse_perm L).trans ((List.perm_ext_iff_of_nodup qq hK).2 λz=>⟨Js z,λhz=>hall z ?_⟩);exact(hf z).2 hz
 have hN:(lW f L.reverse).length<=100000:=by have:=bz (λz=>fo f z !=0) L.reverse;rw[bI]at this;unfold lW;omega
 refine dt zE rfl zE ?_;have c3:=SY Tryz.SZ (by kernel_rfl) (lW f L.reverse) 3 (by omega);refine zG zE (NS.mut 70 (Eq.refl _) rfl (mq.AX c3 λi hi j hj=>rfl) rfl ?_);rintro ob r ⟨rfl,rfl⟩;obtain⟨T,hT⟩:∃ T,T=qp f K:=⟨_,rfl⟩;have hTe:kR (lW f L.reverse)=T:=by rw[hT];exact ajm hp
 have Ju:(lW f L.reverse).length=T.length:=by rw[<-hTe,A2]
 have hTK:∀ z∈T,z∈K/\gh f [z]=true:=λz hz=>by
  rw[hT]at hz;have h1:=(uf _).mem_iff.1 hz;unfold lW at h1;have h2:=(AI.1 h1).1;exact⟨h2,(hf z).2 h2⟩
 rw[<-hT]at ly⊢;rw[hTe];refine Sat.goN 2 (Eq.refl _) (NS.stop ?_);refine Sat.wk (ED 5 70 rfl rfl) ?_;refine eG zE T.length (λi=>[(0,.im 216 false 1 (gh f) (kd f)),(5,eD T),(8,.own 71),(9,.own 72),(10,.int .i64 (eh (fo f) (T.take i))),(28,eD T),(29,.int .i64 T.length),(30,.int .i64 (i:Nat))]) (λi=>[(71,.row 100 2 ((gV f T i).map (·.1)).length (cO cU.cells ((gV f T i).map (·.1)))),(72,.row 3 1 ((gV f T i).map (·.2)).length (cO nC ((gV f T i).map (·.2))))]) ?_ ?_
 .refine(rj 8 71 100 2 (cO cU.cells []) rfl rfl).trans ((rj 9 72 3 1 (cO nC []) rfl rfl).trans ((AY 5 (x:=eD T) ?_).trans ((AY 28 (x:=eD T) ?_).trans ?_)))
  .exact bY.sl Ju λi hi j hj=>rfl
  .exact bY.sl Ju λi hi j hj=>rfl
  exact cB [] ⟨rfl,rfl,rfl,rfl,rfl,rfl,c9 rfl (by rw[Ju]),rfl,bP⟩ ⟨df rfl rfl (λq hq=>dP hq (BY q)),df rfl rfl (λq hq=>dP hq (BY q)),bP⟩
 rintro⟨i,(hi:i<=T.length)⟩;have sr:=Jr f T i;by_cases a:i<T.length
 .obtain⟨z,hz⟩:∃ z,z=T.getD i aP:=⟨_,rfl⟩;have hzT:z∈T:=by rw[hz,cV a];exact aW _
  have hsn:eh (fo f) (T.take (i+1))=eh (fo f) (T.take i)+fo f z:=by rw[gg a,Jv,<- hz];simp[eh]
  have b1:=ly i (by omega);have b2:=ly (i+1) (by omega);have hw:aj.wrap (eh (fo f) (T.take i)+fo f z)=eh (fo f) (T.take (i+1)):=by rw[<-hsn,dG]
  refine cD zE (er (show i<T.length by omega)) (bU zE (cZ a) (cD zE (by show gh f [T.getD i aP]=true;rw[<-hz];exact(hTK z hzT).2) (b8 zE (by show decide (aj.wrap (eh (fo f) (T.take i)+fo f (T.getD i aP))<0)=false;rw[<-hz,hw];exact dQ (by omega)) ?_)));by_cases c:0<eh (fo f) (T.take (i+1))
  .refine cD zE (by show decide (aj.wrap (eh (fo f) (T.take i)+fo f (T.getD i aP))>0)=true;rw[<-hz,hw];exact cw c) ?_;by_cases e:i+1<T.length
   .have Jw:aj.wrap ((i:Int)+1)=((i+1:Nat):Int):=je a (by omega);have pq:gV f T (i+1)=gV f T i++[(⟨T.getD i aP,T.getD (i+1) aP⟩,eh (fo f) (T.take (i+1)))]:=by rw[gV,bS ⟨c,e⟩]
    refine cD zE (by show decide (aj.wrap ((i:Int)+1)<(T.length:Int))=true;rw[Jw];exact cw (by omega)) (bU zE (by show decide (0<=aj.wrap ((i:Int)+1)/\aj.wrap ((i:Int)+1)<(T.length:Int))=true;rw[Jw];exact cw (by omega)) (bU zE (cw (by show(((gV f T i).map (·.1)).length+1)*(15+1+1)<=du;rw[a7];simp only[du];omega)) (bU zE (cw (by show(((gV f T i).map (·.2)).length+1)*(7+1+1)<=du;rw[a7];simp only[du];omega)) ?_)));have e1:(gV f T (i+1)).map (·.1)=(gV f T i).map (·.1)++[⟨T.getD i aP,T.getD (i+1) aP⟩]:=by rw[pq,bx];rfl
    have e2:(gV f T (i+1)).map (·.2)=(gV f T i).map (·.2)++[eh (fo f) (T.take (i+1))]:=by rw[pq,bx];rfl
    refine cH zE ⟨i+1,a⟩ (dp a) ?_;refine cB [(71,60),(72,64)] ⟨rfl,rfl,rfl,rfl,c9 rfl (by rw[<-hw,hz];rfl),rfl,rfl,c6 a,bP⟩ ⟨df rfl (by rw[e1,aV];rfl) (λq hq j hj=>?_),df rfl (by rw[e2,aV];rfl) (λq hq j hj=>?_),bP⟩
    .rw[e1]at hq⊢;rw[aV]at hq;exact gE (cells:=cU.cells) (c:=2) (by show[Go.Sy.A.int .i64 (T.getD i aP),.int .i64 (T.getD (aj.wrap ((i:Int)+1)).toNat aP)]=_;rw[Jw];rfl) q hq j hj
    rw[e2]at hq⊢;rw[aV]at hq;exact gE (cells:=nC) (c:=1) (by show[Go.Sy.A.int .i64 (aj.wrap (eh (fo f) (T.take i)+fo f (T.getD i aP)))]=_;rw[<-hz,hw];rfl) q hq j hj
   have pq:gV f T (i+1)=gV f T i:=by rw[gV,bQ (λq=>e q.2),bh]
   refine b8 zE (by show decide (aj.wrap ((i:Int)+1)<(T.length:Int))=false;rw[je a (by omega)];exact dQ (by omega)) (cH zE ⟨i+1,a⟩ (dp a) ?_);exact cB [] ⟨rfl,rfl,rfl,rfl,c9 rfl (by rw[<-hw,hz];rfl),rfl,rfl,c6 a,bP⟩ ⟨df rfl (by rw[pq]) (λq hq j hj=>by rw[pq]),df rfl (by rw[pq]) (λq hq j hj=>by rw[pq]),bP⟩
  have pq:gV f T (i+1)=gV f T i:=by rw[gV,bQ (λq=>c q.1),bh]
  refine b8 zE (by show decide (aj.wrap (eh (fo f) (T.take i)+fo f (T.getD i aP))>0)=false;rw[<-hz,hw];exact dQ (by omega)) (cH zE ⟨i+1,a⟩ (dp a) ?_);exact cB [] ⟨rfl,rfl,rfl,rfl,c9 rfl (by rw[<-hw,hz];rfl),rfl,rfl,c6 a,bP⟩ ⟨df rfl (by rw[pq]) (λq hq j hj=>by rw[pq]),df rfl (by rw[pq]) (λq hq j hj=>by rw[pq]),bP⟩
 have a:T.length=i:=by omega
 subst a;exact b8 zE eF (dt zE rfl zE (cL zE rfl rfl (bY.refl _)))
def ke(t:cE)(node:Int)(x:dC):List (Int×Int):=(if(dS t x).fr=node then[(x.tm,-x.n)]else[])++(if(dS t x).to=node then[(iQ t x,x.n)]else[])
def fx(t:cE)(node:Int)(l:List dC):List (Int×Int):=l.flatMap (ke t node)
def lX(us:List (Int×Int))(z:Int):Int:=cT (λp:Int×Int=>if p.1=z then p.2 else 0) us
def eW(us:List (Int×Int))(z:Int):Option Int:=if z∈us.map (·.1)then some (lX us z)else none
theorem ajp(us:List (Int×Int))(a b z:Int):eW (us++[(a,b)]) z=if z=a then some ((eW us a).getD 0+b)else eW us z:=by
 have h0:∀ z,z∉us.map (·.1)->lX us z=0:=λz hz=>ru λp hp=>bQ λe=>hz (bu.2 ⟨p,hp,e⟩);have h1:∀ z,lX (us++[(a,b)]) z=lX us z+if a=z then b else 0:=λz=>by
  unfold lX;rw[nu];show _+((if a=z then b else 0)+0)=_;rw[aS]
 unfold eW;rw[h1,bx];by_cases e:z=a
 .subst e;rw[bS (by simp),bS rfl,bS rfl];by_cases hz:z∈us.map (·.1)
  .rw[bS hz];rfl
  rw[bQ hz,h0 z hz];rfl
 rw[bQ e];by_cases hz:z∈us.map (·.1)
 .rw[bS (by simp[hz]),bS hz,bQ (λq=>e q.symm),aS]
 rw[bQ hz,bQ];simp only[List.map_cons,List.map_nil,bc,aY];rintro(q|q)
 .exact hz q
 exact e q
theorem EP{us:List (Int×Int)}{a b y:Int}{q:List Int}(hq:q.length=1)(hy:y=(eW us a).getD 0+b):eu (gh (eW us)) (kd (eW us)) [([a],some (.int .i64 y))] q=eu (gh (eW (us++[(a,b)]))) (kd (eW (us++[(a,b)]))) [] q:=by
 rw[Jx hq (ug _ q),ug,ajp,hy]
theorem ajq{us:List (Int×Int)}(h:∀ p∈us,-1000<=p.2/\p.2<=1000)(z:Int):-(1000*(us.length:Int))<=lX us z/\lX us z<=1000*(us.length:Int):=by
 induction us with
 |nil=>exact⟨aR _,aR _⟩
 |cons p us ih=>
  have h1:=ih λq hq=>h q (a6 _ hq);have h2:=h p aX;unfold lX at h1⊢;rw[cT,ba];split<;>omega
theorem ajr{us:List (Int×Int)}(h:∀ p∈us,-1000<=p.2/\p.2<=1000)(hl:us.length<=3300)(z:Int):-3300000<=(eW us z).getD 0/\(eW us z).getD 0<=3300000:=by
 have:=ajq h z;unfold eW;split
 .show-3300000<=lX us z/\lX us z<=3300000;omega
 show(-3300000:Int)<=0/\(0:Int)<=3300000;omega
theorem Jy(t:cE)(node:Int)(l:List dC):(fx t node l).length<=2*l.length:=by
 induction l with
 |nil=>exact IN _
 |cons x l ih=>
  have h1:(ke t node x).length<=2:=by unfold ke;split<;>split<;>simp
  have h2:(fx t node (x::l)).length=(ke t node x).length+(fx t node l).length:=by unfold fx;rw[List.flatMap_cons,aV]
  rw[ba];omega
theorem ajs(t:cE)(node:Int){l:List dC}{k:Nat}(hk:k<l.length):fx t node (l.take (k+1))=fx t node (l.take k)++ke t node (l.getD k aP):=by
 unfold fx;rw[gg hk,bB];simp
theorem ajt(t:cE)(node:Int){l:List dC}{k:Nat}(hk:k<l.length):fS t (l.take (k+1)) node=fS t (l.take k) node+kf t node (l.getD k aP):=by
 unfold fS;rw[gg hk,nu];show _+(_+0)=_;rw[aS]
theorem aju{t:cE}{node:Int}{l:List dC}(h:∀ x∈l,1<=x.n/\x.n<=1000):-(2000*(l.length:Int))<=fS t l node/\fS t l node<=2000*(l.length:Int):=by
 induction l with
 |nil=>exact⟨aR _,aR _⟩
 |cons x l ih=>
  have h1:=ih λq hq=>h q (a6 _ hq);have h2:=h x aX;unfold fS at h1⊢;have h3:-2000<=kf t node x/\kf t node x<=2000:=by
   unfold kf
   (repeat' split)<;>omega
  rw[cT,ba];omega
noncomputable def CCh:Cx:={ E:=A0,inl:=[],ok:=EL }
theorem ajv(t:cE)(l:List dC)(node:Int)(ht:fW t=0)(hl:l.length<=1600)(hS:∀ x∈l,(0<=x.ct/\x.ct<(t.bO.bW.length:Int))/\(1<=x.n/\x.n<=1000)/\0<=x.tm/\x.tm<=1099511627776):cJ ak 86 [.agg t.cells,kC l,.int .i64 node] (.cG [.dA 0,.bool (fS t l node==0)],some (.mp 216 false 1 true [] (gh (eW (fx t node l))) (kd (eW (fx t node l))))):=by
 suffices H:cJ ak 86 [.agg t.cells,kC l,.int .i64 node] (.cG [.dA 0,.bool (fS t (l.take l.length) node==0)],some (.mp 216 false 1 true [] (gh (eW (fx t node (l.take l.length)))) (kd (eW (fx t node (l.take l.length)))))) by rw[aZ]at H;exact H
 refine c8 CCh Tryz.func86 rfl ?_;refine eG zE l.length (λk=>[(2,.int .i64 node),(3,.ptr 3 0),(8,.dA 13),(9,.int .i64 (fS t (l.take k) node)),(14,kC l),(15,.int .i64 l.length),(16,.int .i64 (k:Nat))]) (λk=>[(3,.box t.cells),(13,.mp 216 false 1 true [] (gh (eW (fx t node (l.take k)))) (kd (eW (fx t node (l.take k)))))]) ?_ ?_
 .exact cB [] ⟨rfl,rfl,rfl,rfl,rfl,rfl,rfl,bP⟩ ⟨bV,⟨_,_,_,rfl,rfl,λq hq=>by rw[ug];rfl⟩,bP⟩
 rintro⟨k,(hk:k<=l.length)⟩;by_cases a:k<l.length
 .obtain⟨x,hx⟩:∃ x,x=l.getD k aP:=⟨_,rfl⟩;obtain⟨⟨s1,s2⟩,s3,s4⟩:=hS x (by rw[hx,cV a];exact aW _);refine cD zE (er (show k<l.length by omega)) (bU zE (cZ a) (bU zE (cw ⟨by show 0<=(l.getD k aP).ct;rw[<-hx];omega,by show(l.getD k aP).ct<(t.bO.bW.length:Int);rw[<-hx];omega⟩) ?_));have jg:=kS ht;obtain⟨c,hc⟩:∃ c,c=t.bO.bW.getD x.ct.toNat aP:=⟨_,rfl⟩;have gW:=jg.p.bW c (by rw[hc,cV (by omega)];exact aW _);have hne:=gW.ne;have Ey:=gW.c7;have vP:dS t x=c:=hc.symm;have hU:=ajs t node a;have hT:=ajt t node a;rw[<-hx]at hU hT;obtain⟨U,ER⟩:∃ U,U=fx t node (l.take k):=⟨_,rfl⟩;have hUb:∀ p∈U,-1000<=p.2/\p.2<=1000:=λp hp=>by
   rw[ER]at hp;obtain⟨y,hy,hp⟩:=bn.1 hp;have:=(hS y (bH hy)).2.1;unfold ke at hp;rcases bc.1 hp with hp|hp<;>split at hp<;>first|(cases hp;done)|(rw[aY.1 hp];show-1000<=_/\_<=_;first|omega|(show-1000<= -y.n/\ -y.n<=1000;omega))
  have hUl:U.length<=3300:=by
   have:=Jy t node (l.take k);rw[bL]at this;rw[ER];omega
  have hval:=λz=>ajr hUb hUl z;have htb:=aju (t:=t) (node:=node) (l:=l.take k) (λy hy=>(hS y (bH hy)).2.1);rw[bL]at htb;rw[<-ER]at hU⊢;have hE:aj.wrap (aj.wrap (x.tm+1)+c.c7)=iQ t x:=by
   unfold iQ;rw[vP,wrap_i64 (n:=x.tm+1) (by omega) (by omega),dG]
  by_cases b1:c.fr=node
  .have b2:c.to≠node:=λq=>hne (b1.trans q.symm);have vQ:ke t node x=[(x.tm,-x.n)]:=by unfold ke;rw[vP,bS b1,bQ b2];rfl
   have jK:kf t node x= -x.n:=by unfold kf;rw[vP,bS b1,bQ b2,aS]
   refine cD zE (by show((t.bO.bW.getD (l.getD k aP).ct.toNat aP).fr==node)=true;rw[<-hx,<- hc];exact beq_iff_eq.2 b1) ?_;rcases ab (gh (eW U) [x.tm])with m|m
   .refine cD zE (by show gh (eW U) [(l.getD k aP).tm]=true;rw[<-hx];exact m) (b8 zE (by show((t.bO.bW.getD (l.getD k aP).ct.toNat aP).to==node)=false;rw[<-hx,<- hc];exact jd b2) (cH zE ⟨k+1,a⟩ (dp a) ?_));exact cB [] ⟨rfl,rfl,rfl,c9 rfl (by show aj.wrap (fS t (l.take k) node-(l.getD k aP).n)=fS t (l.take (k+1)) node;rw[hT,jK,<- hx,dG];omega),rfl,rfl,c6 a,bP⟩ ⟨bV,⟨_,_,_,rfl,rfl,λq hq=>(show eu (gh (eW U)) (kd (eW U)) [([(l.getD k aP).tm],some (.int .i64 (aj.wrap (((eW U) (l.getD k aP).tm).getD 0-(l.getD k aP).n))))] q=_ from by rw[<-hx,hU,vQ];exact EP hq (by have:=hval x.tm;rw[dG];omega))⟩,bP⟩
   have hn:(eW U x.tm).getD 0=0:=by have m:(eW U x.tm).isSome=false:=m;cases h:eW U x.tm with|none=>rfl|some y=>rw[h]at m;cases m
   refine b8 zE (by show gh (eW U) [(l.getD k aP).tm]=false;rw[<-hx];exact m) (b8 zE (by show((t.bO.bW.getD (l.getD k aP).ct.toNat aP).to==node)=false;rw[<-hx,<- hc];exact jd b2) (cH zE ⟨k+1,a⟩ (dp a) ?_));exact cB [] ⟨rfl,rfl,rfl,c9 rfl (by show aj.wrap (fS t (l.take k) node-(l.getD k aP).n)=fS t (l.take (k+1)) node;rw[hT,jK,<- hx,dG];omega),rfl,rfl,c6 a,bP⟩ ⟨bV,⟨_,_,_,rfl,rfl,λq hq=>(show eu (gh (eW U)) (kd (eW U)) [([(l.getD k aP).tm],some (.int .i64 (aj.wrap (0-(l.getD k aP).n))))] q=_ from by rw[<-hx,hU,vQ];exact EP hq (by rw[hn,dG];omega))⟩,bP⟩
  by_cases b2:c.to=node
  .have vQ:ke t node x=[(iQ t x,x.n)]:=by unfold ke;rw[vP,bQ b1,bS b2];rfl
   have jK:kf t node x=x.n:=by unfold kf;rw[vP,bQ b1,bS b2,Int.zero_add]
   refine b8 zE (by show((t.bO.bW.getD (l.getD k aP).ct.toNat aP).fr==node)=false;rw[<-hx,<- hc];exact jd b1) (cD zE (by show((t.bO.bW.getD (l.getD k aP).ct.toNat aP).to==node)=true;rw[<-hx,<- hc];exact beq_iff_eq.2 b2) ?_);rcases ab (gh (eW U) [iQ t x])with m|m
   .refine cD zE (by show gh (eW U) [aj.wrap (aj.wrap ((l.getD k aP).tm+1)+(t.bO.bW.getD (l.getD k aP).ct.toNat aP).c7)]=true;rw[<-hx,<- hc,hE];exact m) (cH zE ⟨k+1,a⟩ (dp a) ?_);exact cB [] ⟨rfl,rfl,rfl,c9 rfl (by show aj.wrap (fS t (l.take k) node+(l.getD k aP).n)=fS t (l.take (k+1)) node;rw[hT,jK,<- hx,dG]),rfl,rfl,c6 a,bP⟩ ⟨bV,⟨_,_,_,rfl,rfl,λq hq=>(show eu (gh (eW U)) (kd (eW U)) [([aj.wrap (aj.wrap ((l.getD k aP).tm+1)+(t.bO.bW.getD (l.getD k aP).ct.toNat aP).c7)],some (.int .i64 (aj.wrap (((eW U) (aj.wrap (aj.wrap ((l.getD k aP).tm+1)+(t.bO.bW.getD (l.getD k aP).ct.toNat aP).c7))).getD 0+(l.getD k aP).n))))] q=_ from by rw[<-hx,<- hc,hE,hU,vQ];exact EP hq (by have:=hval (iQ t x);rw[dG]))⟩,bP⟩
   have hn:(eW U (iQ t x)).getD 0=0:=by have m:(eW U (iQ t x)).isSome=false:=m;cases h:eW U (iQ t x)with|none=>rfl|some y=>rw[h]at m;cases m
   refine b8 zE (by show gh (eW U) [aj.wrap (aj.wrap ((l.getD k aP).tm+1)+(t.bO.bW.getD (l.getD k aP).ct.toNat aP).c7)]=false;rw[<-hx,<- hc,hE];exact m) (cH zE ⟨k+1,a⟩ (dp a) ?_);exact cB [] ⟨rfl,rfl,rfl,c9 rfl (by show aj.wrap (fS t (l.take k) node+(l.getD k aP).n)=fS t (l.take (k+1)) node;rw[hT,jK,<- hx,dG]),rfl,rfl,c6 a,bP⟩ ⟨bV,⟨_,_,_,rfl,rfl,λq hq=>(show eu (gh (eW U)) (kd (eW U)) [([aj.wrap (aj.wrap ((l.getD k aP).tm+1)+(t.bO.bW.getD (l.getD k aP).ct.toNat aP).c7)],some (.int .i64 (aj.wrap (0+(l.getD k aP).n))))] q=_ from by rw[<-hx,<- hc,hE,hU,vQ];exact EP hq (by rw[hn,dG]))⟩,bP⟩
  have vQ:ke t node x=[]:=by unfold ke;rw[vP,bQ b1,bQ b2];rfl
  have jK:kf t node x=0:=by unfold kf;rw[vP,bQ b1,bQ b2];rfl
  refine b8 zE (by show((t.bO.bW.getD (l.getD k aP).ct.toNat aP).fr==node)=false;rw[<-hx,<- hc];exact jd b1) (b8 zE (by show((t.bO.bW.getD (l.getD k aP).ct.toNat aP).to==node)=false;rw[<-hx,<- hc];exact jd b2) (cH zE ⟨k+1,a⟩ (dp a) ?_));exact cB [] ⟨rfl,rfl,rfl,c9 rfl (by show fS t (l.take k) node=fS t (l.take (k+1)) node;rw[hT,jK,aS]),rfl,rfl,c6 a,bP⟩ ⟨bV,⟨_,_,_,rfl,rfl,λq hq=>by rw[hU,vQ,bh,ER]⟩,bP⟩
 have a:l.length=k:=by omega
 subst a;refine b8 zE eF (dt zE rfl zE ?_);exact zG zE (NS.OG 13 rfl rfl (bY.refl _) λq a h=>by
  rw[ug]at h;cases hc:eW (fx t node (l.take l.length)) (q.getD 0 0)with
  |none=>rw[hc]at h;cases h
  |some y=>rw[hc]at h;cases h;rfl)
def sE:List Int->List Int
 |[]=>[]
 |x::l=>if x∈l then sE l else x::sE l
theorem yd{z:Int}:∀ {l:List Int},z∈sE l↔z∈l
 |[]=>Iff.rfl
 |x::l=>by
  unfold sE;split
  .rename_i h;rw[yd,bd];exact⟨.inr,λq=>q.elim (λe=>e▸h) id⟩
  rw[bd,bd,yd]
theorem A3:∀ l:List Int,(sE l).Nodup
 |[]=>AS
 |x::l=>by
  unfold sE;split
  .exact A3 l
  rename_i h;exact br.2 ⟨λq=>h (yd.1 q),A3 l⟩
theorem Jz:∀ l:List Int,(sE l).length<=l.length
 |[]=>IN _
 |x::l=>by
  have:=Jz l;unfold sE;split<;>simp only[ba]<;>omega
def iY(node:Int)(x:cU):Nat->Int->List di
 |0,_=>[]
 |f+1,n=>if 0<n then⟨node,x.lo,x.hi,if 65536<n then 65536 else n,0⟩::iY node x f (n-65536)else[]
theorem S0(node:Int)(x:cU):∀ (f:Nat) {n:Int},n<=0->iY node x f n=[]
 |0,_,_=>rfl
 |f+1,n,h=>by rw[iY,bQ (by omega)]
theorem ES{f:Int->Option Int}{T:List Int}{p:cU×Int}:∀ {i:Nat},p∈gV f T i-> ∃j,j+1<T.length/\p.2=eh (fo f) (T.take (j+1))/\0<p.2/\p.1=⟨T.getD j aP,T.getD (j+1) aP⟩
 |0,h=>by cases h
 |i+1,h=>by
  rw[gV]at h;rcases bc.1 h with h|h
  .exact ES h
  split at h
  .rename_i hc;rw[aY.1 h];exact⟨i,hc.2,rfl,hc.1,rfl⟩
  cases h
def mT(node:Int)(I:List (cU×Int)):List di:=I.flatMap λp=>iY node p.1 100 p.2
section
variable (t:cE) (l:List dC)
def vR(node:Int):List Int:=sE ((fx t node l).map (·.1))
def iw(node:Int):List Int:=qp (eW (fx t node l)) (vR t l node)
def A4(node:Int):List (cU×Int):=gV (eW (fx t node l)) (iw t l node) (iw t l node).length
def iR(node:Int):List di:=if fS t l node=0 then mT node (A4 t l node)else[]
def iS:List di:=(a8 t.bO.qs.length).flatMap λk=>iR t l (k:Nat)
end
def qt(T:Nat)(P out:List di)(many:Bool):Prop:=(many=false/\out=P/\out.length+T<=512)\/(many=true/\512<out.length+T/\out.length<=600/\512<P.length+T)
theorem qt.more{T:Nat}{P Q out:List di}{many:Bool}(h:qt T P out many)(hq:∃ R,Q=P++R)(hm:many=true):qt T Q out many:=by
 obtain⟨R,rfl⟩:=hq;rcases h with h|⟨_,h1,h2,h3⟩
 .rw[h.1]at hm;cases hm
 exact .inr ⟨hm,h1,h2,by rw[aV];omega⟩
def JA(T:Nat)(node:Int)(x:cU)(Q:List di)(f:Nat)(n:Int)(out:List di)(many:Bool):Prop:=(many=false/\out++iY node x f n=Q/\out.length+T<=512/\n<=65536*(f:Int)/\n<=6553600)\/(many=true/\512<out.length+T/\out.length<=600/\512<Q.length+T)
def JB(l:List di):Ob:=.row 130 5 l.length (cO di.cells l)
def A5(T:Nat)(l:List di):Go.Sy.A:=if l.length+T<=512 then .cG [jz l,.int .i64 0]else .cG [.bN,.int .i64 4]
noncomputable def CHo:Cx:={ E:=A0,inl:=[],ok:=EL }
theorem ajw(t:cE)(l:List dC)(ht:fW t=0)(hl:l.length<=1600)(hS:∀ x∈l,(0<=x.ct/\x.ct<(t.bO.bW.length:Int))/\(1<=x.n/\x.n<=1000)/\0<=x.tm/\x.tm<=1099511627776)
  (ly:∀ node:Nat,node<t.bO.qs.length->fS t l node=0-> ∀i,i<=(iw t l node).length->0<=eh (fo (eW (fx t node l))) ((iw t l node).take i)/\eh (fo (eW (fx t node l))) ((iw t l node).take i)<=6000000):cJ ak 40 [.agg t.cells,kC l] (A5 t.dw.length (iS t l),none):=by
 have jg:=kS ht;have hN:=jg.p.n2;have hT:t.dw.length<=512:=jg.h.len;refine c8 CHo Tryz.func40 rfl ?_;refine zG zE ?_;refine NS.loop (σ:={ x:Nat×List di×Bool // x.1<=t.bO.qs.length/\qt t.dw.length ((a8 x.1).flatMap λk=>iR t l (k:Nat)) x.2.1 x.2.2 }) (λx=>[(1,kC l),(2,.ptr 2 0),(6,.own 100),(7,.bool x.1.2.2),(20,.int .i64 t.bO.qs.length),(21,.int .i64 (x.1.1:Nat))]) (λx=>[(2,.box t.cells),(100,JB x.1.2.1)]) (λx=>t.bO.qs.length-x.1.1) ⟨(0,[],false),IS _,.inl ⟨rfl,rfl,by show 0+t.dw.length<=512;omega⟩⟩ ?_ ?_
 .refine(rj 6 100 130 5 (cO di.cells []) rfl rfl).trans ?_;exact cB [] ⟨rfl,rfl,rfl,.inr rfl,rfl,rfl,bP⟩ ⟨bV,df rfl rfl (λq hq=>dP hq (BY q)),bP⟩
 rintro⟨⟨k,out,many⟩,hk,I⟩;have hk:k<=t.bO.qs.length:=hk;have I:qt t.dw.length ((a8 k).flatMap λk=>iR t l (k:Nat)) out many:=I;by_cases a:k<t.bO.qs.length
 .have hsn:((a8 (k+1)).flatMap λk=>iR t l (k:Nat))=((a8 k).flatMap λk=>iR t l (k:Nat))++iR t l (k:Nat):=by rw[bM,bB];simp
  refine cD zE (er (show k<t.bO.qs.length by omega)) (cj zE (ajv t l (k:Nat) ht hl hS) ?_);by_cases ev:fS t l (k:Nat)=0
  .have h1:iR t l (k:Nat)=mT (k:Nat) (A4 t l (k:Nat)):=by unfold iR;rw[bS ev]
   have cI:=ajn (eW (fx t (k:Nat) l)) (vR t l (k:Nat)) (A3 _) (λz=>by
    unfold vR eW;rw[yd];split<;>simp_all) (by have h1:=Jz ((fx t (k:Nat) l).map (·.1));have h2:=Jy t (k:Nat) l;rw[a7]at h1;unfold vR;omega) (λi hi=>by have:=ly k a ev i hi;exact⟨this.1,by have:=this.2;unfold iw at this;omega⟩)
   refine b8 zE (by show(!(fS t l (k:Nat)==0))=false;rw[ev];rfl) ?_;refine Sat.wk (ajx 9 28 rfl rfl) ?_;obtain⟨Iv,ET⟩:∃ Iv,Iv=A4 t l (k:Nat):=⟨_,rfl⟩;have cI:cJ ak 87 [.im 216 false 1 (gh (eW (fx t (k:Nat) l))) (kd (eW (fx t (k:Nat) l)))] (.cG [fM (Iv.map (·.1)),eD (Iv.map (·.2)),.bool true],none):=by rw[ET];exact cI
   have hIb:∀ p∈Iv,0<p.2/\p.2<=6000000:=λp hp=>by
    rw[ET]at hp;obtain⟨j,hj,e1,e2,_⟩:=ES hp;have:=ly k a ev (j+1) (by omega);unfold iw at this;exact⟨e2,by rw[e1];exact this.2⟩
   have hIl:Iv.length<=100000:=by
    rw[ET];have h1:=Jr (eW (fx t (k:Nat) l)) (iw t l (k:Nat)) (iw t l (k:Nat)).length;have h2:(iw t l (k:Nat)).length<=(vR t l (k:Nat)).length:=by
     unfold iw qp lW;rw[A2];exact bz _ _
    have h3:=Jz ((fx t (k:Nat) l).map (·.1));have h4:=Jy t (k:Nat) l;rw[a7]at h3;unfold A4;unfold vR at h2;omega
   rw[<-ET]at h1;refine cj zE (cI) (b8 zE (by rfl) ?_);refine zG zE ?_;refine NS.loop (σ:={ x:Nat×List di×Bool // x.1<=Iv.length/\qt t.dw.length (((a8 k).flatMap λk=>iR t l (k:Nat))++mT (k:Nat) (Iv.take x.1)) x.2.1 x.2.2 }) (λx=>[(1,kC l),(2,.ptr 2 0),(6,.own 100),(7,.bool x.1.2.2),(8,.int .i64 (k:Nat)),(12,eD (Iv.map (·.2))),(20,.int .i64 t.bO.qs.length),(21,.int .i64 (k:Nat)),(41,fM (Iv.map (·.1))),(42,.int .i64 (Iv.map (·.1)).length),(43,.int .i64 (x.1.1:Nat))]) (λx=>[(2,.box t.cells),(100,JB x.1.2.1)]) (λx=>Iv.length-x.1.1) ⟨(0,out,many),IS _,by show qt _ (_++mT (k:Nat) (Iv.take 0)) out many;rw[bA,show mT (k:Nat) []=[]from rfl,bh];exact I⟩ ?_ ?_
   .exact cB [] ⟨rfl,rfl,rfl,.inl rfl,rfl,rfl,rfl,rfl,rfl,rfl,rfl,bP⟩ ⟨bV,ee,bP⟩
   rintro⟨⟨i,out,many⟩,hi,J⟩;have hi:i<=Iv.length:=hi;have J:qt t.dw.length (((a8 k).flatMap λk=>iR t l (k:Nat))++mT (k:Nat) (Iv.take i)) out many:=J;by_cases b:i<Iv.length
   .obtain⟨p,hp⟩:∃ p,p=Iv.getD i aP:=⟨_,rfl⟩;obtain⟨p1,p2⟩:=hIb p (by rw[hp,cV b];exact aW _);have S3:i<(Iv.map (·.1)).length:=by rw[a7];exact b
    have S4:i<(Iv.map (·.2)).length:=by rw[a7];exact b
    have g1:(Iv.map (·.1)).getD i aP=p.1:=by rw[hp,cV S3,cV b,bE]
    have g2:(Iv.map (·.2)).getD i aP=p.2:=by rw[hp,cV S4,cV b,bE]
    refine cD zE (er (show i<(Iv.map (·.1)).length by omega)) (bU zE (cZ S3) (bU zE (cZ S4) ?_));have S5:(((a8 k).flatMap λk=>iR t l (k:Nat))++mT (k:Nat) (Iv.take (i+1)))=(((a8 k).flatMap λk=>iR t l (k:Nat))++mT (k:Nat) (Iv.take i))++iY (k:Nat) p.1 100 p.2:=by
     unfold mT;rw[gg b,<- hp,bB,<- bK];simp
    refine zG zE ?_;refine NS.loop (σ:={ x:Nat×Int×List di×Bool // JA t.dw.length (k:Nat) p.1 (((a8 k).flatMap λk=>iR t l (k:Nat))++mT (k:Nat) (Iv.take (i+1))) x.1 x.2.1 x.2.2.1 x.2.2.2 }) (λx=>[(1,kC l),(2,.ptr 2 0),(6,.own 100),(7,.bool x.1.2.2.2),(8,.int .i64 (k:Nat)),(12,eD (Iv.map (·.2))),(15,.ptr 15 0),(16,.int .i64 x.1.2.1),(20,.int .i64 t.bO.qs.length),(21,.int .i64 (k:Nat)),(41,fM (Iv.map (·.1))),(42,.int .i64 (Iv.map (·.1)).length),(43,.int .i64 (i:Nat))]) (λx=>[(2,.box t.cells),(15,.box p.1.cells),(100,JB x.1.2.2.1)]) (λx=>x.1.1) ⟨(100,p.2,out,many),by
     rcases J with ⟨j1,j2,j3⟩|⟨j1,j2,j3,j4⟩
     .exact .inl ⟨j1,by show out++iY (k:Nat) p.1 100 p.2=_;rw[S5,j2],j3,by show p.2<=65536*((100:Nat):Int)/\p.2<=6553600;omega⟩
     exact .inr ⟨j1,j2,j3,by rw[S5,aV];omega⟩⟩ ?_ ?_
    .exact cB [] ⟨rfl,rfl,rfl,.inl rfl,rfl,rfl,rfl,c9 rfl (show(Iv.map (·.2)).getD i aP=p.2 from g2),rfl,rfl,rfl,rfl,rfl,bP⟩ ⟨bV,⟨_,rfl,_,_,rfl,c9 rfl (fU cU.lo g1),_,_,rfl,c9 rfl (fU cU.hi g1),rfl⟩,ee,bP⟩
    rintro⟨⟨f,n,out,many⟩,H⟩;have H:JA t.dw.length (k:Nat) p.1 (((a8 k).flatMap λk=>iR t l (k:Nat))++mT (k:Nat) (Iv.take (i+1))) f n out many:=H;by_cases c:0<n
    .refine cD zE (by show decide (n>0)=true;exact cw c) ?_;rcases H with ⟨rfl,H1,H2,H3⟩|⟨rfl,H2⟩
     .obtain⟨f,rfl⟩:∃ f',f=f'+1:=⟨f-1,by omega⟩;rw[iY,bS c]at H1;refine cD zE (by rfl) (bU zE (cw (by show(out.length+1)*(39+1+1)<=du;simp only[du];omega)) ?_);have hb:JA t.dw.length (k:Nat) p.1 (((a8 k).flatMap λk=>iR t l (k:Nat))++mT (k:Nat) (Iv.take (i+1))) f (n-65536) (out++[⟨(k:Nat),p.1.lo,p.1.hi,if 65536<n then 65536 else n,0⟩]) (decide (512<out.length+1+t.dw.length)):=by
       by_cases e:512<out.length+1+t.dw.length
       .refine .inr ⟨cw e,by rw[aV];exact e,by rw[aV,bG];omega,?_⟩;rw[<-H1,aV,ba];omega
       exact .inl ⟨dQ e,by rw[bK];exact H1,by rw[aV,bG];omega,by omega⟩
      refine cH zE ⟨(f,n-65536,out++[⟨(k:Nat),p.1.lo,p.1.hi,if 65536<n then 65536 else n,0⟩],decide (512<out.length+1+t.dw.length)),hb⟩ (by show f<f+1;omega) ?_;exact cB [(100,70)] ⟨rfl,rfl,rfl,.inl (fU Go.Sy.A.bool (by show decide (aj.wrap ((t.dw.length:Int)+((out.length+1:Nat):Int))>512)=decide (512<out.length+1+t.dw.length);rw[dG];exact decide_eq_decide.2 (by omega))),rfl,rfl,rfl,c9 rfl (wrap_i64 (n:=n-65536) (by omega) (by omega)),rfl,rfl,rfl,rfl,rfl,bP⟩ ⟨bV,bV,df rfl (by show out.length+1=(out++[_]).length;rw[aV];rfl) (λq hq j hj=>by show(if q<out.length then cO di.cells out q j else bT [Go.Sy.A.int .i64 (k:Nat),.int .i64 p.1.lo,.int .i64 p.1.hi,.int .i64 (if 65536<n then 65536 else n),.int .i64 0] ((q-out.length)*5+j))=_;exact gE (cells:=di.cells) (c:=5) (l:=out) (x:=⟨(k:Nat),p.1.lo,p.1.hi,if 65536<n then 65536 else n,0⟩) rfl q (by rw[aV]at hq;exact hq) j hj),bP⟩
     refine b8 zE (by rfl) (dt zE rfl zE (cH zE ⟨(i+1,out,true),b,.inr ⟨rfl,H2⟩⟩ (by show Iv.length-(i+1)<Iv.length-i;omega) ?_));exact cB [] ⟨rfl,rfl,rfl,.inl rfl,rfl,rfl,rfl,rfl,rfl,rfl,c6 b,bP⟩ ⟨bV,ee,bP⟩
    refine b8 zE (by show decide (n>0)=false;exact dQ c) ?_;have J2:qt t.dw.length (((a8 k).flatMap λk=>iR t l (k:Nat))++mT (k:Nat) (Iv.take (i+1))) out many:=by
     rcases H with ⟨h1,h2,h3,_⟩|H
     .rw[S0 _ _ _ (Int.not_lt.1 c),bh]at h2;exact .inl ⟨h1,h2,h3⟩
     exact .inr H
    refine dt zE rfl zE (cH zE ⟨(i+1,out,many),b,J2⟩ (by show Iv.length-(i+1)<Iv.length-i;omega) ?_);exact cB [] ⟨rfl,rfl,rfl,.inl rfl,rfl,rfl,rfl,rfl,rfl,rfl,c6 b,bP⟩ ⟨bV,ee,bP⟩
   have b:Iv.length=i:=by omega
   subst b;refine b8 zE (by show decide (((Iv.length:Nat):Int)<((Iv.map (·.1)).length:Int))=false;rw[a7];exact dQ (Int.lt_irrefl _)) (dt zE rfl zE (cH zE ⟨(k+1,out,many),a,by show qt _ ((a8 (k+1)).flatMap λk=>iR t l (k:Nat)) out many;rw[hsn,h1];rw[aZ]at J;exact J⟩ (by show t.bO.qs.length-(k+1)<t.bO.qs.length-k;omega) ?_));exact cB [] ⟨rfl,rfl,rfl,.inl rfl,rfl,c6 a,bP⟩ ⟨bV,ee,bP⟩
  have h1:iR t l (k:Nat)=[]:=by unfold iR;rw[bQ ev]
  refine cD zE (by show(!(fS t l (k:Nat)==0))=true;rw[jd ev];rfl) (cH zE ⟨(k+1,out,many),a,by show qt _ ((a8 (k+1)).flatMap λk=>iR t l (k:Nat)) out many;rw[hsn,h1,bh];exact I⟩ (by show t.bO.qs.length-(k+1)<t.bO.qs.length-k;omega) ?_);exact cB [] ⟨rfl,rfl,rfl,.inl rfl,rfl,c6 a,bP⟩ ⟨bV,ee,bP⟩
 have a:t.bO.qs.length=k:=by omega
 subst a;refine b8 zE eF (dt zE rfl zE ?_);rcases I with ⟨rfl,rfl,h3⟩|⟨rfl,h2,_,h3⟩
 .refine b8 zE (rfl) ?_;exact cL zE rfl rfl (by rw[show A5 t.dw.length (iS t l)= .cG [jz (iS t l),.int .i64 0]from bS h3];exact bY.refl _)
 refine cD zE (rfl) ?_;exact cL zE rfl rfl (by rw[show A5 t.dw.length (iS t l)= .cG [.bN,.int .i64 4]from bQ (λq=>by unfold iS at q;omega)];exact bY.refl _)
def pr(t:cE)(l:List dC):cE:=⟨t.bO,ka kQ (t.dg++iG l),ka kz (t.dw++iS t l)⟩
def EU:List Go.Sy.A:=[.bN,.bN,.bN,.bN]
def vT(t:cE)(l:List dC):Prop:=(iS t l).length+t.dw.length<=512/\t.dg.length+(iG l).length<=512
instance (t:cE) (l:List dC):Decidable (vT t l):=by unfold vT;exact inferInstance
def uh(t:cE)(l:List dC):Go.Sy.A:=if vT t l then .cG [.agg (pr t l).cells,.int .i64 0]else .cG [.agg EU,.int .i64 4]
noncomputable def S6:Env:={ P:=ak,lJ:=lK [],mu:=[44,46],lL:=[37,42] }
theorem ajy:ib S6:=qf
noncomputable def CRs:Cx:={ E:=S6,inl:=[],ok:=ajy }
theorem S7{t:cE}(h:fW t=0):jB t.bO=0:=by
 unfold fW at h;split at h
 .rename_i h1;rw[h]at h1;simp at h1
 rename_i h1;simpa using h1
theorem ajz(l:List dC):(iG l).length<=l.length:=by
 unfold iG;have h:(ka lT (jx l)).length=l.length:=by rw[(rq lT (jx l)).length_eq];unfold jx;rw[a7]
 have:=Jl (ka lT (jx l)) (ka lT (jx l)).length (IN _);rw[aZ]at this;omega
theorem ajA(t:cE)(d:cA)(l:List dC)(ht:fW t=0)(hd:0<=d.ready)(hl:l.length<=1600)(h1:∀ x∈l,jA t d x)(h2:l.Pairwise lV)
  (hS:∀ x∈l,(0<=x.ct/\x.ct<(t.bO.bW.length:Int))/\(1<=x.n/\x.n<=1000)/\0<=x.tm/\x.tm<=1099511627776)
  (ly:∀ node:Nat,node<t.bO.qs.length->fS t l node=0-> ∀i,i<=(iw t l node).length->0<=eh (fo (eW (fx t node l))) ((iw t l node).take i)/\eh (fo (eW (fx t node l))) ((iw t l node).take i)<=6000000)
  (hB:∀ a b,a∈t.dg++iG l->b∈t.dg++iG l->a.ct=b.ct->a.fr=b.fr->a=b)
  (hH:(iS t l).length+t.dw.length<=512->ye t.bO (pr t l).dw):cJ ak 15 [.agg t.cells,kC l] (uh t l,none):=by
 have ok:=kS ht;have okB:=ok.b.len;have okH:=ok.h.len;have hbn:=ajz l;have hp:jB t.bO=0:=S7 ht;refine c8 CRs Tryz.func15 rfl ?_;refine cj zE (EW t ht) (b8 zE (rfl) (cj zE (ajl t d l ok hl h1 h2) (b8 zE (rfl) (cj zE (ajw t l ht hl hS ly) ?_))));by_cases a:(iS t l).length+t.dw.length<=512
 .rw[show A5 t.dw.length (iS t l)= .cG [jz (iS t l),.int .i64 0]from bS a];refine b8 zE (rfl) (cN zE ?_);refine cj zE (ai6 l hl λx hx=>(hS x hx).2.2) (cj zE ((ajd [t.dg,iG l] (by simp) (by simp;omega)).le (db.cons (bY.sl rfl λi hi j hj=>by match i,hi,j,hj with|0,_,0,_=>rfl|1,_,0,_=>rfl) db.nil)) (cj zE ((ajg [t.dw,iS t l] (by simp) (by simp;omega)).le (db.cons (bY.sl rfl λi hi j hj=>by match i,hi,j,hj with|0,_,0,_=>rfl|1,_,0,_=>rfl) db.nil)) ?_));have e1:[t.dg,iG l].flatten=t.dg++iG l:=by simp
  have e2:[t.dw,iS t l].flatten=t.dw++iS t l:=by simp
  rw[e1,e2];by_cases b:t.dg.length+(iG l).length<=512
  .refine b8 zE (by show decide (((t.dg++iG l).length:Int)>512)=false;rw[aV];exact dQ (by omega)) ?_;have c3:=ai2 (t.dg++iG l) (by rw[aV];omega);refine zG zE (NS.mut 38 (Eq.refl _) rfl (mq.AX c3 λi hi j hj=>rfl) rfl ?_);rintro ob r ⟨⟨zs,hp1,hs1,rfl⟩,rfl⟩;obtain rfl:=Jj Jf hp1 hs1 λx y hx hy h1 h2=>by
    rw[AU,gU]at h1 h2;exact hB x y hx hy (by omega) (by omega)
   have c4:=ai3 (t.dw++iS t l) (by rw[aV];omega);refine zG zE (NS.mut 43 (Eq.refl _) rfl (mq.AX c4 λi hi j hj=>rfl) rfl ?_);rintro ob r ⟨⟨zs,hp2,jh,rfl⟩,rfl⟩;obtain rfl:=Jj Jg hp2 jh λx y _ _ h1 h2=>by
    rw[AV,gU]at h1 h2;cases x;cases y;simp only[di.mk.injEq]at*;omega
   have l1:(ka kQ (t.dg++iG l)).length=(t.dg++iG l).length:=(rq _ _).length_eq;have l2:(ka kz (t.dw++iS t l)).length=(t.dw++iS t l).length:=(rq _ _).length_eq;refine cj zE ((S8 t.bO (pr t l).dw hp (hH a)).le (db.cons (bY.refl _) (db.cons (bY.sl l2.symm λi hi j hj=>rfl) db.nil))) (b8 zE (rfl) ?_);exact cL zE rfl rfl (by rw[show uh t l= .cG [.agg (pr t l).cells,.int .i64 0]from bS ⟨a,b⟩];exact bY.cG (db.cons (bY.agg (db.cons (bY.refl _) (db.cons (bY.refl _) (db.cons (bY.sl l1.symm λi hi j hj=>rfl) (db.cons (bY.sl l2.symm λi hi j hj=>rfl) db.nil))))) (db.cons (bY.refl _) db.nil)))
  refine cD zE (by show decide (((t.dg++iG l).length:Int)>512)=true;rw[aV];exact cw (by omega)) ?_;exact cL zE rfl rfl (by rw[show uh t l= .cG [.agg EU,.int .i64 4]from bQ λh=>b h.2];exact bY.refl _)
 rw[show A5 t.dw.length (iS t l)= .cG [.bN,.int .i64 4]from bQ a];refine cD zE (rfl) ?_;exact cL zE rfl rfl (by rw[show uh t l= .cG [.agg EU,.int .i64 4]from bQ λh=>a h.1];exact bY.refl _)
def ry(a b:dE):Prop:=a.ct=b.ct->a.to<=b.fr\/b.to<=a.fr
theorem ry.symm{a b:dE}(h:ry a b):ry b a:=λe=>(h e.symm).symm
structure S9(zs:List ig)(o:List dE):Prop where
 all:∀ b∈o,b.tk=0/\b.fr<b.to/\ ∀u,b.fr<=u->u<b.to->⟨b.ct,u⟩∈zs
 dJ:o.Pairwise ry
theorem Ta(zs:List ig)(hs:zs.Pairwise λa b=>a.ct<b.ct\/a.ct=b.ct/\a.tm<b.tm):∀ k,k<=zs.length->S9 (zs.take k) (jy (zs.take k))
 |0,_=>by rw[bA];exact⟨(λb hb=>by cases hb),AT⟩
 |k+1,h=>by
  obtain⟨x,hx⟩:∃ x,x=zs.getD k aP:=⟨_,rfl⟩;obtain⟨o,ho⟩:∃ o,o=jy (zs.take k):=⟨_,rfl⟩;have I:=Ta zs hs k (by omega);have hsn:zs.take (k+1)=zs.take k++[x]:=by rw[hx];exact gg h
  rw[hsn,Jk];rw[<-ho]at I⊢;have hlt:∀ y∈zs.take k,y.ct<x.ct\/y.ct=x.ct/\y.tm<x.tm:=by
   intro y hy;have h4:=hs;rw[<-bq k zs,bg]at h4;refine h4.2.2 y hy x ?_;rw[drop_cons h,<- hx];exact aX
  have low:∀ b∈o,b.ct=x.ct->b.to<=x.tm:=by
   intro b hb e;obtain⟨_,h1,h2⟩:=I.all b hb;have:=hlt _ (h2 (b.to-1) (by omega) (by omega));simp only at this;omega
  unfold nW;by_cases c:0<o.length/\(o.getD (o.length-1) aP).ct=x.ct/\(o.getD (o.length-1) aP).to=x.tm
  .rw[bS c];obtain⟨c0,c1,c2⟩:=c;obtain⟨y,hy⟩:∃ y,y=o.getD (o.length-1) aP:=⟨_,rfl⟩;rw[<-hy]at c1 c2⊢;obtain⟨p,hp⟩:∃ p,o=p++[y]:=⟨o.take (o.length-1),by
    have:=gg (l:=o) (k:=o.length-1) (by omega);rw[<-hy,show o.length-1+1=o.length by omega,aZ]at this;exact this⟩
   have qu:o.set (o.length-1) { y with to:=y.to+1 }=p++[{ y with to:=y.to+1 }]:=by
    rw[hp,show(p++[y]).length-1=p.length by rw[aV];simp,List.set_append_right _ _ (IN _),Nat.sub_self];rfl
   rw[qu];have hyo:y∈o:=by rw[hp];simp
   obtain⟨y1,y2,y3⟩:=I.all y hyo;have hd:=I.dJ;rw[hp,bg]at hd;refine⟨λb hb=>?_,?_⟩
   .rcases bc.1 hb with hb|hb
    .obtain⟨b1,b2,b3⟩:=I.all b (by rw[hp];simp[hb]);exact⟨b1,b2,λu h1 h2=>bk _ (b3 u h1 h2)⟩
    obtain rfl:=aY.1 hb;refine⟨y1,by show y.fr<y.to+1;omega,λu h1 h2=>?_⟩;have h1:y.fr<=u:=h1;have h2:u<y.to+1:=h2;by_cases e:u<y.to
    .exact bk _ (y3 u h1 e)
    refine bw _ ?_;have:u=x.tm:=by omega
    subst this;rw[show(⟨y.ct,x.tm⟩:ig)=x by rw[c1]];exact aY.2 rfl
   rw[bg];refine⟨hd.1,bF _ _,λa ha b hb e=>?_⟩;obtain rfl:=aY.1 hb;have e:a.ct=y.ct:=e;obtain⟨_,a2,a3⟩:=I.all a (by rw[hp];simp[ha]);have h3:=low a (by rw[hp];simp[ha]) (e.trans c1);have h4:=hd.2.2 a ha y (by simp) e;show a.to<=y.fr\/y.to+1<=a.fr;omega
  rw[bQ c];refine⟨λb hb=>?_,?_⟩
  .rcases bc.1 hb with hb|hb
   .obtain⟨b1,b2,b3⟩:=I.all b hb;exact⟨b1,b2,λu h1 h2=>bk _ (b3 u h1 h2)⟩
   obtain rfl:=aY.1 hb;refine⟨rfl,by show x.tm<x.tm+1;omega,λu h1 h2=>bw _ ?_⟩;have h1:x.tm<=u:=h1;have h2:u<x.tm+1:=h2;have:u=x.tm:=by omega
   subst this;simp
  rw[bg];refine⟨I.dJ,bF _ _,λa ha b hb e=>?_⟩;obtain rfl:=aY.1 hb;exact .inl (low a ha e)
theorem ajB{l:List dC}(h:l.Pairwise lV):(jx l).Nodup:=by
 unfold jx List.Nodup;rw[List.pairwise_map];refine h.imp λ{a b} q e=>q ?_;injection e with e1 e2;exact⟨e1,e2⟩
theorem Tb{l:List dC}(h:l.Pairwise lV):S9 (jx l) (iG l):=by
 have hp:=rq lT (jx l);have hnd:(ka lT (jx l)).Nodup:=hp.nodup_iff.2 (ajB h);have ha:=EH Je (jx l);have hs:(ka lT (jx l)).Pairwise λa b=>a.ct<b.ct\/a.ct=b.ct/\a.tm<b.tm:=by
  refine(By ha hnd).imp λ{a b} q=>?_;obtain⟨q1,q2⟩:=q;rw[AP,gU]at q1;have:¬ (a.ct=b.ct/\a.tm=b.tm):=λe=>q2 (by cases a;cases b;simp only[ig.mk.injEq];exact e);omega
 have I:=Ta _ hs _ (IN _);rw[aZ]at I;exact⟨λb hb=>⟨(I.all b hb).1,(I.all b hb).2.1,λu h1 h2=>hp.mem_iff.1 ((I.all b hb).2.2 u h1 h2)⟩,I.dJ⟩
theorem Tc{t:cE}(ok:fj t){d:cA}{l:List dC}(h1:∀ x∈l,jA t d x)(h2:l.Pairwise lV):∀ b∈iG l,vU t.bO b/\ ∀c∈t.dg,ry c b:=by
 intro b hb;obtain⟨b1,b2,b3⟩:=(Tb h2).all b hb;have tick:∀ u,b.fr<=u->u<b.to->(0<=b.ct/\b.ct<(t.bO.bW.length:Int))/\(t.bO.bW.getD b.ct.toNat aP).start<=u/\u<(t.bO.bW.getD b.ct.toNat aP).stop/\ ∀y∈eO t.dg b.ct,¬ (y.lo<=u/\u<y.hi):=by
  intro u q1 q2;obtain⟨x,hx,e⟩:=bu.1 (b3 u q1 q2);injection e with e1 e2;obtain⟨c1,_,c3⟩:=h1 x hx;obtain⟨g1,g2,_,_,g5⟩:=qn.1 c3;rw[e1,e2]at*;have e:((b.ct.toNat:Nat):Int)=b.ct:=aQ c1.1;refine⟨c1,g1,g2,λy hy=>?_⟩;have:=g5 y (by rw[e];exact hy);simpa[nt]using this
 have f:=tick b.fr (aR _) b2;have g:=tick (b.to-1) (by omega) (by omega);refine⟨⟨f.1,by omega,f.2.1,b2,by omega⟩,λc hc e=>?_⟩;by_cases q:c.to<=b.fr\/b.to<=c.fr
 .exact q
 have hm:(⟨c.fr,c.to⟩:cU)∈eO t.dg b.ct:=Td.2 ⟨c,hc,e,rfl⟩;exfalso;have:=(ok.b.all c hc).lt;by_cases r:c.fr<=b.fr
 .exact f.2.2.2 _ hm ⟨r,by show b.fr<c.to;omega⟩
 exact(tick c.fr (by omega) (by omega)).2.2.2 _ hm ⟨aR _,by show c.fr<c.to;omega⟩
theorem Te{t:cE}(ok:fj t){d:cA}{l:List dC}(h1:∀ x∈l,jA t d x)(h2:l.Pairwise lV):(t.dg++iG l).Pairwise ry:=by
 rw[bg];refine⟨?_,(Tb h2).dJ,λa ha b hb=>(Tc ok h1 h2 b hb).2 a ha⟩;refine ok.b.ord.imp λ{a b} q e=>?_;unfold mU at q;omega
theorem EX{t:cE}(ok:fj t){d:cA}{l:List dC}(h1:∀ x∈l,jA t d x)(h2:l.Pairwise lV):∀ b∈t.dg++iG l,vU t.bO b:=λb hb=>by
 rcases bc.1 hb with hb|hb
 .exact ok.b.all b hb
 exact(Tc ok h1 h2 b hb).1
theorem Tf{α:Type}{R:α->α->Prop}(hs:∀ {x y},R x y->R y x):∀ {l:List α},l.Pairwise R-> ∀{a b},a∈l->b∈l->a≠b->R a b
 |[],_,a,_,ha,_,_=>by cases ha
 |x::l,h,a,b,ha,hb,ne=>by
  rw[bj]at h;rcases bd.1 ha with rfl|ha2
  .rcases bd.1 hb with rfl|hb2
   .exact(ne rfl).elim
   exact h.1 b hb2
  rcases bd.1 hb with rfl|hb2
  .exact hs (h.1 a ha2)
  exact Tf hs h.2 ha2 hb2 ne
theorem ajC{t:cE}(ok:fj t){d:cA}{l:List dC}(h1:∀ x∈l,jA t d x)(h2:l.Pairwise lV):∀ a b,a∈t.dg++iG l->b∈t.dg++iG l->a.ct=b.ct->a.fr=b.fr->a=b:=by
 intro a b ha hb e1 e2;by_cases q:a=b
 .exact q
 have:=Tf (λ{x y} h=>ry.symm h) (Te ok h1 h2) ha hb q e1;have:=(EX ok h1 h2 a ha).lt;have:=(EX ok h1 h2 b hb).lt;omega
theorem ajD{t:cE}(ok:fj t){d:cA}{l:List dC}(h1:∀ x∈l,jA t d x)(h2:l.Pairwise lV)(hl:t.dg.length+(iG l).length<=512):yf t.bO (pr t l).dg:=by
 have hp:=rq kQ (t.dg++iG l);refine⟨by show(ka kQ (t.dg++iG l)).length<=512;rw[hp.length_eq,aV];exact hl,λb hb=>EX ok h1 h2 b (hp.mem_iff.1 hb),?_⟩;have hd:(ka kQ (t.dg++iG l)).Pairwise ry:=(hp.pairwise_iff (λ{x y} h=>ry.symm h)).2 (Te ok h1 h2);have hlt:∀ b∈ka kQ (t.dg++iG l),b.fr<b.to:=λb hb=>(EX ok h1 h2 b (hp.mem_iff.1 hb)).lt;have key:∀ zs:List dE,zs.Pairwise (λa b=>ltOf kQ b a=false)->zs.Pairwise ry->(∀b∈zs,b.fr<b.to)->zs.Pairwise mU:=by
  intro zs
  induction zs with
  |nil=>intro _ _ _;exact AT
  |cons x zs ih=>
   intro q1 q2 q3;rw[bj]at q1 q2⊢;refine⟨λy hy=>?_,ih q1.2 q2.2 λb hb=>q3 b (a6 _ hb)⟩;have r1:=q1.1 y hy;have r2:=q2.1 y hy;have r3:=q3 x aX;have r4:=q3 y (a6 _ hy);rw[AU,gU]at r1;unfold mU;by_cases e:x.ct=y.ct
   .have:=r2 e;omega
   omega
 exact key _ (EH Jf _) hd hlt
theorem Tg{p:fE}:∀ {l:List dE} {a:Option dE},(∀b∈l,vU p b)->l.Pairwise mU->(∀x,a=some x-> ∀b∈l,mU x b)->oO p a l=0
 |[],_,_,_,_=>rfl
 |b::l,a,h1,h2,h3=>by
  rw[bj]at h2;have e1:kD p b=true:=Th.2 (h1 b aX);have e2:gX a b=0:=by
   cases a with
   |none=>rfl
   |some x=>exact Ti.2 (h3 x rfl b aX)
  rw[oO,e1,e2];simp only[ai,ae,ic,np];exact Tg (λc hc=>h1 c (a6 _ hc)) h2.2 λx hx c hc=>by cases hx;exact h2.1 c hc
theorem Tj{p:fE}:∀ {l:List di} {a:Option di},(∀b∈l,sF p b)->(l.Pairwise λa b=>kT b a=false)->(∀x,a=some x-> ∀b∈l,kT b x=false)->nX p a l=0
 |[],_,_,_,_=>rfl
 |b::l,a,h1,h2,h3=>by
  rw[bj]at h2;have e1:qv p b=true:=JC.2 (h1 b aX);have e2:yg a b=false:=by
   cases a with
   |none=>rfl
   |some x=>exact h3 x rfl b aX
  rw[nX,e1,e2];simp only[ai,ae,ic];exact Tj (λc hc=>h1 c (a6 _ hc)) h2.2 λx hx c hc=>by cases hx;exact h2.1 c hc
theorem ajE{t:cE}(h1:jB t.bO=0)(h2:yf t.bO t.dg)(h3:ye t.bO t.dw):fW t=0:=by
 have e1:lB t.bO t.dg=0:=by
  unfold lB;rw[h1,dQ (by have:=h2.len;omega),Tg h2.all h2.ord (λx hx=>by cases hx)];rfl
 have e2:ui t.bO t.dw=0:=by
  unfold ui;rw[h1,dQ (by have:=h3.len;omega),Tj h3.all h3.ord (λx hx=>by cases hx),bp.2 (λx hx=>show rz t.bO t.dw x=true from cw (h3.fit x hx))];rfl
 unfold fW;rw[h1,e1,e2];rfl
theorem JD(f:Int->Int):∀ l:List Int,eh f l=cT f l
 |[]=>rfl
 |z::l=>by simp only[eh,cT,JD f l]
theorem sG(node t:Int):∀ l:List di,e7 node t l=cT (λh=>if gz node t h then h.size else 0) l
 |[]=>rfl
 |h::l=>by simp only[e7,cT,sG node t l]
theorem Tk{α:Type}(f:α->Int){l m:List α}(h:l.Perm m):cT f l=cT f m:=by
 induction h with
 |nil=>rfl
 |cons x _ ih=>simp only[cT,ih]
 |swap x y l=>simp only[cT];omega
 |trans _ _ ih1 ih2=>rw[ih1,ih2]
def jC(us:List (Int×Int))(u:Int):Int:=cT (λp:Int×Int=>if p.1<=u then p.2 else 0) us
theorem ajF(us:List (Int×Int))(z:Int):fo (eW us) z=lX us z:=by
 unfold fo eW;by_cases h:z∈us.map (·.1)
 .rw[bS h];rfl
 rw[bQ h];show 0=lX us z;unfold lX;rw[ru];intro p hp;rw[bQ λe=>h (bu.2 ⟨p,hp,e⟩)]
theorem Tl{u:Int}{K:List Int}(hK:K.Nodup):∀ {us:List (Int×Int)},(∀p∈us,p.1∈K)->cT (λz=>if z<=u then lX us z else 0) K=jC us u
 |[],_=>ru λz _=>by show(if z<=u then(0:Int)else 0)=0;split<;>rfl
 |p::us,h=>by
  have ih:=Tl (u:=u) hK λq hq=>h q (a6 _ hq);have e:cT (λz=>if z<=u then lX (p::us) z else 0) K=cT (λz=>(if p.1=z then(if p.1<=u then p.2 else 0)else 0)+(if z<=u then lX us z else 0)) K:=by
   refine lY λz _=>?_;show(if z<=u then(if p.1=z then p.2 else 0)+lX us z else 0)=_;by_cases a:p.1=z
   .subst a;split<;>simp
   rw[bQ a,bQ a];split<;>omega
  rw[e,EY,ih,<- JD,EZ _ _ hK,bS (h p aX)];rfl
theorem A6{g:Int->Int}:∀ {T:List Int} {i:Nat} {u:Int},T.Pairwise (· < ·)->i<=T.length->(∀j,j<T.length->(T.getD j aP<=u↔j<i))->cT (λz=>if z<=u then g z else 0) T=eh g (T.take i)
 |[],_,_,_,_,_=>by simp[cT,eh]
 |x::T,0,u,h,_,hu=>by
  rw[bA];refine ru λz hz=>?_;obtain⟨j,hj,rfl⟩:=List.getElem_of_mem hz;have:=(hu j hj).1;rw[cV hj]at this;rw[bQ λe=>dP (this e) (BY j)]
 |x::T,i+1,u,h,hi,hu=>by
  rw[bj]at h;have ih:=A6 (g:=g) (i:=i) (u:=u) h.2 (by simpa using hi) λj hj=>by
   have:=hu (j+1) (by simpa using hj);simpa using this
  have hx:x<=u:=(hu 0 (by simp)).2 (by omega);simp only[List.take_succ_cons,cT,eh,ih];rw[bS hx]
theorem yh{T:List Int}(h:T.Pairwise (· < ·)){i j:Nat}(hi:i<j)(hj:j<T.length):T.getD i aP<T.getD j aP:=by
 rw[cV (by omega:i<T.length),cV hj];exact List.pairwise_iff_getElem.1 h i j (by omega) hj hi
theorem JE{T:List Int}(h:T.Pairwise (· < ·)){i j:Nat}{u:Int}(hu:T.getD i aP<=u)(hi:i<T.length)(hn:i+1<T.length->u<T.getD (i+1) aP)(hj:j<T.length):T.getD j aP<=u↔j<i+1:=by
 constructor
 .intro e;rcases IT j (i+1)with q|q
  .exact q
  exfalso;have h1:=hn (by omega);rcases IT (i+1) j with r|r
  .have:=yh h r hj;omega
  rw[show j=i+1 by omega]at e;omega
 intro e;rcases IT j i with q|q
 .have:=yh h q hi;omega
 rw[show j=i by omega];exact hu
def uj(I:List (cU×Int))(u:Int):Int:=cT (λp:cU×Int=>if p.1.lo<=u/\u<p.1.hi then p.2 else 0) I
theorem Tm(a b:List (cU×Int))(u:Int):uj (a++b) u=uj a u+uj b u:=nu _ _ _
theorem Tn{f:Int->Option Int}{T:List Int}(hT:T.Pairwise (· < ·))(ly:∀ i,i<=T.length->0<=eh (fo f) (T.take i))(u:Int):∀ i,i<T.length->uj (gV f T i) u=if u<T.getD i aP then cT (λz=>if z<=u then fo f z else 0) T else 0
 |0,h=>by
  show 0=_;split
  .rename_i e;rw[A6 (i:=0) hT (IS _) λj hj=>⟨λq=>?_,λq=>dP q (BY j)⟩]
   .rfl
   rcases Nat.eq_zero_or_pos j with r|r
   .subst r;omega
   have:=yh hT r hj;omega
  rfl
 |i+1,h=>by
  have ih:=Tn hT ly u i (by omega);have hlt:=yh hT (show i<i+1 by omega) h;have hs:=ly (i+1) (by omega);rw[gV,Tm,ih];have e:uj (if 0<eh (fo f) (T.take (i+1))/\i+1<T.length then[(⟨T.getD i aP,T.getD (i+1) aP⟩,eh (fo f) (T.take (i+1)))]else[]) u=if T.getD i aP<=u/\u<T.getD (i+1) aP then eh (fo f) (T.take (i+1))else 0:=by
   by_cases c:0<eh (fo f) (T.take (i+1))/\i+1<T.length
   .rw[bS c];show(if T.getD i aP<=u/\u<T.getD (i+1) aP then eh (fo f) (T.take (i+1))else 0)+0=_;omega
   rw[bQ c];have:eh (fo f) (T.take (i+1))=0:=by omega
   rw[this];show 0=_;split<;>rfl
  rw[e];by_cases a:u<T.getD i aP
  .rw[bS a,bQ (by omega),bS (by omega)];omega
  rw[bQ a];by_cases b:u<T.getD (i+1) aP
  .rw[bS ⟨by omega,b⟩,bS b,A6 (i:=i+1) hT (by omega) λj hj=>JE hT (by omega) (by omega) (λ_=>b) hj];omega
  rw[bQ (λq=>b q.2),bQ b];rfl
theorem ajG{f:Int->Option Int}{T:List Int}(hT:T.Pairwise (· < ·))(ly:∀ i,i<=T.length->0<=eh (fo f) (T.take i))(h0:eh (fo f) T=0)(u:Int):uj (gV f T T.length) u=cT (λz=>if z<=u then fo f z else 0) T:=by
 cases hl:T.length with
 |zero=>rw[List.length_eq_zero_iff.1 hl];rfl
 |succ n=>
  have h:=Tn hT ly u n (by omega);have e:uj (if 0<eh (fo f) (T.take (n+1))/\n+1<T.length then[(⟨T.getD n aP,T.getD (n+1) aP⟩,eh (fo f) (T.take (n+1)))]else[]) u=0:=by rw[bQ (by omega)];rfl
  rw[gV,Tm,h,e];split
  .omega
  rename_i a;rw[A6 (i:=n+1) hT (by omega) λj hj=>JE hT (by omega) (by omega) (λq=>by omega) hj,<- hl,aZ,h0];rfl
theorem To{node:Int}{x:cU}{h:di}:∀ {f:Nat} {n:Int},h∈iY node x f n->h.node=node/\h.fr=x.lo/\h.to=x.hi/\(1<=h.size/\h.size<=65536)/\h.tk=0
 |0,n,q=>by cases q
 |f+1,n,q=>by
  rw[iY]at q;split at q
  .rcases bd.1 q with rfl|q
   .exact⟨rfl,rfl,rfl,by show 1<=(if 65536<n then 65536 else n)/\(if 65536<n then 65536 else n)<=65536;split<;>omega,rfl⟩
   exact To q
  cases q
theorem Tp(node:Int)(x:cU)(u:Int):∀ (f:Nat) (n:Int),0<=n->n<=65536*(f:Int)->e7 node u (iY node x f n)=if x.lo<=u/\u<x.hi then n else 0
 |0,n,h1,h2=>by
  have:n=0:=by omega
  subst this;show 0=_;split<;>rfl
 |f+1,n,h1,h2=>by
  rw[iY];by_cases c:0<n
  .rw[bS c];have hin:gz node u ⟨node,x.lo,x.hi,if 65536<n then 65536 else n,0⟩=decide (x.lo<=u/\u<x.hi):=by
    unfold gz;simp
   show(if gz node u _=true then(if 65536<n then 65536 else n)else 0)+e7 node u (iY node x f (n-65536))=_;rw[hin];by_cases a:65536<n
   .rw[Tp node x u f (n-65536) (by omega) (by omega)];by_cases b:x.lo<=u/\u<x.hi
    .rw[bS b,bS b,bS (cw b),bS a];omega
    rw[bQ b,bQ b,bQ (by rw[dQ b];decide)];rfl
   rw[S0 _ _ _ (by omega)];by_cases b:x.lo<=u/\u<x.hi
   .rw[bS b,bS (cw b),bQ a];show n+0=n;omega
   rw[bQ b,bQ (by rw[dQ b];decide)];rfl
  rw[bQ c];have:n=0:=by omega
  subst this;show 0=_;split<;>rfl
theorem Tq(node u:Int)(a b:List di):e7 node u (a++b)=e7 node u a+e7 node u b:=by rw[sG,sG,sG,nu]
theorem Tr(node u:Int):∀ {I:List (cU×Int)},(∀p∈I,0<=p.2/\p.2<=6553600)->e7 node u (mT node I)=uj I u
 |[],_=>rfl
 |p::I,h=>by
  have ih:=Tr node u λq hq=>h q (a6 _ hq);have hp:=h p aX;show e7 node u (iY node p.1 100 p.2++mT node I)=_;rw[Tq,Tp _ _ _ _ _ hp.1 (by omega),ih];rfl
theorem Ts{node:Int}{I:List (cU×Int)}{h:di}(q:h∈mT node I):∃ p∈I,h.node=node/\h.fr=p.1.lo/\h.to=p.1.hi/\(1<=h.size/\h.size<=65536)/\h.tk=0:=by
 obtain⟨p,hp,hq⟩:=bn.1 q;exact⟨p,hp,To hq⟩
structure JF(t:cE)(d:cA)(h:Nat)(l:List dC):Prop where
 s:∀ x∈l,jA t d x
 n:l.Pairwise lV
 low:∀ a:Nat,a<t.bO.qs.length-> ∀i:Nat,i<=h-1->0<=stM t d l a i
 quo:∀ a b:Nat,a<t.bO.qs.length->b<h-1->mV d a=true->stM t d l a b<=lC t a (d.ready+(b:Int))
 fin:∀ a:Nat,a<t.bO.qs.length->mV d a=true->stM t d l a ((h-1:Nat):Int)=0
theorem flO{t:cE}{d:cA}{h:Nat}{l:List dC}(e:(rA t d h l).2=0):JF t d h l/\(rA t d h l).1=stM t d l d.dst ((h-1:Nat):Int):=by
 unfold rA at e⊢;split at e
 .rename_i h1;exact(h1 e).elim
 rename_i h1;rw[bQ h1];split at e
 .cases e
 rename_i h2;rw[bQ h2];split at e
 .cases e
 rename_i h3;rw[bQ h3];obtain⟨g1,g2,_⟩:=JG (t:=t) (d:=d) (l:=l) (m:=[]) (Decidable.not_not.1 h1);have h2:=bp.1 (eq_true_of_ne_false h2);have h3:=bp.1 (eq_true_of_ne_false h3);refine⟨⟨g1,g2,λa ha i hi=>?_,λa b ha hb hB=>?_,λa ha hB=>?_⟩,rfl⟩
 .have h4:=h2 a (bl.2 ha);unfold pt at h4;rw[aa,dN,JH]at h4;exact h4.1 i hi
 .have h4:=bp.1 (h3 a (bl.2 ha)) b (bl.2 hb);unfold qw at h4;rw[hB]at h4;simpa using h4
 have h4:=h2 a (bl.2 ha);unfold pt at h4;rw[hB]at h4;simpa using(Bool.and_eq_true_iff.1 h4).2
theorem JI(a b:List (Int×Int))(u:Int):jC (a++b) u=jC a u+jC b u:=nu _ _ _
theorem E0{t:cE}(ok:fj t){d:cA}{l:List dC}(hl:∀ x∈l,jA t d x)(node:Int):∀ p∈fx t node l,d.ready<=p.1/\p.1<=d.dead:=by
 intro p hp;obtain⟨x,hx,hq⟩:=bn.1 hp;obtain⟨c1,c2,c3⟩:=hl x hx;obtain⟨_,_,g3,g4,_⟩:=qn.1 c3;have gW:=(ok.p.bW (dS t x) (by unfold dS;rw[cV (show x.ct.toNat<_ by omega)];exact aW _)).c7;have g4:x.tm+1+(dS t x).c7<=d.dead:=g4;unfold ke at hq;rcases bc.1 hq with hq|hq
 .split at hq
  .obtain rfl:=aY.1 hq;show d.ready<=x.tm/\x.tm<=d.dead;omega
  cases hq
 split at hq
 .obtain rfl:=aY.1 hq;show d.ready<=iQ t x/\iQ t x<=d.dead;unfold iQ;omega
 cases hq
theorem ajH(t:cE)(d:cA)(node u:Int)(x:dC):mW t d node (u-d.ready) x=jC (ke t node x) u-if node=d.src then kf t node x else 0:=by
 unfold mW mw ke kf;rw[JI];have e:∀ (c:Prop) [Decidable c] (a b:Int),jC (if c then[(a,b)]else[]) u=if c then(if a<=u then b else 0)else 0:=by
  intro c _ a b;by_cases q:c
  .rw[bS q,bS q];show(if a<=u then b else 0)+0=_;omega
  rw[bQ q,bQ q];rfl
 rw[e,e]
 (repeat' split)<;>omega
theorem JJ(t:cE)(d:cA)(node u:Int):∀ l:List dC,stM t d l node (u-d.ready)=jC (fx t node l) u-if node=d.src then fS t l node else 0
 |[]=>by show(0:Int)=0-_;unfold fS;split<;>rfl
 |x::l=>by
  have ih:=JJ t d node u l;have hx:=ajH t d node u x;show mW t d node (u-d.ready) x+stM t d l node (u-d.ready)=jC (ke t node x++fx t node l) u-if node=d.src then kf t node x+fS t l node else 0
  rw[JI,ih,hx];split<;>omega
theorem Tt{us:List (Int×Int)}{a u:Int}(h:∀ p∈us,a<=p.1)(hu:u<a):jC us u=0:=ru λp hp=>bQ (by have:=h p hp;omega)
theorem E2(t:cE)(node u:Int):∀ l:List dC,(∀p∈fx t node l,p.1<=u)->jC (fx t node l) u=fS t l node
 |[],_=>rfl
 |x::l,h=>by
  have ih:=E2 t node u l λp hp=>h p (bw _ hp);show jC (ke t node x++fx t node l) u=kf t node x+fS t l node;rw[JI,ih];have hx:∀ p∈ke t node x,p.1<=u:=λp hp=>h p (bk _ hp);have e:jC (ke t node x) u=kf t node x:=by
   have:jC (ke t node x) u=cT (λp:Int×Int=>p.2) (ke t node x):=lY λp hp=>bS (hx p hp);rw[this];unfold ke kf;rw[nu];congr 1
   .split
    .show-x.n+0= -x.n;omega
    rfl
   split
   .show x.n+0=x.n;omega
   rfl
  rw[e]
theorem JK(t:cE)(l:List dC)(node:Int):(iw t l node).Pairwise (· < ·):=Tu ((A3 _).filter _)
theorem JL{t:cE}{l:List dC}{node z:Int}(h:z∈iw t l node):∃ p∈fx t node l,p.1=z:=by
 have h1:=(AI.1 ((uf _).mem_iff.1 h)).1;obtain⟨p,hp,e⟩:=bu.1 (yd.1 h1);exact⟨p,hp,e⟩
theorem JM(t:cE)(l:List dC)(node u:Int):cT (λz=>if z<=u then fo (eW (fx t node l)) z else 0) (iw t l node)=jC (fx t node l) u:=by
 unfold iw qp;rw[Tk _ (uf _)];unfold lW;rw[A7];rw[<-Tl (u:=u) (K:=vR t l node) (A3 _) λp hp=>yd.2 (bu.2 ⟨p,hp,rfl⟩)];refine lY λz _=>?_;rw[ajF];by_cases e:lX (fx t node l) z=0
 .rw[bQ (by rw[e];decide),e];split<;>rfl
 rw[bS (by rw[mX];exact e)]
section
variable {t:cE} (ok:fj t) {d:cA} (hd:gB t.bO.qs.length d) {h:Nat} (hv:d.dead=d.ready+(h:Int)-1) (h2:2<=h) {l:List dC} (F:JF t d h l) (hlen:l.length<=1600)
include ok hv h2 F hlen
theorem ajI{node:Nat}(hn:node<t.bO.qs.length)(h0:fS t l (node:Int)=0)(u:Int):0<=jC (fx t (node:Int) l) u/\jC (fx t (node:Int) l) u<=3200000:=by
 have ht:=E0 ok F.s (node:Int);by_cases a:u<d.ready
 .rw[Tt (λp hp=>(ht p hp).1) a];omega
 by_cases b:d.dead<=u
 .rw[E2 t node u l λp hp=>aU (ht p hp).2 b,h0];omega
 have e:=JJ t d node u l;rw[h0]at e;have e:stM t d l node (u-d.ready)=jC (fx t (node:Int) l) u:=by rw[e];split<;>omega
 rw[<-e];have h3:=F.low node hn (u-d.ready).toNat (by omega);have h4:=Tv ok F.s (node:Int) (u-d.ready);rw[aQ (by omega)]at h3;omega
theorem Tw{node:Nat}(hn:node<t.bO.qs.length)(h0:fS t l (node:Int)=0)(i:Nat)(hi:i<=(iw t l (node:Int)).length):0<=eh (fo (eW (fx t (node:Int) l))) ((iw t l (node:Int)).take i)/\eh (fo (eW (fx t (node:Int) l))) ((iw t l (node:Int)).take i)<=3200000:=by
 match i,hi with
 |0,_=>rw[bA];exact⟨aR _,by show(0:Int)<=3200000;omega⟩
 |i+1,hi=>
  have hT:=JK t l (node:Int);rw[<-A6 (u:=(iw t l (node:Int)).getD i aP) hT hi λj hj=>JE hT (aR _) (by omega) (λq=>yh hT (show i<i+1 by omega) q) hj,JM];exact ajI ok hv h2 F hlen hn h0 _
theorem ajJ{node:Nat}(hn:node<t.bO.qs.length)(u:Int):e7 (node:Int) u (iR t l (node:Int))=if fS t l (node:Int)=0 then jC (fx t (node:Int) l) u else 0:=by
 unfold iR;by_cases h0:fS t l (node:Int)=0
 .rw[bS h0,bS h0];have hT:=JK t l (node:Int);have ly:=Tw ok hv h2 F hlen hn h0;have ht:=E0 ok F.s (node:Int);have hs:eh (fo (eW (fx t (node:Int) l))) (iw t l (node:Int))=0:=by
   have e:jC (fx t (node:Int) l) d.dead=0:=by rw[E2 t node d.dead l λp hp=>(ht p hp).2,h0]
   rw[<-e,<- JM,JD];refine lY λz hz=>?_;obtain⟨p,hp,rfl⟩:=JL hz;rw[bS (ht p hp).2]
  rw[Tr]
  .unfold A4;rw[ajG hT (λi hi=>(ly i hi).1) hs,JM]
  intro p hp;obtain⟨j,h1,h2,h3,_⟩:=ES hp;have:=ly (j+1) (by omega);omega
 rw[bQ h0,bQ h0];rfl
theorem ajK{node:Nat}(hn:node<t.bO.qs.length)(u:Int):e7 (node:Int) u (iS t l)=if fS t l (node:Int)=0 then jC (fx t (node:Int) l) u else 0:=by
 rw[<-ajJ ok hv h2 F hlen hn u];unfold iS;rw[sG,JN,sH,iW (h:=λk=>if k=node then e7 (node:Int) u (iR t l (node:Int))else 0)]
 .rw[pw (λ_=>e7 (node:Int) u (iR t l (node:Int))),bS hn]
 intro k hk;by_cases e:k=node
 .subst e;rw[bS rfl,sG]
 rw[bQ e,<- sG];refine JO λx hx=>?_;have hx:x∈iR t l (k:Int):=hx;unfold iR at hx;split at hx
 .obtain⟨_,_,q,_⟩:=Ts hx;unfold gz;rw[q,jd (by omega),af]
 cases hx
theorem ajL(hd:gB t.bO.qs.length d):∀ x∈iS t l,sF t.bO x:=by
 intro x hx;obtain⟨k,hk,hx⟩:=bn.1 hx;have hk:=bl.1 hk;unfold iR at hx;split at hx
 .rename_i h0;obtain⟨p,hp,q1,q2,q3,q4,q5⟩:=Ts hx;obtain⟨j,h1,_,_,h4⟩:=ES hp;have hT:=JK t l (k:Int);have hlt:=yh hT (show j<j+1 by omega) h1;have ht:=E0 ok F.s (k:Int);have m1:(iw t l (k:Int)).getD j aP∈iw t l (k:Int):=by rw[cV (by omega)];exact aW _
  have m2:(iw t l (k:Int)).getD (j+1) aP∈iw t l (k:Int):=by rw[cV h1];exact aW _
  obtain⟨p1,g1,e1⟩:=JL m1;obtain⟨p2,g2,e2⟩:=JL m2;have r1:=ht p1 g1;have r2:=ht p2 g2;have hr:=hd.ready;have iZ:=hd.dead;rw[h4]at q2 q3;have q2:x.fr=(iw t l (k:Int)).getD j aP:=q2;have q3:x.to=(iw t l (k:Int)).getD (j+1) aP:=q3;exact⟨by omega,by omega,by omega,by omega,q4,by omega⟩
 cases hx
theorem ajM(hd:gB t.bO.qs.length d)(hb:l=[]\/1<=stM t d l d.dst ((h-1:Nat):Int)){node:Nat}(hn:node<t.bO.qs.length)(h0:fS t l (node:Int)=0)(u:Int):jC (fx t (node:Int) l) u<=lC t (node:Int) u:=by
 have hq:lC t (node:Int) u=t.bO.qs.getD node aP-e7 (node:Int) u t.dw:=by
  unfold lC;rw[A8,aT];rfl
 have hs:=A9 ok.p ok.h.all ok.h.fit hn u;have ht:=E0 ok F.s (node:Int);have key:jC (fx t (node:Int) l) u=0->jC (fx t (node:Int) l) u<=lC t (node:Int) u:=λe=>by rw[e,hq];omega
 rcases hb with rfl|hb
 .exact key rfl
 by_cases a:u<d.ready
 .exact key (Tt (λp hp=>(ht p hp).1) a)
 by_cases b:d.dead<=u
 .exact key (by rw[E2 t node u l λp hp=>aU (ht p hp).2 b,h0])
 have hds:=hd.dst;have hsr:=hd.src;have e1:stM t d l ((d.dst.toNat:Nat):Int) ((h-1:Nat):Int)=fS t l ((d.dst.toNat:Nat):Int):=JP ok hv F.s d.dst.toNat (by have:=hd.ne;omega);rw[aQ hds.1]at e1;have nd:(node:Int)≠d.dst:=λe=>by rw[e]at h0;omega
 have ns:(node:Int)≠d.src:=by
  intro e;have e2:=ajN ok hv F.s;rw[ajO (i:=d.src.toNat) (j:=d.dst.toNat) (by omega) (by omega) (by have:=hd.ne;omega) λk hk k1 k2=>?_]at e2
  .rw[aQ hds.1,aQ hsr.1,<- e,h0]at e2;omega
  have hB:mV d (k:Int)=true:=by unfold mV;rw[aa,mX,mX];omega
  rw[<-JP ok hv F.s k (by omega),F.fin k hk hB]
 have hB:mV d (node:Int)=true:=by unfold mV;rw[aa,mX,mX];exact⟨ns,nd⟩
 have h3:=F.quo node (u-d.ready).toNat hn (by omega) hB;have e:=JJ t d node u l;rw[h0]at e;have e:stM t d l node (u-d.ready)=jC (fx t (node:Int) l) u:=by rw[e];split<;>omega
 rw[aQ (by omega),e,show d.ready+(u-d.ready)=u by omega]at h3;exact h3
theorem Tx(hd:gB t.bO.qs.length d)(hb:l=[]\/1<=stM t d l d.dst ((h-1:Nat):Int))(hl:(iS t l).length+t.dw.length<=512):ye t.bO (pr t l).dw:=by
 have hp:=rq kz (t.dw++iS t l);have hall:∀ x∈ka kz (t.dw++iS t l),sF t.bO x:=λx hx=>by
  rcases bc.1 (hp.mem_iff.1 hx)with q|q
  .exact ok.h.all x q
  exact ajL ok hv h2 F hlen hd x q
 refine⟨by show(ka kz (t.dw++iS t l)).length<=512;rw[hp.length_eq,aV];omega,hall,?_,λx hx=>?_⟩
 .refine(EH Jg (t.dw++iS t l)).imp λ{a b} q=>?_;rw[AV,gU]at q;cases e:kT b a with
  |false=>rfl
  |true=>
   have:=JQ.1 e;unfold sI at this;exact(q this).elim
 have vH:=hall x hx;show e7 x.node x.fr (ka kz (t.dw++iS t l))<=_;rw[sG,Tk _ hp,<- sG,Tq];have hn:x.node.toNat<t.bO.qs.length:=by have:=vH.node;omega
 have e:((x.node.toNat:Nat):Int)=x.node:=aQ vH.node.1;have h1:=ajK ok hv h2 F hlen hn x.fr;have h3:=A9 ok.p ok.h.all ok.h.fit hn x.fr;rw[e]at h1 h3;rw[h1];split
 .rename_i h0;have h4:=ajM ok hv h2 F hlen hd hb hn (by rw[e];exact h0) x.fr;rw[e]at h4;unfold lC at h4;rw[A8]at h4;have h4:_<=t.bO.qs.getD x.node.toNat aP-e7 x.node x.fr t.dw:=h4;omega
 omega
end
def nY(d:cA)(v:Int):cA:={ d with fF:=v }
theorem ajP(t:cE)(d:cA)(ht:fW t=0)(hd:gB t.bO.qs.length d):cJ ak 126 [.agg t.cells,.agg (nY d 0).cells] (.bool false,none):=by
 obtain⟨h1,h2,h3,h4,h5,h6,h7,h8⟩:=hd;refine c8 CM Tryz.func126 rfl ?_;exact cj zE (EW t ht) (b8 zE (rfl) (b8 zE (by show decide (d.src<0)=false;exact dQ (by omega)) (b8 zE (by show decide (d.src>=(t.bO.qs.length:Int))=false;exact dQ (by omega)) (b8 zE (by show decide (d.dst<0)=false;exact dQ (by omega)) (b8 zE (by show decide (d.dst>=(t.bO.qs.length:Int))=false;exact dQ (by omega)) (b8 zE (by show(d.src==d.dst)=false;exact jd h3) (b8 zE (rfl) (cL zE rfl rfl (bY.refl _)))))))))
theorem ajQ(t:cE)(d:cA)(ht:fW t=0)(hd:gB t.bO.qs.length d):cJ ak 56 [.agg t.cells,.agg (nY d 0).cells] (.cG [.agg [.int .i64 0,.bN,.int .i64 0,.int .i64 0],.int .i64 1],none):=by
 refine c8 E3 Tryz.func56 rfl ?_;exact cj zE (ajP t d ht hd) (cD zE (rfl) (cL zE rfl rfl (bY.refl _)))
theorem ajR(t:cE)(d:cA)(ht:fW t=0)(hd:gB t.bO.qs.length d):cJ ak 20 [.agg t.cells,.agg (nY d 0).cells] (.cG [.agg [.int .i64 0,.bN,.int .i64 0,.int .i64 0],.bN,.int .i64 0,.int .i64 1],none):=by
 refine c8 CM Tryz.func20 rfl ?_;exact cj zE (ajQ t d ht hd) (cD zE (rfl) (cL zE rfl rfl (bY.refl _)))
theorem ajS(t:cE)(d:cA)(ht:fW t=0)(hd:gB t.bO.qs.length d):cJ ak 14 [.agg t.cells,.agg (nY d 0).cells] (.cG [.agg [.bool false,.int .i64 0,.bN,.bN],.int .i64 1],none):=by
 refine c8 Ty Tryz.func14 rfl ?_;exact cj zE (ajR t d ht hd) (cD zE (rfl) (cL zE rfl rfl (bY.refl _)))
instance:Inhabited lZ:=⟨⟨false,0,[],[]⟩⟩
def nZ(d:cA):Nat:=(d.dead-d.ready+1).toNat
noncomputable def lD(t:cE)(d:cA):lZ:=l4 t d (nZ d)
noncomputable def mY(t:cE)(l:List cA):Nat->cE
 |0=>t
 |k+1=>pr (mY t l k) (lD (mY t l k) (l.getD k aP)).fX
noncomputable def uk(t:cE)(l:List cA)(k:Nat):lZ:=lD (mY t l k) (l.getD k aP)
noncomputable def kU(t:cE)(l:List cA)(n:Nat):List lZ:=(a8 n).map (uk t l)
def yi(t:cE)(l:List cA)(n:Nat):Prop:=∀ k,k<n->vT (mY t l k) (uk t l k).fX
open Classical in
noncomputable def Ba(t:cE)(l:List cA):Go.Sy.A:=if yi t l l.length then .cG [.sl 4 l.length (cO lZ.cells (kU t l l.length)),.int .i64 0]else .cG [.bN,.int .i64 4]
theorem Tz(t:cE)(l:List cA)(n:Nat):(kU t l n).length=n:=by unfold kU;rw[a7,bJ]
theorem ajT(t:cE)(l:List cA)(n:Nat):kU t l (n+1)=kU t l n++[uk t l n]:=by unfold kU;rw[bM,bx];rfl
theorem TA{t:cE}{d:cA}(D:um t d):JF t d (nZ d) (lD t d).fX/\((lD t d).fX=[]\/1<=stM t d (lD t d).fX d.dst ((nZ d-1:Nat):Int))/\(lD t d).fX.length<=1600:=by
 obtain⟨ct,od,q6,hh⟩:=D;have ok:=kS ct;have hh:d.dead=d.ready+(nZ d:Int)-1/\2<=nZ d/\nZ d<=25:=hh;unfold lD l4;by_cases c:ji t d (nZ d)<d.fF
 .rw[bS c];refine⟨⟨(λx hx=>by cases hx),AT,λa ha i hi=>aR 0,λa b ha hb hB=>?_,λa ha hB=>rfl⟩,.inl rfl,by show(0:Nat)<=1600;omega⟩;show 0<=lC t (a:Int) _;have hs:=A9 ok.p ok.h.all ok.h.fit ha (d.ready+(b:Int));unfold lC;rw[A8,aT];show 0<=t.bO.qs.getD a aP-_;omega
 rw[bQ c];have e:=TC ok od hh.2.1 hh.1 (by omega);obtain⟨F,e2⟩:=flO (by rw[e]);refine⟨F,.inr ?_,TD ok (by omega)⟩;rw[<-e2,e];exact od.fF.1
theorem TE{t:cE}{d:cA}(D:um t d):cJ ak 15 [.agg t.cells,kC (lD t d).fX] (uh t (lD t d).fX,none):=by
 obtain⟨F,hb,hlen⟩:=TA D;have ok:=kS D.ct;have hh:d.dead=d.ready+(nZ d:Int)-1/\2<=nZ d/\nZ d<=25:=D.hh;have hr:=D.od.ready;have iZ:=D.od.dead;refine ajA t d _ D.ct hr hlen F.s F.n (λx hx=>?_) (λnode hn h0 i hi=>?_) (λa b ha hb=>ajC ok F.s F.n a b ha hb) (Tx ok hh.1 hh.2.1 F hlen D.od hb)
 .obtain⟨c1,c2,c3⟩:=F.s x hx;obtain⟨_,_,g3,g4,_⟩:=qn.1 c3;have hr:=E4 ok (F.s x hx);have gW:=(ok.p.bW (dS t x) (by unfold dS;rw[cV (show x.ct.toNat<_ by omega)];exact aW _)).c7;have g4:x.tm+1+(dS t x).c7<=d.dead:=g4;exact⟨c1,⟨c2.1,by omega⟩,by omega,by omega⟩
 have:=Tw ok hh.1 hh.2.1 F hlen hn h0 i hi;omega
theorem ajU{t:cE}{d:cA}(D:um t d)(f:vT t (lD t d).fX):fW (pr t (lD t d).fX)=0:=by
 obtain⟨F,hb,hlen⟩:=TA D;have ok:=kS D.ct;have hh:d.dead=d.ready+(nZ d:Int)-1/\2<=nZ d/\nZ d<=25:=D.hh;exact ajE (show jB t.bO=0 from S7 D.ct) (ajD ok F.s F.n f.2) (Tx ok hh.1 hh.2.1 F hlen D.od hb f.1)
theorem JR{t:cE}{l:List cA}(hD:∀ d∈l,um t d):∀ {k:Nat},k<=l.length->yi t l k->(mY t l k).bO=t.bO/\ ∀d∈l,um (mY t l k) d
 |0,_,_=>⟨rfl,hD⟩
 |k+1,h,f=>by
  obtain⟨h1,h2⟩:=JR hD (k:=k) (by omega) λj hj=>f j (by omega);have hm:l.getD k aP∈l:=by rw[cV (show k<l.length by omega)];exact aW _
  have c:=ajU (h2 _ hm) (f k (by omega));exact⟨h1,λd hd=>⟨c,(h2 d hd).od,(h2 d hd).q6,(h2 d hd).hh⟩⟩
theorem ajV(t:cE)(l:List cA)(hl:l.length<=3)(hD:∀ d∈l,um t d):cJ ak 12 [.agg t.cells,rB l] (Ba t l,none):=by
 refine c8 CM Tryz.func12 rfl ?_;refine zG zE ?_;refine NS.loop (σ:={ k:Nat // k<=l.length/\yi t l k }) (λk=>[(2,.ptr 2 0),(6,.own 100),(11,rB l),(12,.int .i64 l.length),(13,.int .i64 (k.1:Nat))]) (λk=>[(2,.box (mY t l k.1).cells),(100,.row 50 4 k.1 (cO lZ.cells (kU t l k.1)))]) (λk=>l.length-k.1) ⟨0,IS _,λj hj=>dP hj (BY j)⟩ ?_ ?_
 .refine(rj 6 100 50 4 (cO lZ.cells []) rfl rfl).trans ?_;exact cB [] ⟨rfl,rfl,rfl,rfl,rfl,bP⟩ ⟨bV,df rfl rfl (λq hq=>dP hq (BY q)),bP⟩
 rintro⟨k,(hk:k<=l.length),f⟩;have f:yi t l k:=f;obtain⟨hp,hT⟩:=JR hD hk f;by_cases a:k<l.length
 .have hm:l.getD k aP∈l:=by rw[cV a];exact aW _
  have D:=hT _ hm;have e1:kU t l (k+1)=kU t l k++[uk t l k]:=ajT t l k;have e2:mY t l (k+1)=pr (mY t l k) (uk t l k).fX:=rfl;have cp:=TF (mY t l k) (l.getD k aP) _ D.ct D.od D.q6 D.hh;have cr:=TE D;obtain⟨T,rC⟩:∃ T,T=mY t l k:=⟨_,rfl⟩;obtain⟨x,hx⟩:∃ x,x=uk t l k:=⟨_,rfl⟩;have ex:lD (mY t l k) (l.getD k aP)=x:=hx.symm;have ex2:l4 (mY t l k) (l.getD k aP) ((l.getD k aP).dead-(l.getD k aP).ready+1).toNat=x:=hx.symm;rw[ex]at cr;rw[ex2]at cp;rw[<-rC]at cp cr e2;rw[<-hx]at e1 e2;rw[<-rC];refine cD zE (er (show k<l.length by omega)) (bU zE (cZ a) (cj zE (cp) (b8 zE (rfl) (bU zE (cw (by show(k+1)*(63+1+1)<=du;simp only[du];omega)) (cj zE (cr) ?_)))));by_cases b:vT T x.fX
  .rw[show uh T x.fX= .cG [.agg (pr T x.fX).cells,.int .i64 0]from bS b];refine b8 zE (rfl) ?_;have f2:yi t l (k+1):=λj hj=>by
    by_cases q:j<k
    .exact f j q
    rw[show j=k by omega,<- rC,<- hx];exact b
   refine cH zE ⟨k+1,a,f2⟩ (dp a) ?_;refine cB [(100,29)] ⟨rfl,rfl,rfl,rfl,c6 a,bP⟩ ⟨⟨_,rfl,e2▸TG _ _⟩,df rfl rfl (λq hq j hj=>?_),bP⟩;show(if q<k then cO lZ.cells (kU t l k) q j else bT x.cells ((q-k)*4+j))=cO lZ.cells (kU t l (k+1)) q j;rw[e1];have h4:=gE (cells:=lZ.cells) (c:=4) (l:=kU t l k) (x:=x) rfl q (by rw[Tz];exact hq) j hj;rw[Tz]at h4;exact h4
  rw[show uh T x.fX= .cG [.agg EU,.int .i64 4]from bQ b];refine cD zE (rfl) ?_;exact zG zE  (NS.ret rfl rfl (by rw[show Ba t l= .cG [.bN,.int .i64 4]from bQ λq=>b (by have:=q k a;rw[<-rC,<- hx]at this;exact this)];exact bY.refl _))
 have a:l.length=k:=by omega
 subst a;refine b8 zE eF (dt zE rfl zE ?_);exact cL zE rfl rfl (by rw[show Ba t l= .cG [.sl 4 l.length (cO lZ.cells (kU t l l.length)),.int .i64 0]from bS f];exact bY.refl _)
theorem ajW(l:List cA)(hl:l.length<=1000000)(f c:Nat)(el:Nat->Go.Sy.A)(p:cA->Bool)(hc:∀ x,x∈l->cJ ak f [.agg (cA.cells x),.ip c el] (.bool (p x),none)):cJ ak 32 [rB l,.fn f [.ip c el]] (.int .i64 (idx p l),none):=by
 refine c8 CM Tryz.func32 rfl ?_;refine zG zE ?_;refine NS.loop (σ:={ k:Nat // k<=l.length/\ ∀i,i<k->p (l.getD i aP)=false }) (λk=>[(0,rB l),(1,.fn f [.ip c el]),(7,.int .i64 l.length),(8,.int .i64 k.1)]) (λ_=>[]) (λk=>l.length-k.1) ⟨0,IS _,λi hi=>by omega⟩ ?_ ?_
 .exact cB [] ⟨rfl,rfl,rfl,rfl,bP⟩ trivial
 rintro⟨k,(hk:k<=l.length),hn⟩;refine cK zE (λa=>?_) (λa=>?_)
 .have a:k<l.length:=by have a:decide ((k:Int)<(l.length:Int))=true:=a;have:=fv a;omega
  refine bU zE (by show decide (0<=(k:Int)/\(k:Int)<(l.length:Int))=true;exact cw (by omega)) (cj zE (hc (l.getD k aP) (by rw[cV a];exact aW _)) (cK zE (λb=>?_) (λb=>?_)))
  .exact zG zE (NS.gu rfl zE (NS.ret rfl rfl (dY (((Ei a b hn).symm)))))
  refine cH zE ⟨k+1,a,λi hi=>by rcases IT i k with h|h;exact hn i h;rw[show i=k by omega];exact b⟩ (dp a) ?_;exact cB [] ⟨rfl,rfl,rfl,c6 (n:=l.length) a,bP⟩ trivial
 have a:k=l.length:=by have a:decide ((k:Int)<(l.length:Int))=false:=a;have:=eY a;omega
 subst a;refine dt zE rfl zE ?_;exact zG zE (NS.ret rfl rfl (dY (((Ej λi hi=>hn i hi).symm))))
theorem ajX(l:List cA)(hl:l.length<=1000000)(f c:Nat)(el:Nat->Go.Sy.A)(p:cA->Bool)(hc:∀ x,x∈l->cJ ak f [.agg (cA.cells x),.ip c el] (.bool (p x),none)):cJ ak 10 [rB l,.fn f [.ip c el]] (.bool (l.any p),none):=by
 refine c8 CM Tryz.func10 rfl ?_;exact cj zE (ajW l hl f c el p hc) (cL zE rfl rfl (fk ((Ek p l))))
theorem ajY{t:cE}(ok:fj t){d:cA}(hd:gB t.bO.qs.length d){h:Nat}(h2:2<=h)(hv:d.dead=d.ready+(h:Int)-1):0<=ji t d h:=by
 obtain⟨n1,n2,n3,n4⟩:=sJ ok hd h2 hv;have hA:=vW ok (d:=d) h2 hv;have hc:∀ k,k<(b9 (dq t d h)).m->0<=(b9 (dq t d h)).cap k:=λk hk=>by
  have hk':k<(dq t d h).length:=hk;exact(hA ((dq t d h).getD k aP) (by rw[cV hk'];exact aW _)).cap.1
 obtain⟨S,_,_,e⟩:=ajZ n4 hc;unfold ji;rw[e];unfold nr;have:∀ m,m<=(b9 (dq t d h)).m->0<=ez (λk=>if S ((b9 (dq t d h)).fr k)=true/\S ((b9 (dq t d h)).to k)=false then(b9 (dq t d h)).cap k else 0) m:=by
  intro m
  induction m with
  |zero=>intro _;exact aR 0
  |succ m ih=>
   intro hm;have h1:=ih (by omega);have h2:=hc m (by omega);simp only[ez];split<;>omega
 exact this _ (IN _)
theorem TH(t:cE)(d:cA)(h:Nat):((l4 t d h).acc !=decide (d.fF<=ji t d h))=false:=by
 unfold l4;by_cases c:ji t d h<d.fF
 .rw[bS c,dQ (by omega)];rfl
 rw[bQ c,cw (by omega)];rfl
def kV(n:Int)(q:Nat):Int:=if q=0 then n else n+1
theorem JS(σ:Nat->Nat)(x:lZ):qx σ x.cells x.cells:=⟨_,_,rfl,.inl rfl,_,_,rfl,rfl,_,_,rfl,rfl,_,_,rfl,rfl,rfl⟩
noncomputable def dB(t:cE)(d:cA):Bool:=!sK t d&&(fW t==0&&sL t.bO.qs.length d)
theorem aj0(t:cE)(d:cA):cJ ak 11 [.agg d.cells,.ip 4 (bT t.cells)] (.bool (!dB t d),none):=by
 refine c8 CM Tryz.func11 rfl ?_;exact cj zE (aj1 t d) (cL zE rfl rfl (bY.refl _))
theorem aj2(aw:cJ ak 6 [] (.bool true,none))(t:cE)(l:List cA):cJ ak 4 [.agg t.cells,rB l] (.bool true,none):=by
 refine c8 CM Tryz.func4 rfl ?_;refine cK zE (λa=>?_) (λa=>?_)
 .exact cj zE (aw) (cL zE rfl rfl (bY.refl _))
 have a:¬ (l.length:Int)>3:=eY (show decide ((l.length:Int)>3)=false from a);refine cj zE (ajX l (by omega) 11 4 (bT t.cells) (λd=>!dB t d) (λd _=>aj0 t d)) (cK zE (λb=>?_) (λb=>?_))
 .exact cj zE (aw) (cL zE rfl rfl (bY.refl _))
 have hD:∀ d∈l,um t d:=λd hd=>by
  have b:(l.any λd=>!dB t d)=false:=b;have:=bD.1 b d hd;exact aj3 (show dB t d=true by simpa using this)
 refine cj zE (ajV t l (by omega) hD) ?_;by_cases f:yi t l l.length
 .rw[show Ba t l= .cG [.sl 4 l.length (cO lZ.cells (kU t l l.length)),.int .i64 0]from bS f];refine b8 zE (rfl) (b8 zE (by show(((l.length:Nat):Int)!=(l.length:Int))=false;simp) ?_);refine eG zE l.length (λk=>[(1,rB l),(2,.ptr 2 0),(45,.sl 4 l.length (cO lZ.cells (kU t l l.length))),(46,.int .i64 l.length),(47,.int .i64 (k:Nat))]) (λk=>[(2,.box (mY t l k).cells)]) ?_ ?_
  .exact cB [] ⟨rfl,rfl,rfl,rfl,rfl,bP⟩ ⟨bV,bP⟩
  rintro⟨k,(hk:k<=l.length)⟩;by_cases c:k<l.length
  .obtain⟨hp,hT⟩:=JR hD hk λj hj=>f j (by omega);have hm:l.getD k aP∈l:=by rw[cV c];exact aW _
   have D:=hT _ hm;obtain⟨d,iZ⟩:∃ d,d=l.getD k aP:=⟨_,rfl⟩;obtain⟨T,rC⟩:∃ T,T=mY t l k:=⟨_,rfl⟩;have hfit:vT T (lD T d).fX:=by have:=f k c;unfold uk at this;rw[<-rC,<- iZ]at this;exact this
   have e2:mY t l (k+1)=pr T (lD T d).fX:=by rw[rC,iZ];rfl
   have hx:(kU t l l.length).getD k aP=lD T d:=by
    unfold kU;rw[cV (by rw[a7,bJ];exact c),bE,List.getElem_range];unfold uk;rw[rC,iZ]
   rw[<-iZ,<- rC]at D;have ok:=kS D.ct;obtain⟨h,hh⟩:∃ h,h=nZ d:=⟨_,rfl⟩;have hH:d.dead=d.ready+(h:Int)-1/\2<=h/\h<=25:=by rw[hh];exact D.hh
   have ex:lD T d=l4 T d h:=by unfold lD;rw[hh]
   obtain⟨n,hn⟩:∃ n,n=ji T d h:=⟨_,rfl⟩;have n0:0<=n:=by rw[hn];exact ajY ok D.od hH.2.1 hH.1
   have n1:n<=20000000:=by rw[hn];exact TI ok D.od hH.2.1 hH.1 (JT ok D.q6 hH.2.2 (by omega))
   have cm:=aj4 T d h D.ct D.od D.q6 hH;have cc:=Bb T d h D.ct D.od D.q6 hH;rw[<-hn]at cm;rw[<-ex,<- hx]at cc;rw[<-rC];refine cD zE (er (show k<l.length by omega)) (bU zE (cZ c) ?_);rw[iZ]at cm cc;refine cN zE ?_;refine bU zE (cZ c) (cj zE (cm) (cN zE ?_));refine b8 zE (rfl) (bU zE (cZ c) (cj zE (cc) (b8 zE (rfl) (bU zE (cZ c) (b8 zE (by show(((kU t l l.length).getD k aP).acc !=decide ((l.getD k aP).fF<=n))=false;rw[hx,ex,hn,<- iZ];exact TH T d h) ?_)))));have mv:∀ v,ji T (nY d v) h=n:=λv=>hn.symm;have od:∀ v,1<=v->v<=20000001->gB T.bO.qs.length (nY d v):=λv v1 v2=>⟨D.od.src,D.od.dst,D.od.ne,⟨v1,by show v<=1099511627776;omega⟩,D.od.ready,D.od.lt,D.od.dead,D.od.TJ⟩;refine zG zE ?_;refine NS.loop (σ:={ q:Nat // q<=2 }) (λq=>[(1,rB l),(2,.ptr 2 0),(7,.int .i64 (k:Nat)),(8,.ptr 8 0),(9,.int .i64 n),(45,.sl 4 l.length (cO lZ.cells (kU t l l.length))),(46,.int .i64 l.length),(47,.int .i64 (k:Nat)),(88,.own 88),(89,.int .i64 2),(90,.int .i64 (q.1:Nat))]) (λq=>[(2,.box T.cells),(8,.box ((kU t l l.length).getD k aP).cells),(88,.row 3 1 2 (λi _=>.int .i64 (kV n i)))]) (λq=>2-q.1) ⟨0,by omega⟩ ?_ ?_
   .exact cB [] ⟨rfl,rfl,rfl,rfl,rfl,rfl,rfl,rfl,rfl,rfl,rfl,bP⟩ ⟨bV,⟨_,rfl,JS _ _⟩,df rfl rfl (λq hq j hj=>by match q,hq,j,hj with|0,_,0,_=>rfl|1,_,0,_=>exact fU (Go.Sy.A.int .i64) (show aj.wrap (n+1)=n+1 from dG)),bP⟩
   rintro⟨q,(hq:q<=2)⟩;by_cases g:q<2
   .have v0:0<=kV n q/\kV n q<=20000001:=by unfold kV;split<;>omega
    refine cD zE (by show decide ((q:Int)<2)=true;exact cw (by omega)) (bU zE (cw (by show(0:Int)<=(q:Int)/\(q:Int)<2;omega)) (bU zE (cw (by show((q:Int)).toNat<2;omega)) (bU zE (cZ c) ?_)));by_cases v:kV n q=0
    .have c0:=ajS T d D.ct D.od;rw[iZ]at c0;refine cj zE (c0.le (db.cons (bY.refl _) (db.cons (bY.of (show Go.Sy.A.agg (nY (l.getD k aP) (kV n q)).cells= .agg (nY (l.getD k aP) 0).cells by rw[v])) db.nil))) (b8 zE (by show decide (kV n q>0)=false;exact dQ (by omega)) (cH zE ⟨q+1,g⟩ (dp g) ?_));exact cB [] ⟨rfl,rfl,rfl,rfl,rfl,rfl,rfl,rfl,rfl,rfl,c6 (n:=2) g,bP⟩ ⟨bV,⟨_,rfl,JS _ _⟩,ee,bP⟩
    have o:=od (kV n q) (by omega) v0.2;have c1:=TF T (nY d (kV n q)) h D.ct o D.q6 hH;have c2:=Bb T (nY d (kV n q)) h D.ct o D.q6 hH;have e3:((l4 T (nY d (kV n q)) h).acc !=(kV n q==n))=false:=by
     have:=TH T (nY d (kV n q)) h;rw[mv]at this;have e4:decide ((nY d (kV n q)).fF<=n)=(kV n q==n):=by
      show decide (kV n q<=n)=(kV n q==n);unfold kV;by_cases z:q=0
      .rw[bS z,cw (aR n),beq_self_eq_true]
      rw[bQ z,dQ (by omega),jd (by omega)]
     rw[<-e4];exact this
    obtain⟨y,hy⟩:∃ y,y=l4 T (nY d (kV n q)) h:=⟨_,rfl⟩;rw[<-hy]at c1 c2 e3;rw[iZ]at c1 c2;refine cj zE (c1) (cD zE (by show decide (kV n q>0)=true;exact cw (by omega)) (b8 zE (rfl) (b8 zE (e3) (cj zE (c2) (b8 zE (rfl) (cH zE ⟨q+1,g⟩ (dp g) ?_))))));exact cB [] ⟨rfl,rfl,rfl,rfl,rfl,rfl,rfl,rfl,rfl,rfl,c6 (n:=2) g,bP⟩ ⟨bV,⟨_,rfl,JS _ _⟩,ee,bP⟩
   have g:2=q:=by omega
   subst g;refine b8 zE (by rfl) (dt zE rfl zE ?_);have cr:=TE D;rw[show uh T (lD T d).fX= .cG [.agg (pr T (lD T d).fX).cells,.int .i64 0]from bS hfit,<- hx]at cr;rw[<-hx]at e2;refine cj zE (cr) (b8 zE (rfl) (cH zE ⟨k+1,c⟩ (dp c) ?_));exact cB [] ⟨rfl,rfl,rfl,rfl,c6 c,bP⟩ ⟨⟨_,rfl,e2▸TG _ _⟩,bP⟩
  have c:l.length=k:=by omega
  subst c;exact b8 zE eF (dt zE rfl zE (cj zE (aw) (cL zE rfl rfl (bY.refl _))))
 rw[show Ba t l= .cG [.bN,.int .i64 4]from bQ f];exact cD zE (rfl) (cD zE (rfl) (cj zE (aw) (cL zE rfl rfl (bY.refl _))))
end Go.Proofs.YtjhmdfofhnijeaaGreatDoor
