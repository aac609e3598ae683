import Derived.Test.YtjhmdfofhnijeaaGreatDoorS1
import Derived.Laws.CopyOwn
import Derived.Laws.MakeOwn
import Derived.MapKept
import Derived.MapFrom
import Derived.RangeFuncRecord
import Derived.CallsIn
open Array renaming length_toList->aa, getD_eq_getD_getElem?->ab, toArray_toList->ae, getElem?_eq_some_iff->af, toList_append->ai, toList_range->aj, toList_map->ak
open Bool renaming and_eq_true->al
open Go renaming Value->aq, Program->ar, TypeId->au, World->av, Oper->ay, FuncId->az, Operand->aA, MapEntry->aB, Calls->aC, Addr->aD
open Go.Builtin renaming zeroCells->aF, firstCells->aG, append_->aH, copy_->aI, delete_->aJ, clear_->aK
open Go.Instr renaming sameBits->aL, storeAt->aM, lookup->aN, sureAddr->aO, makeMap->aP, buildSlice->aQ, mapUpdate->aR, fill->aS, keyThatStays->aT
open Go.MapKept renaming run_getObj_map->aU, run_setObj_map->aV
open Go.Oper renaming semAt_eq->aW
open Go.Result renaming andThen_ok->aX, andThen->aY
open Go.Sem renaming run_pure->aZ, run_bind->a6
open Go.Sy.Loc renaming has->a7
open Go.Sy.R renaming later->a8, closed->ba
open Go.Sy.T renaming eval->bc, dW->bd
open Go.Value renaming int->bg
open Go.Value.slice renaming injEq->bh
open Go.World renaming putObj_heap_other->bj, putObj->bk
open List renaming getElem?_eq_getElem->bl, eq_nil_of_length_eq_zero->bn, getElem?_take_of_lt->bp, size_toArray->bq, getElem?_eq_some_iff->br, length_take->bu, mem_of_getElem?->bw, length_drop->bx, getElem_of_mem->bz, mem_singleton->bA, mem_append->bB, getElem?_map->bD, mem_of_mem_take->bE, append_assoc->bF, getElem?_eq_none->bG, getElem?_append_right->bH, length_append->bI, getElem?_drop->bJ, getElem?_append_left->bK, range->bL, pairwise_map->bM, getElem_mem->AI, toArray->AS, mem_of_mem_drop->AT, getElem_range->By, getElem_map->BY, drop_append_of_le_length->IN, getD->IS, take_left->IT, pairwise_iff_getElem->No, drop_take->OF, pairwise_singleton->abi, mem_map->acK, map_map->adv, eraseIdx_sublist->anc, pairwise_append->api, map_congr_left->arc, getElem?_range->ar0, getElem?_take->ar1, getElem?_set->ar2, ext_getElem?->ar3, ext_getElem->ar4, cons_append->ar5, length_set->ar6, drop_zero->ar7, drop_drop->ar8, mem_cons->ar9, map_set->asa
open Nat renaming mul_le_mul_right->asb, le_refl->asc, add_mul->asd, succ_mul->ase, lt_or_ge->asf, lt_of_lt_of_le->asg, eq_zero_or_pos->ash, mul_one->asi, add_assoc->asj, mul_comm->asl, add_le_add_left->asm, zero_add->asn, le_mul_of_pos_right->aso, mod_eq_of_lt->asp, le_succ->asq, le_trans->asr, add_zero->ass, mul_add_mod->ast, min_eq_left->asu, mod_lt->asv, add_sub_cancel_left->asw, zero_le->asx, mul_le_mul_left->asy, lt_trichotomy->asz, zero_mul->asA, succ_pos->asB, sub_mul->asC, mul_pos->asD
open Option renaming map_some->asE
open Option.some renaming injEq->asF
open Prod.mk renaming injEq->asG
set_option linter.all false
namespace Go.Sy
open Go.RowKit
variable [fI]
theorem th:∀ (l:List A) (d:Nat) (v:A) (i:Nat),bT (eS l d v) i=if i=d/\d<l.length then v else bT l i
 |[],d,v,i=>by simp[eS]
 |a::l,0,v,i=>by cases i<;>simp[eS,bT]
 |a::l,d+1,v,0=>by simp[eS,bT]
 |a::l,d+1,v,i+1=>by simp[eS,bT,th l d v i]
theorem ef:∀ (l:List Ob) (d:Nat) (v:Ob) (i:Nat),bZ (cM l d v) i=if i=d then v else bZ l i
 |[],0,v,i=>by cases i<;>simp[cM,bZ]
 |[],d+1,v,0=>by simp[cM,bZ]
 |[],d+1,v,i+1=>by simp[cM,bZ,ef [] d v i]
 |a::l,0,v,i=>by cases i<;>simp[cM,bZ]
 |a::l,d+1,v,0=>by simp[cM,bZ]
 |a::l,d+1,v,i+1=>by simp[cM,bZ,ef l d v i]
theorem wI{α:Type}:∀ (l:List α) (d:Nat) (v:α),(eS l d v).length=l.length
 |[],d,v=>by simp[eS]
 |a::l,0,v=>by simp[eS]
 |a::l,d+1,v=>by simp[eS,wI l d v]
def dj(ρ:Nat->Loc)(d:Nat)(l:Loc):Nat->Loc:=λi=>if i=d then l else ρ i
theorem dM(ρ:Nat->Loc)(d:Nat)(l:Loc):dj ρ d l d=l:=by simp[dj]
theorem dX(ρ:Nat->Loc)(d:Nat)(l:Loc){i:Nat}(h:i≠d):dj ρ d l i=ρ i:=by simp[dj,h]
def Ow(X:Nat->Prop)(ρ:Nat->Loc):Nat->Prop:=λb=>X b\/owned ρ b
section
variable {w0 w w':av} {X:Nat->Prop} {st:St} {a:Act} {ρ ρ':Nat->Loc}
theorem Rel.put(h:Rel w0 X st a w ρ)(dst:Option Tmp){x:A}{v:aq}(hr:R w (Ow X ρ) x ρ v):
  Rel w0 X ⟨match dst with|some d=>eS st.tmps d x|none=>st.tmps,st.bR⟩ (a.put dst v) w ρ:=by
 cases dst with
 |none=>exact⟨h.len,h.tmp,h.obj,h.dJ,h.kept,h.new,h.fu,h.jM⟩
 |some d=>
  refine⟨by simp[Act.put,wI,h.len],λi=>?_,h.obj,h.dJ,h.kept,h.new,h.fu,h.jM⟩;simp only[th,Act.put];by_cases hi:i=d/\d<st.tmps.length
  .rw[bS hi];obtain⟨rfl,hd⟩:=hi;have:(a.tmps.setIfInBounds i v).getD i undef=v:=by
    simp[Array.getD,h.len,hd]
   rw[this];exact hr
  rw[bQ hi];have:(a.tmps.setIfInBounds d v).getD i undef=a.tmps.getD i undef:=by
   by_cases cn:i=d
   .subst cn;have hge:a.tmps.size<=i:=by rw[h.len];exact Nat.le_of_not_lt λh'=>hi ⟨rfl,h'⟩
    rw[Array.setIfInBounds_eq_of_size_le hge]
   simp[ab,Ne.symm cn]
  rw[this];exact h.tmp i
theorem ou.mono{w w':av}{O O':Nat->Prop}{ρ ρ':Nat->Loc}{ag:Bool}{n:Nat}{f:List Int->Option A}{es:List aB}{ck:Nat}(h:∀ a v,R w O a ρ v->R w' O' a ρ' v)(hm:ou w O ρ ag n f es ck):ou w' O' ρ' ag n f es ck:=by
 refine⟨hm.1,hm.2.1,λq hq=>?_⟩;have:=hm.2.2 q hq;split at this
 .rename_i a ha;obtain⟨e,h1,h2,h3⟩:=this;exact⟨e,h1,h2,h _ _ h3⟩
 rename_i ha;exact this
theorem LJ{e:au}{c n:Nat}{v:aq}{xs:List aq}(hb:∀ b,eQ v=some b->w'.heap[b]? =w.heap[b]?)(h:jP w e c v n xs):jP w' e c v n xs:=by
 obtain⟨eB,hh⟩:=h;refine⟨eB,?_⟩;rcases hh with hh|⟨g,o,cap,cur,rfl,⟨fz,hg,hz⟩,hr⟩
 .exact .inl hh
 exact .inr ⟨g,o,cap,cur,rfl,⟨fz,(hb g rfl).trans hg,hz⟩,hr⟩
theorem rU.later{O O':Nat->Prop}{te e:au}{c n:Nat}{len:Nat->Nat}{el:Nat->Nat->Nat->A}{hi:Option Nat}{v:aq}{us vs:List aq}(hl:dz w w' O O' ρ ρ')(hb:∀ b,(Loc.pO v vs hi).has b->w'.heap[b]? =w.heap[b]?)(h:rU w O te e c n len el hi v us vs):rU w' O' te e c n len el hi v us vs:=by
 obtain⟨⟨h1,h2⟩,h3,h4,h5⟩:=h;refine⟨⟨LJ (λb e=>hb b (.inl e)) h1,h2⟩,h3,λi u hu hne=>?_,h5⟩;obtain⟨xs,h6,h7,h8⟩:=h4 i u hu hne;refine⟨xs,LJ (λb e=>hb b (.inr ⟨i,u,hu,hne,e⟩)) h6,h7,λq hq j hj=>?_⟩;obtain⟨x,hx,hr⟩:=h8 q hq j hj;exact⟨x,hx,a8 _ b7 b7 x hl.b7 hr⟩
theorem fR.later{O O':Nat->Prop}{o:Ob}{l:Loc}(hl:dz w w' O O' ρ ρ')(hb:∀ b,l.has b->w'.heap[b]? =w.heap[b]?)(h:fR w O ρ o l):fR w' O' ρ' o l:=by
 cases o with
 |de=>exact h
 |dead=>exact h
 |box cells=>
  obtain⟨b,vs,t,rfl,hg,hr⟩:=h;exact⟨b,vs,t,rfl,(hb b rfl).trans hg,RL.later cells ρ ρ' vs hl hr⟩
 |row e c n el=>
  obtain⟨v,xs,rfl,hown,h1,h2⟩:=h;refine⟨v,xs,rfl,?_,h1,λi hi j hj=>?_⟩
  .obtain⟨eB,hh⟩:=hown;refine⟨eB,?_⟩;rcases hh with hh|⟨g,o,cap,cur,rfl,⟨fz,hg,hz⟩,hr⟩
   .exact .inl hh
   exact .inr ⟨g,o,cap,cur,rfl,⟨fz,(hb g rfl).trans hg,hz⟩,hr⟩
  obtain⟨u,hu,hr⟩:=h2 i hi j hj;exact⟨u,hu,a8 _ b7 b7 u hl.b7 hr⟩
 |lp ts ps gQ gL gZ iK=>
  obtain⟨b,r,vs,rfl,hg,h1,h2,h3⟩:=h;exact⟨b,r,vs,rfl,(hb b rfl).trans hg,h1,RL.later ts ρ ρ' vs hl h2,h3⟩
 |mp t ag n cl u hh v=>
  obtain⟨b,es,clock,rfl,hg,hm,hc⟩:=h;exact⟨b,es,clock,rfl,(hb b rfl).trans hg,hm.mono λa v h=>a8 a ρ ρ' v hl h,hc⟩
 |it t ag n hh v seen=>
  obtain⟨b,bm,es,clock,sn,rfl,hg,hi,mG,hm,hs⟩:=h;exact⟨b,bm,es,clock,sn,rfl,(hb b rfl).trans hg,hl.tc hi,(hl.same bm hi.1 hi.2).trans mG,hm.mono λa v h=>a8 a b7 b7 v hl.b7 h,hs⟩
 |rr te e c n len el hole=>
  obtain⟨v,us,vs,rfl,hR,hh⟩:=h;refine⟨v,us,vs,rfl,hR.later hl hb,λi a e=>?_⟩;obtain⟨h1,u,h2,h3⟩:=hh i a e;exact⟨h1,u,h2,a8 a ρ ρ' u hl h3⟩
theorem VF{e:au}{c n:Nat}{v:aq}{xs:List aq}(h:jP w e c v n xs){b:Nat}(hb:eQ v=some b):∃ cur t fz,w.heap[b]? =some (.cells cur t fz):=by
 rcases h.2 with ⟨_,s,rfl⟩|⟨g,o,cap,cur,rfl,⟨fz,hg,_⟩,_⟩
 .cases s<;>cases hb
 simp only[eQ,asF]at hb;subst hb;exact⟨_,_,_,hg⟩
theorem Rel.VH(h:Rel w0 X st a w ρ){D:Nat}{ds:Option (List Deferred)}(hD:w.heap[D]? =some (.deferred ds))(hle:w0.heap.size<=D):¬ Ow X ρ D:=by
 rintro(hx|⟨id,cn⟩)
 .have:=h.fu D hx;omega
 have cy:=h.obj id;generalize ρ id=l at cy cn;cases ho:bZ st.bR id with
 |de=>rw[ho]at cy;cases cy;cases cn
 |dead=>rw[ho]at cy;cases cy;cases cn
 |box cells=>
  rw[ho]at cy;obtain⟨b,vs,t,rfl,hg,_⟩:=cy;simp only[a7]at cn;subst cn;rw[hg]at hD;cases hD
 |row e c n el=>
  rw[ho]at cy;obtain⟨v,xs,rfl,⟨_,hh⟩,_⟩:=cy;rcases hh with ⟨_,s,rfl⟩|⟨g,o,cap,cur,rfl,⟨fz,hg,_⟩,_⟩
  .cases s<;>cases cn
  simp only[a7,eQ,asF]at cn;subst cn;rw[hg]at hD;cases hD
 |lp ts ps gQ gL gZ iK=>
  rw[ho]at cy;obtain⟨b,r,vs,rfl,hg,_⟩:=cy;simp only[a7]at cn;subst cn;rw[hg]at hD;cases hD
 |mp t ag n cl u hh v=>
  rw[ho]at cy;obtain⟨b,es,clock,rfl,hg,_⟩:=cy;simp only[a7]at cn;subst cn;rw[hg]at hD;cases hD
 |it t ag n hh v seen=>
  rw[ho]at cy;obtain⟨b,bm,es,clock,sn,rfl,hg,_⟩:=cy;simp only[a7]at cn;subst cn;rw[hg]at hD;cases hD
 |rr te e c n len el hole=>
  rw[ho]at cy;obtain⟨v,us,vs,rfl,hR,_⟩:=cy;rcases cn with cn|⟨i,u,hu,hne,cn⟩
  .obtain⟨_,_,_,hg⟩:=VF hR.1.1 cn;rw[hg]at hD;cases hD
  obtain⟨xs,h6,_⟩:=hR.2.2.1 i u hu hne;obtain⟨_,_,_,hg⟩:=VF h6 cn;rw[hg]at hD;cases hD
theorem Rel.amP(h:Rel w0 X st a w ρ)(hl:dz w w' (Ow X ρ) (Ow X ρ') ρ ρ'):∃ Ds:List Nat,a.defers=Ds.map mb/\Ds.Nodup/\ ∀D∈Ds,w'.heap[D]? =some (.deferred (some []))/\w0.heap.size<=D:=by
 obtain⟨Ds,h1,h2,h3⟩:=h.jM;refine⟨Ds,h1,h2,λD hD=>?_⟩;obtain⟨h4,h5⟩:=h3 D hD;exact⟨(hl.same D (af.1 h4).1 (h.VH h4 h5)).trans h4,h5⟩
theorem Rel.next{objs':List Ob}(h:Rel w0 X st a w ρ)(hl:dz w w' (Ow X ρ) (Ow X ρ') ρ ρ')(hk:fP w0.heap.size w0 w')
  (LK:∀ id,fR w' (Ow X ρ') ρ' (bZ objs' id) (ρ' id)) (amQ:∀ i j b,(ρ' i).has b->(ρ' j).has b->i=j)
  (rW:∀ b,owned ρ' b->w0.heap.size<=b/\b<w'.heap.size):Rel w0 X ⟨st.tmps,objs'⟩ a w' ρ':=
 ⟨h.len,λi=>a8 _ ρ ρ' _ hl (h.tmp i),LK,amQ,hk,rW,h.fu,h.amP hl⟩
theorem Rel.size(h:Rel w0 X st a w ρ):w0.heap.size<=w.heap.size:=h.kept.size
theorem Rel.de(h:Rel w0 X st a w ρ){d:Nat}(hd:bZ st.bR d= .de):ρ d= .de:=by
 have:=h.obj d;rw[hd]at this;exact this
theorem B5{d:Nat}{l:Loc}{b:Nat}(h:owned (dj ρ d l) b):owned ρ b\/l.has b:=by
 obtain⟨i,hi⟩:=h;by_cases cn:i=d
 .subst cn;rw[dM]at hi;exact .inr hi
 rw[dX _ _ _ cn]at hi;exact .inl ⟨i,hi⟩
theorem pP{d:Nat}{l:Loc}(o:Obj)(hv:ρ d= .de)(hl:∀ b,l.has b->b=w.heap.size):dz w (w.alloc o) (Ow X ρ) (Ow X (dj ρ d l)) ρ (dj ρ d l):=by
 refine⟨by simp,λb hb _=>Below.heap_alloc _ _ _ hb,λb hb ho=>?_,λid=>?_⟩
 .rcases ho with ho|ho
  .exact .inl ho
  rcases B5 ho with ho|ho
  .exact .inr ho
  have:=hl b ho;omega
 by_cases cn:id=d
 .subst cn;exact .inr (.inl hv)
 exact .inl (dX _ _ _ cn)
theorem Rel.make{d:Nat}{ob:Ob}{l:Loc}{o:Obj}(h:Rel w0 X st a w ρ)(hd:bZ st.bR d= .de)(hl:∀ b,l.has b->b=w.heap.size)
  (cy:fR (w.alloc o) (Ow X (dj ρ d l)) (dj ρ d l) ob l):
  Rel w0 X ⟨st.tmps,cM st.bR d ob⟩ a (w.alloc o) (dj ρ d l):=by
 have hL:=pP (X:=X) (w:=w) o (h.de hd) hl;refine h.next hL (h.kept.alloc h.size o) (λid=>?_) (λi j b hi hj=>?_) (λb hb=>?_)
 .rw[ef];by_cases cn:id=d
  .subst cn;rw[bS rfl,dM];exact cy
  rw[bQ cn,dX _ _ _ cn];refine(h.obj id).later hL λb hb=>Below.heap_alloc _ _ _ ?_;exact(h.new b ⟨id,hb⟩).2
 .by_cases cn:i=d<;>by_cases mH:j=d
  .rw[cn,mH]
  .subst cn;rw[dM]at hi;rw[dX _ _ _ mH]at hj;have:=(h.new b ⟨j,hj⟩).2;have:=hl b hi;omega
  .subst mH;rw[dM]at hj;rw[dX _ _ _ cn]at hi;have:=(h.new b ⟨i,hi⟩).2;have:=hl b hj;omega
  rw[dX _ _ _ cn]at hi;rw[dX _ _ _ mH]at hj;exact h.dJ i j b hi hj
 rcases B5 hb with hb|hb
 .have:=h.new b hb;exact⟨this.1,by simp;omega⟩
 have:=hl b hb;subst this;exact⟨h.size,by simp⟩
theorem LL{O:Nat->Prop}:∀ {l:List A} {vs:List aq},l.length=vs.length->(∀i v,vs[i]? =some v->R w O (bT l i) ρ v)->RL w O l ρ vs
 |[],vs,hl,_=>by simp only[RL];exact bn (by simpa using hl.symm)
 |a::l,[],hl,_=>by simp at hl
 |a::l,v::vs,hl,h=>by
  simp only[RL];exact⟨v,vs,rfl,h 0 v rfl,LL (by simpa using hl) λi u hu=>h (i+1) u (by simpa using hu)⟩
theorem wJ:∀ (l m:List A) (i:Nat),bT (l++m) i=if i<l.length then bT l i else bT m (i-l.length)
 |[],m,i=>by simp
 |a::l,m,0=>by simp[bT]
 |a::l,m,i+1=>by simp[bT,wJ l m i]
theorem VI(z:List A):∀ (n i:Nat),i<n*z.length->bT (uA z n) i=bT z (i%z.length)
 |0,i,h=>by simp at h
 |n+1,i,h=>by
  rw[uA,wJ];split
  .rename_i hi;rw[asp hi]
  rename_i hi;have e:(n+1)*z.length=n*z.length+z.length:=by rw[ase]
  rw[VI z n (i-z.length) (by omega)];congr 1;exact(Nat.mod_eq_sub_mod (by omega)).symm
theorem VJ(z:List A):∀ n,(uA z n).length=n*z.length
 |0=>by simp[uA]
 |n+1=>by rw[uA,bI,VJ z n,ase];omega
theorem VK{O:Nat->Prop}{z:List A}{zero:Array aq}{len s:Nat}(hz:RL w O z ρ zero.toList)(hs:z.length=s)(hs0:0<s):
  RL w O (uA z len) ρ ((Array.range (len*s)).map (zero[· %zero.size]!)).toList:=by
 have hzl:=hz.len;have hzs:zero.size=s:=by rw[<-hs,<- hzl];simp
 refine LL (by simp[VJ,hs]) λi v hi=>?_;have ti:i<len*s:=by
  rcases asf i (len*s)with h|h
  .exact h
  rw[bG (by simpa using h)]at hi;cases hi
 rw[VI z len i (by rw[hs];exact ti),hs];have hm:i%s<s:=asv _ hs0;refine hz.get (i%s) v ?_;simp[ti]at hi;subst hi;rw[hzs];have:i%s<zero.size:=by omega
 simp[this]
theorem VL:∀ (zs:List (aq×Nat)) (off:Nat) (c:Array aq),(zs.foldl (λcs (p:aq×Nat)=>cs.setIfInBounds (off+p.2) p.1) c).size=c.size
 |[],off,c=>rfl
 |z::zs,off,c=>by simp only[List.foldl_cons];rw[VL zs];simp
theorem LM(place:Nat->Option (Nat×Nat)):∀ (l:List (Nat×aq)) (c c':Array aq),aS place c l=some c'->c'.size=c.size
 |[],c,c',h=>by simp[aS]at h;rw[h]
 |(q,v)::l,c,c',h=>by
  simp only[aS]at h;split at h
  .cases h
  split at h
  .cases h
  rw[LM place l _ _ h,<- Array.foldl_toList];exact VL _ _ _
theorem amR{E:Env}{o:ay}{d:Nat}{rw:Bool}{ob:Ob}(h:Rel w0 X st a w ρ)(hd:bZ st.bR d= .de)(hs:(nz E o.op (cQ st.tmps)).eval=some (rw,ob)):
  ∃v l obj,(execOp a.eval o).run E.P w= .ok (.value v) (w.alloc obj)/\(∀b,l.has b->b=w.heap.size)/\fR (w.alloc obj) (Ow X (dj ρ d l)) (dj ρ d l) ob l/\
   R (w.alloc obj) (Ow X (dj ρ d l)) (rP rw d ob) (dj ρ d l) v:=by
 have cW:=mE h.tmp;have hv:=h.de hd;obtain⟨dst,op,type,pos,after,guard⟩:=o;simp only at hs;cases op with
 |box t x=>
  simp only[nz]at hs;split at hs
  .rename_i cs hcs;simp only[bc,asF,asG]at hs;obtain⟨rfl,rfl⟩:=hs;have hr:=LI (cW x) hcs;refine⟨.pointer (some ⟨w.heap.size,0,none⟩),.blk w.heap.size,.cells (a.eval x).cells t,?_,(λb hb=>by simpa[a7,eQ,iP]using hb),?_,?_⟩
   .simp[execOp,Instr.box,newVar,newRow]
   .exact⟨w.heap.size,(a.eval x).cells.toList,t,rfl,by rw[heap_alloc_new],RL.later _ _ _ _ (pP _ hv (λb hb=>by simpa[a7,iP]using hb)) hr⟩
   simp only[rP,R,dM]
  cases hs
 |alloc t=>
  simp only[nz]at hs;split at hs
  .rename_i cs hcs;simp only[bc,asF,asG]at hs;obtain⟨rfl,rfl⟩:=hs;obtain⟨i,v,hi,hz,hr⟩:=uI (w:=w) (O:=Ow X ρ) (ρ:=ρ) hcs;refine⟨.pointer (some ⟨w.heap.size,0,none⟩),.blk w.heap.size,.cells v.cells t,?_,(λb hb=>by simpa[a7,eQ,iP]using hb),?_,?_⟩
   .simp[execOp,Instr.alloc,zeroValue,typeInfo,hi,hz,newVar,newRow]
   .exact⟨w.heap.size,v.cells.toList,t,rfl,by rw[heap_alloc_new],RL.later _ _ _ _ (pP _ hv (λb hb=>by simpa[a7,iP]using hb)) hr⟩
   simp only[rP,R,dM]
  cases hs
 |buildSlice t len parts=>
  cases len with
  |zero=>
   simp only[nz]at hs;split at hs
   .rename_i e hu nU;split at hs
    .rename_i s hsz;simp only[bc,asF,asG]at hs;obtain⟨rfl,rfl⟩:=hs;obtain rfl:parts= #[]:=by cases parts;simp at nU;rw[nU]
     refine⟨.slice (some ⟨w.heap.size,0,none⟩) 0 0,.row (.slice (some ⟨w.heap.size,0,none⟩) 0 0),.cells #[] e,?_,(λb hb=>by cases hb),⟨_,[],rfl,⟨by simp,.inl ⟨rfl,_,rfl⟩⟩,by simp,λi hi=>by omega⟩,?_⟩
     .simp[execOp,aQ,run_underlying hu,iy hsz,aS,newRow];congr 2;exact Array.eq_empty_of_size_eq_zero (by simp)
     simp only[rP,R,dM];exact⟨bP,_,_,_,rfl⟩
    cases hs
   cases hs
  |succ len=>
  simp only[nz]at hs;split at hs
  .rename_i e hu;split at hs
   .rename_i z s hz hsz;split at hs
    .rename_i cs hcs;split at hs
     .split at hs
      .rename_i qK;obtain⟨hzl,hs1,hlen,yV⟩:=qK;subst hs1;simp only[bc,asF,asG]at hs;obtain⟨rfl,rfl⟩:=hs;obtain⟨i,zv,hi,pQ,hr⟩:=uI (w:=w) (O:=Ow X ρ) (ρ:=ρ) hz;have B6:=VK (len:=len+1) hr hzl (by omega);obtain⟨us,hf,hus⟩:=B2 (B4 cW parts.toList) B6 hcs;simp only[ae]at hf;have yU:(parts.map λ(i,x)=>(i,a.eval x)).toList=parts.toList.map λp=>(p.1,a.eval p.2):=by simp
       have hul:us.length=(len+1)*1:=by
        have:=LM _ _ _ _ hf;simpa using this
       have VM:cs.length=us.length:=hus.len.symm;refine⟨.slice (some ⟨w.heap.size,0,none⟩) (len+1) (len+1),.blk w.heap.size,.cells us.toArray e,?_,(λb hb=>by simpa[a7,iP]using hb),?_,?_⟩
       .have hn:(len+1)*1≠0:=by omega
        have hn':¬ ((len+1)*1>2^24):=by omega
        simp only[execOp,aQ,a6,run_underlying hu,aX,iy hsz,bQ hn',bQ hn,aZ,zeroValue,typeInfo,run_program,hi,pQ,yU,hf,newRow,run_newObj];rfl
       .exact⟨w.heap.size,us,e,rfl,by rw[heap_alloc_new],RL.later _ _ _ _ (pP _ hv (λb hb=>by simpa[a7,iP]using hb)) hus⟩
       simp only[rP,R,dM];exact⟨len+1,by rw[VM,hul];simp,by rw[VM,hul];omega,by simp only[maxLen];omega⟩
      cases hs
     split at hs
     .rename_i qK;obtain⟨hcl,hac,hzl,hs0,hlen,yV⟩:=qK;simp only[bc,asF,asG]at hs;obtain⟨rfl,rfl⟩:=hs;obtain⟨i,zv,hi,pQ,hr⟩:=uI (w:=w) (O:=Ow X ρ) (ρ:=ρ) hz;have B6:=VK (len:=len+1) hr hzl hs0;obtain⟨us,hf,hus⟩:=B2 (B4 cW parts.toList) B6 hcs;simp only[ae]at hf;have yU:(parts.map λ(i,x)=>(i,a.eval x)).toList=parts.toList.map λp=>(p.1,a.eval p.2):=by simp
      have hul:us.length=(len+1)*s:=by
       have:=LM _ _ _ _ hf;simpa using this
      refine⟨.slice (some ⟨w.heap.size,0,none⟩) (len+1) (len+1),.row (.slice (some ⟨w.heap.size,0,none⟩) (len+1) (len+1)),.cells us.toArray e,?_,(λb hb=>by simpa[a7,eQ,iP]using hb),?_,?_⟩
      .have hn:(len+1)*s≠0:=by have:=asD yV hs0;omega
       have hn':¬ ((len+1)*s>2^24):=by omega
       simp only[execOp,aQ,a6,run_underlying hu,aX,iy hsz,bQ hn',bQ hn,aZ,zeroValue,typeInfo,run_program,hi,pQ,yU,hf,newRow,run_newObj];rfl
      .have B7:=(ba (w:=w) (O:=Ow X ρ) (ρ:=ρ) b7 5).2 cs us hcl hus;refine⟨_,us,rfl,⟨hul,.inr ⟨w.heap.size,0,len,us.toArray,rfl,⟨(0,0),by rw[heap_alloc_new],.inr rfl⟩,asc _,?_,by simpa using hul,?_⟩⟩,RL.yv hus hac,λi hi j hj=>?_⟩
       .have:len+1<=(len+1)*s:=aso (len+1) hs0;simp only[maxLen];omega
       .simp;rw[List.take_of_length_le (by omega)]
       have hlt:i*s+j<us.length:=by
        rw[hul]
        calc i*s+j<i*s+s:=by omega
         _=(i+1)*s:=by rw[ase]
         _<=(len+1)*s:=asb s hi
       refine⟨us[i*s+j],bl hlt,?_⟩;exact a8 _ b7 b7 _ (pP (X:=X) (ρ:=ρ) (d:=d) (l:=.row (.slice (some ⟨w.heap.size,0,none⟩) (len+1) (len+1))) _ hv (λb hb=>by simpa[a7,eQ,iP]using hb)).b7 (B7.get _ _ (bl hlt))
      simp only[rP,R,dM];exact⟨bP,_,_,_,rfl⟩
     cases hs
    cases hs
   cases hs
  cases hs
 |makeSlice t l c=>
  simp only[nz]at hs;split at hs
  .rename_i e hu;split at hs
   .rename_i i z hi hz;have hl:=cW l;have hc:=cW c;split at hs
    .rename_i kl n kc m hn hm;rw[hn]at hl;rw[hm]at hc;simp only[R]at hl hc;split at hs
     .rename_i qK;obtain⟨hzl,hs0,LN,LO⟩:=qK;simp only[oV,bd,bc]at hs;split at hs
      .rename_i hb;simp only[dN]at hb;obtain⟨h0,hnm,hbd⟩:=hb;simp only[asF,asG]at hs;obtain⟨rfl,rfl⟩:=hs;obtain⟨i',zv,hi',pQ,hr⟩:=uI (w:=w) (O:=Ow X ρ) (ρ:=ρ) hz;rw[hi]at hi';cases hi';have hmx:m.toNat<=du:=asr (aso _ (asB _)) hbd;have hby:m.toNat*i.bytes<=m.toNat*(i.bytes+1):=asy _ (asq _);have hrun:=run_make (P:=E.P) w t e i zv hu hi pQ kl kc n m h0 hnm (by
        have:((i.bytes*m.toNat:Nat):Int)<=281474976710656:=by
         rw[asl];unfold du at hbd;omega
        rw[Int.natCast_mul]at this;rwa[show((m.toNat:Nat):Int)=m by omega]at this) (by unfold du at hmx;omega)
       have hzs:zv.cells.size=i.size:=by rw[<-hzl,<- hr.len];simp
       have yW:∀ b,(Loc.row (.slice (some ⟨w.heap.size,0,none⟩) n.toNat m.toNat)).has b->b=w.heap.size:=by
        intro b hb;simp only[a7,eQ]at hb;split at hb
        .rename_i heq;simp only[bh,asF]at heq;obtain⟨rfl,_⟩:=heq;simpa[iP]using hb
        cases hb
       refine⟨.slice (some ⟨w.heap.size,0,none⟩) n.toNat m.toNat,.row (.slice (some ⟨w.heap.size,0,none⟩) n.toNat m.toNat),.cells (madeCells zv.cells (m.toNat*i.size)) e,by simp[execOp,hl,hc,hrun],yW,?_,?_⟩
       .have hcells:∀ k,k<m.toNat*i.size->(madeCells zv.cells (m.toNat*i.size)).toList[k]? =zv.cells.toList[k%i.size]?:=by
         intro k hk;have amS:k%i.size<i.size:=asv _ hs0;have:k%i.size<zv.cells.size:=by omega
         simp only[madeCells,ak,bD,aj,ar0 hk,asE,hzs];rw[getElem!_pos zv.cells _ this];simp[this]
        have LP:=(ba (w:=w) (O:=Ow X ρ) (ρ:=ρ) b7 5).2 z _ LN hr;have hln:n.toNat*i.size<=m.toNat*i.size:=asb _ (by omega);refine⟨_,(madeCells zv.cells (m.toNat*i.size)).toList.take (n.toNat*i.size),rfl,⟨by simp only[bu,aa,size_madeCells];omega,?_⟩,λu gN=>?_,λq hq j hj=>?_⟩
        .cases uc:m.toNat with
         |zero=>
          left;have:n.toNat=0:=by omega
          exact⟨this,_,by rw[this]⟩
         |succ cap=>
          right;refine⟨w.heap.size,0,cap,madeCells zv.cells ((cap+1)*i.size),rfl,⟨(0,0),by rw[heap_alloc_new],.inr rfl⟩,by omega,?_,by rw[size_madeCells,asn],rfl⟩;unfold du at hmx;unfold maxLen;omega
        .have hu2:=bE gN;obtain⟨k,hk,rfl⟩:=bz hu2;have hk':k<m.toNat*i.size:=by simpa[size_madeCells]using hk
         have:=hcells k hk';rw[bl hk]at this;exact RL.yv hr LO _ (bw this.symm)
        have hlt:q*i.size+j<n.toNat*i.size:=by
         calc q*i.size+j<q*i.size+i.size:=by omega
          _=(q+1)*i.size:=by rw[ase]
          _<=n.toNat*i.size:=asb _ hq
        have hz2:j<zv.cells.toList.length:=by simpa[hzs]using hj
        refine⟨zv.cells.toList[j],?_,a8 _ b7 b7 _ (pP (X:=X) (ρ:=ρ) (d:=d) _ hv yW).b7 (LP.get _ _ (bl hz2))⟩;rw[bp hlt,hcells _ (by omega)];rw[show(q*i.size+j)%i.size=j by rw[asl,ast,asp hj]];exact bl hz2
       simp only[rP,R,dM];exact⟨bP,_,_,_,rfl⟩
      cases hs
     cases hs
    cases hs
   cases hs
  cases hs
 |_=>simp[nz,bc]at hs
theorem wg(P:ar)(g o:Nat)(t:au)(fz:Nat×Nat):∀ (vs:List aq) (i:Nat) (cur:Array aq) (w:av),w.heap[g]? =some (.cells cur t fz)->(cur.size<=fz.1\/fz.2=0)->o+i+vs.length<=cur.size->(∀v∈vs,v.oneCell'=true)->
  (storeCells ⟨g,o,none⟩ vs i).run P w= .ok () (w.setRow g (cur.toList.take (o+i)++vs++cur.toList.drop (o+i+vs.length)).toArray)
 |[],i,cur,w,hg,_,_,_=>by
  simp only[storeCells,List.append_nil,List.length_nil,ass,List.take_append_drop,ae];rw[setRow_self w g cur t fz hg];rfl
 |v::rest,i,cur,w,hg,hfz,hl,h1=>by
  have hi:o+i<cur.size:=by simp at hl;omega
  have amT:(⟨g,o,none⟩:aD).add i=⟨g,o+i,none⟩:=by unfold Addr.add;split<;>simp_all
  have hcell:w.cell? ⟨g,o+i,none⟩=some cur[o+i]:=by simp[World.cell?,hg,hi]
  have amU:w.frozen? ⟨g,o+i,none⟩=false:=by
   obtain⟨lo,hi'⟩:=fz;simp only[World.frozen?,hg,Bool.and_eq_false_iff,gU];simp only at hfz;omega
  have hst:(store ((⟨g,o,none⟩:aD).add i) v).run P w= .ok () (w.setRow g (cur.setIfInBounds (o+i) v)):=by
   rw[amT,run_store P w _ v _ (h1 v (by simp)),hcell];simp[amU,setCell_eq_setRow w g (o+i) cur t fz v hg]
  have ih:=wg P g o t fz rest (i+1) (cur.setIfInBounds (o+i) v) (w.setRow g (cur.setIfInBounds (o+i) v)) (setRow_heap w g cur _ t _ hg) (by simpa using hfz) (by simp at hl ⊢;omega) (λx hx=>h1 x (by simp[hx]));simp only[storeCells,a6,hst,aX,ih,setRow_setRow];congr 3;have e:=list_seg_step cur.toList (o+i) v rest (by simp at hl ⊢;omega);simpa[Array.toList_setIfInBounds,asj]using e
theorem Uh{B g:Nat}{w0 w:av}(hb:fP B w0 w)(hBg:B<=g)(cs:Array aq):fP B w0 (w.setRow g cs):=
 hb.trans ⟨rfl,rfl,rfl,by simp[World.setRow],λk hk=>setRow_other w g k cs (by omega),fI.refl _⟩
theorem Rel.write{id:Nat}{ob:Ob}{b:Nat}{cur new:Array aq}{t:au}{fz:Nat×Nat}(h:Rel w0 X st a w ρ)(hl:(ρ id).has b)(hg:w.heap[b]? =some (.cells cur t fz))
  (cy:fR (w.setRow b new) (Ow X ρ) ρ ob (ρ id)):Rel w0 X ⟨st.tmps,cM st.bR id ob⟩ a (w.setRow b new) ρ:=by
 have hL:dz w (w.setRow b new) (Ow X ρ) (Ow X ρ) ρ ρ:=
  ⟨by simp,λb' _ hn=>setRow_other _ _ _ _ (λe=>hn (by subst e;exact .inr ⟨id,hl⟩)),λ_ _ h=>h,λ_=>.inl rfl⟩
 refine h.next hL (Uh h.kept (h.new b ⟨id,hl⟩).1 _) (λi=>?_) h.dJ (λb' hb'=>by have:=h.new b' hb';simpa using this);rw[ef];by_cases cn:i=id
 .subst cn;rw[bS rfl];exact cy
 rw[bQ cn];exact(h.obj i).later hL λb' hb'=>setRow_other _ _ _ _ (λe=>cn (h.dJ i id b (e▸hb') hl))
theorem nf{b:Nat}{new:Array aq}{id:Nat}(hl:(ρ id).has b):dz w (w.setRow b new) (Ow X ρ) (Ow X ρ) ρ ρ:=
 ⟨by simp,λb' _ hn=>setRow_other _ _ _ _ (λe=>hn (by subst e;exact .inr ⟨id,hl⟩)),λ_ _ h=>h,λ_=>.inl rfl⟩
def jV(l:List aq)(o:Nat)(vs:List aq):List aq:=l.take o++vs++l.drop (o+vs.length)
theorem qL(l:List aq)(o:Nat)(vs:List aq)(h:o+vs.length<=l.length):(jV l o vs).length=l.length:=by
 simp[jV];omega
theorem tj(l:List aq)(o:Nat)(vs:List aq)(k:Nat)(h:o+vs.length<=l.length):(jV l o vs)[k]? =if o<=k/\k<o+vs.length then vs[k-o]? else l[k]?:=by
 have h1:(l.take o).length=o:=by simp;omega
 unfold jV;rw[bF];rcases asf k o with hk|hk
 .rw[bK (by omega),bp hk,bQ (by omega)]
 rw[bH (by omega),h1];rcases asf (k-o) vs.length with hk2|hk2
 .rw[bK hk2,bS (by omega)]
 rw[bH hk2,bQ (by omega),bJ];congr 1;omega
theorem Ga(l:List aq)(o:Nat)(vs:List aq)(m:Nat)(h:o+vs.length<=m)(hm:m<=l.length):(jV l o vs).take m=jV (l.take m) o vs:=by
 apply ar3;intro k;rw[tj _ _ _ _ (by simp;omega),ar1];split
 .rw[tj _ _ _ _ (by omega),bp ‹_›]
 rw[bQ (by omega),ar1,bQ ‹_›]
theorem Gb(l:List aq)(o k:Nat)(vs:List aq)(h:o+k<=l.length):(jV l (o+k) vs).drop o=jV (l.drop o) k vs:=by
 unfold jV;have hl:(l.take (o+k)).length=o+k:=by rw[bu];omega
 rw[bF,IN (by omega),OF,asw,ar8,bF,asj]
theorem LQ{l:List aq}{o:Nat}{vs:List aq}{u:aq}(h:u∈jV l o vs):u∈l\/u∈vs:=by
 simp only[jV,bB]at h;rcases h with (h|h)|h
 .exact .inl (bE h)
 .exact .inr h
 exact .inl (AT h)
theorem amV{P:ar}{t:au}{x y:A}{vx vy:aq}{id:Nat}{ob:Ob}(h:Rel w0 X st a w ρ)(hx:R w (Ow X ρ) x ρ vx)(hy:R w (Ow X ρ) y ρ vy)
  (hs:(l9 P st.bR t x y).eval=some (id,ob)):∃ w',(aM t vx vy).run P w= .ok () w'/\Rel w0 X ⟨st.tmps,cM st.bR id ob⟩ a w' ρ/\dz w w' (Ow X ρ) (Ow X ρ) ρ ρ:=by
 unfold l9 at hs;split at hs
 .rename_i s cs hsz hcs;have hr:=LI hy hcs;split at hs
  .rename_i qK;obtain⟨hlen,hs0,hac⟩:=qK;have hvs:vy.cells.size=s:=by rw[<-hlen,<- hr.len];simp
   have h1:=RL.yv hr hac;cases x with
   |ptr id' off=>
    simp only at hs;split at hs
    .rename_i cells hcells;split at hs
     .rename_i cells' qu;simp only[bc,asF,asG]at hs;obtain⟨rfl,rfl⟩:=hs;have cy:=h.obj id';rw[hcells]at cy;obtain⟨b,vs,bt,hρ,hg,hrc⟩:=cy;simp only[R,hρ]at hx;subst hx;have dF:(ρ id').has b:=by rw[hρ];rfl
      have amW:=RL.oo hrc hr qu;rcases amW with ⟨h5,h6⟩|⟨rfl,rfl⟩
      .refine⟨w.setRow b (vs.take off++vy.cells.toList++vs.drop (off+vy.cells.toList.length)).toArray,?_,h.write (t:=bt) dF hg ?_,nf dF⟩
       .simp only[aM,aO,storeVar,a6,aZ,aX,iy hsz,hvs,ne_eq,not_true_eq_false,ic];rw[run_storeCells_at P b off bt vy.cells.toList 0 (AS vs) w hg (by simpa using h6) h1];simp
       exact⟨b,_,bt,hρ,setRow_heap _ _ _ _ _ _ hg,RL.later _ _ _ _ (nf dF) h5⟩
      simp at hlen;omega
     cases hs
    cases hs
   |ap id' i=>
    simp only at hs;split at hs
    .rename_i cells hcells;split at hs
     .rename_i k v l hint;split at hs
      .rename_i hk;simp only[bd,bc]at hs;split at hs
       .rename_i hin;simp only[dN]at hin;simp only[asF,asG]at hs;obtain⟨rfl,rfl⟩:=hs;have cy:=h.obj id';rw[hcells]at cy;obtain⟨b,vs,bt,hρ,hg,hrc⟩:=cy;simp only[R,hρ]at hx;subst hx;have dF:(ρ id').has b:=by rw[hρ];rfl
        have LR:=B0 hrc hint;rw[<-hk]at LR;have I6:vy.cells.toList=[.int k v]:=by
         simp only[RL]at hr;obtain⟨u,us,hu,h2,h3⟩:=hr;simp only[R]at h2;subst h2;rw[hu,h3]
        have arN:vs.length=l.length:=by rw[LR];simp
        refine⟨w.setRow b (vs.take i++vy.cells.toList++vs.drop (i+vy.cells.toList.length)).toArray,?_,h.write (t:=bt) dF hg ?_,nf dF⟩
        .simp only[aM,aO,storeVar,a6,aZ,aX,iy hsz,hvs,ne_eq,not_true_eq_false,ic];rw[run_storeCells_at P b i bt vy.cells.toList 0 (AS vs) w hg (by rw[I6];simp;omega) h1];simp
        refine⟨b,_,bt,hρ,setRow_heap _ _ _ _ _ _ hg,?_⟩;rw[I6,LR,amt k i v l hin,J5,bS (asx _),Nat.sub_zero];exact F4 _
       cases hs
      cases hs
     cases hs
    .rename_i te e c n len el k x0 uF;split at hs
     .rename_i x;simp only[bd,bc]at hs;split at hs
      .rename_i hin;simp only[dN]at hin;subst hin;simp only[asF,asG]at hs;obtain⟨rfl,rfl⟩:=hs;have cy:=h.obj id';rw[uF]at cy;obtain⟨rv,us,vs,hρ,⟨⟨⟨hul,hrow⟩,h2⟩,⟨h3,h3'⟩,h4,h5⟩,hh⟩:=cy;obtain⟨_,u0,pR,_⟩:=hh i x0 rfl;have LS:i<us.length:=(br.1 pR).1;simp only[R,hρ]at hx;obtain⟨b,o,N,cp,gR,rfl⟩:=hx;rcases hrow with ⟨rfl,_⟩|⟨g,o',cap,cur,hv,⟨fz,hg,hz⟩,hnc,ki,qM,htk⟩
       .rw[hul]at LS;omega
       rw[gR]at hv;simp only[bh,asF,Addr.mk.injEq]at hv;obtain⟨⟨rfl,rfl,_⟩,rfl,rfl⟩:=hv;have Gc:eQ rv=some b:=by rw[gR];rfl
       have dF:(ρ id').has b:=by rw[hρ];exact .inl Gc
       obtain⟨y,hy,hry⟩:∃ y,vy.cells.toList=[y]/\R w (Ow X ρ) x ρ y:=by
        simp only[RL]at hr;obtain⟨u,F2,hu,h6,h7⟩:=hr;exact⟨u,by rw[hu,h7],h6⟩
       have Vv:yG x=true:=by
        simp only[uy,al]at hac;exact hac.1
       have VO:y.oneCell'=true:=h1 y (by rw[hy];simp);simp only[asi]at hul htk qM;have LU:o+N<=cur.size:=by omega
       refine⟨w.setRow b (jV cur.toList (o+i) vy.cells.toList).toArray,?_,h.write (t:=te) dF hg ?_,nf dF⟩
       .simp only[aM,aO,storeVar,a6,aZ,aX,iy hsz,hvs,ne_eq,not_true_eq_false,ic];rw[wg P b (o+i) te fz vy.cells.toList 0 cur w hg (vL hz) (by rw[hy];simp;omega) h1];simp[jV]
       have LV:vy.cells.toList.length=1:=by rw[hy];rfl
       have qu:jV us i [y]=us.set i y:=by
        apply ar3;intro k;rw[tj _ _ _ _ (by simp;omega),ar2];by_cases hk:i=k
        .subst hk;rw[bS (by simp),bS rfl,bS LS,Nat.sub_self];rfl
        rw[bQ (by simp;omega),bQ hk]
       refine⟨rv,us.set i y,vs,hρ,⟨⟨⟨by simp;omega,.inr ⟨b,o,cap,_,gR,⟨fz,setRow_heap _ _ _ _ _ _ hg,by rw[bq,qL _ _ _ (by rw[LV,aa];omega),aa];exact hz⟩,hnc,ki,?_,?_⟩⟩,?_⟩,⟨by simpa using h3,λq hq=>?_⟩,λq u hu hq=>?_,h5⟩,λq a VP=>?_⟩
       .simp only[bq];rw[qL _ _ _ (by rw[LV,aa];omega),aa,qM];omega
       .simp only[asi];rw[Gb _ _ _ _ (by rw[aa];omega),Ga _ _ _ _ (by rw[LV];omega) (by rw[bx,aa];omega),htk,hy,qu]
       .intro u hu;rcases List.mem_or_eq_of_mem_set hu with h6|h6
        .exact h2 u h6
        rw[h6];exact VO
       .have:i≠q:=by rintro rfl;exact hq rfl
        rw[List.getElem?_set_ne this];exact h3' q hq
       .obtain⟨xs,h6,h7,h8⟩:=h4 q u hu hq;refine⟨xs,LJ (λb' hb'=>setRow_other _ _ _ _ (λe=>?_)) h6,h7,λq' nD j hj=>?_⟩
        .exact(h5 q u hu hq b' hb').1 (by rw[Gc,e])
        obtain⟨z,hz1,hz2⟩:=h8 q' nD j hj;exact⟨z,hz1,a8 _ b7 b7 z (nf (X:=X) dF).b7 hz2⟩
       simp only[asF,asG]at VP;obtain⟨rfl,rfl⟩:=VP;exact⟨Vv,y,by rw[ar2,bS rfl,bS LS],a8 _ _ _ _ (nf dF) hry⟩
      cases hs
     cases hs
    cases hs
   |rp id' c i off=>
    simp only at hs;split at hs
    .rename_i e c' n el hrow;split at hs
     .rename_i hc2;obtain⟨rfl,hoff,hcl⟩:=hc2;simp only[oV,bd,bc]at hs;split at hs
      .rename_i hin;simp only[dN]at hin;simp only[asF,asG]at hs;obtain⟨rfl,rfl⟩:=hs;have cy:=h.obj id';rw[hrow]at cy;obtain⟨rv,xs,hρ,hown,hxs,hel⟩:=cy;obtain⟨hxl,hh⟩:=hown;rcases hh with ⟨rfl,_⟩|⟨g,o,cap,cur,rfl,⟨fz,hg,hz⟩,hnc,ki,qM,htk⟩
       .omega
       simp only[R,hρ]at hx;obtain⟨ad,n',cap',hv',rfl⟩:=hx;simp only[bh,asF]at hv';obtain⟨rfl,_,_⟩:=hv';have dF:(ρ id').has g:=by rw[hρ];rfl
       have hvl:vy.cells.toList.length=s:=by simpa using hvs
       have hfit:i*c+off+s<=n*c:=by
        calc i*c+off+s<=i*c+c:=by omega
         _=(i+1)*c:=by rw[ase]
         _<=n*c:=asb c hin
       have LU:o+n*c<=cur.size:=by rw[qM];exact asm (asb c hnc) o
       refine⟨w.setRow g (jV cur.toList (o+(i*c+off)) vy.cells.toList).toArray,?_,h.write (t:=e) dF hg ?_,nf dF⟩
       .simp only[aM,aO,storeVar,a6,aZ,aX,iy hsz,hvs,ne_eq,not_true_eq_false,ic,na];rw[wg P g (o+(i*c+off)) e fz vy.cells.toList 0 cur w hg (vL hz) (by rw[hvl];omega) h1];simp[jV]
       have B7:=(ba (w:=w) (O:=Ow X ρ) (ρ:=ρ) b7 5).2 cs _ hcl hr;refine⟨_,jV xs (i*c+off) vy.cells.toList,hρ,⟨?_,.inr ⟨g,o,cap,_,rfl,⟨fz,setRow_heap _ _ _ _ _ _ hg,by rw[bq,qL _ _ _ (by rw[hvl,aa];omega),aa];exact hz⟩,hnc,ki,?_,?_⟩⟩,?_,λq hq j hj=>?_⟩
       .rw[qL _ _ _ (by rw[hvl];omega),hxl]
       .simp only[bq];rw[qL _ _ _ (by rw[hvl,aa];omega),aa,qM]
       .simp only[];rw[Gb _ _ _ _ (by rw[aa];omega),Ga _ _ _ _ (by rw[hvl];omega) (by rw[bx,aa];omega),htk]
       .intro u hu;rcases LQ hu with h2|h2
        .exact hxs u h2
        exact h1 u h2
       by_cases nD:q=i/\off<=j/\j<off+s
       .obtain⟨rfl,ho1,LW⟩:=nD;have hlt:j-off<vy.cells.toList.length:=by omega
        refine⟨vy.cells.toList[j-off],?_,?_⟩
        .rw[tj _ _ _ _ (by rw[hvl];omega),bS (by omega)];rw[show q*c+j-(q*c+off)=j-off by omega];exact bl hlt
        simp only[ho1,LW,and_self,iI];exact a8 _ b7 b7 _ (nf (X:=X) dF).b7 (B7.get _ _ (bl hlt))
       obtain⟨u,hu,ij⟩:=hel q hq j hj;refine⟨u,?_,?_⟩
       .rw[tj _ _ _ _ (by rw[hvl];omega),bQ,hu];rintro⟨h7,h8⟩;apply nD;rw[hvl]at h8;have:q=i:=by
         rcases asz q i with hlt|heq|hgt
         .have:(q+1)*c<=i*c:=asb c hlt;rw[ase]at this;omega
         .exact heq
         have:(i+1)*c<=q*c:=asb c hgt;rw[ase]at this;omega
        subst this;exact⟨rfl,by omega,by omega⟩
       simp only[nD,ic];exact a8 _ b7 b7 _ (nf (X:=X) dF).b7 ij
      cases hs
     cases hs
    cases hs
   |_=>cases hs
  cases hs
 cases hs
theorem amX(z:Array aq)(n c:Nat)(hz:z.size=c)(hc:0<c)(k:Nat)(hk:k<n*c):(aF z n).toList[k]? =z.toList[k%c]?:=by
 have amS:k%c<c:=asv _ hc;have hlt:k%c<z.size:=by omega
 simp only[aF,ak,bD,aj,hz,ar0 hk,asE];rw[getElem!_pos z _ hlt];simp[hlt]
theorem amY{P:ar}{t ty:au}{x:A}{vx:aq}{id:Nat}{ob:Ob}(h:Rel w0 X st a w ρ)(hx:R w (Ow X ρ) x ρ vx)
  (hs:(BI P st.bR t x).eval=some (id,ob)):∃ w',(aK #[t] ty #[vx]).run P w= .ok (.tuple #[]) w'/\Rel w0 X ⟨st.tmps,cM st.bR id ob⟩ a w' ρ/\dz w w' (Ow X ρ) (Ow X ρ) ρ ρ:=by
 unfold BI at hs;split at hs
 .rename_i e hu;split at hs
  .rename_i z hz;split at hs
   .rename_i id' c lo n;split at hs
    .rename_i e' c' m el hrow;split at hs
     .rename_i qK;obtain⟨rfl,hzl,hc0,LN,LO⟩:=qK;simp only[bd,bc]at hs;split at hs
      .rename_i hn;simp only[dN]at hn;simp only[asF,asG]at hs;obtain⟨rfl,rfl⟩:=hs;have cy:=h.obj id';rw[hrow]at cy;obtain⟨rv,xs,hρ,hown,hxs,hel⟩:=cy;obtain⟨hxl,hh⟩:=hown;simp only[R,hρ]at hx;obtain⟨a0,N,arO,a',hv',VQ,rfl,_,had,_⟩:=hx;obtain⟨ad,rfl,rfl⟩:=had hn;rcases hh with ⟨rfl,b,rfl⟩|⟨g,o,cap,cur,rfl,⟨fz,hg,hfz⟩,hnc,ki,qM,htk⟩
       .simp only[bh]at hv';omega
       simp only[bh,asF]at hv';obtain⟨rfl,rfl,rfl⟩:=hv';obtain⟨i,zv,hi,pQ,hr⟩:=uI (w:=w) (O:=Ow X ρ) (ρ:=ρ) hz;have hzs:zv.cells.size=c:=by rw[<-hzl,<- hr.len];simp
       have dF:(ρ id').has g:=by rw[hρ];rfl
       have hvl:(aF zv.cells n).toList.length=n*c:=by simp[aF,hzs]
       have hfit:lo*c+n*c<=m*c:=by rw[<-asd];exact asb c VQ
       have LU:o+m*c<=cur.size:=by rw[qM];exact asm (asb c hnc) o
       have hget:∀ k,k<n*c->(aF zv.cells n).toList[k]? =zv.cells.toList[k%c]?:=amX _ _ _ hzs hc0;have h1:∀ u∈(aF zv.cells n).toList,u.oneCell'=true:=by
        intro u hu;obtain⟨k,hk,rfl⟩:=bz hu;have:=hget k (by rw[<-hvl];exact hk);rw[bl hk]at this;exact RL.yv hr LO _ (bw this.symm)
       obtain⟨n',rfl⟩:∃ n',n=n'+1:=⟨n-1,by omega⟩;refine⟨w.setRow g (jV cur.toList (o+lo*c) (aF zv.cells (n'+1)).toList).toArray,?_,h.write (t:=e') dF hg ?_,nf dF⟩
       .simp only[aK,List.getElem?_toArray,List.getElem?_cons_zero,a6,run_underlying hu,aX,zeroValue,typeInfo,run_program,hi,pQ,aZ,na];rw[wg P g (o+lo*c) e' fz _ 0 cur w hg (vL hfz) (by rw[hvl];omega) h1];simp[jV]
       have B7:=(ba (w:=w) (O:=Ow X ρ) (ρ:=ρ) b7 5).2 z _ LN hr;refine⟨_,jV xs (lo*c) (aF zv.cells (n'+1)).toList,hρ,⟨?_,.inr ⟨g,o,cap,_,rfl,⟨fz,setRow_heap _ _ _ _ _ _ hg,by rw[bq,qL _ _ _ (by rw[hvl,aa];omega),aa];exact hfz⟩,hnc,ki,?_,?_⟩⟩,?_,λq hq j hj=>?_⟩
       .rw[qL _ _ _ (by rw[hvl];omega),hxl]
       .simp only[bq];rw[qL _ _ _ (by rw[hvl,aa];omega),aa,qM]
       .simp only[];rw[Gb _ _ _ _ (by rw[aa];omega),Ga _ _ _ _ (by rw[hvl];omega) (by rw[bx,aa];omega),htk]
       .intro u hu;rcases LQ hu with h2|h2
        .exact hxs u h2
        exact h1 u h2
       by_cases nD:lo<=q/\q<lo+(n'+1)
       .have hk:(q-lo)*c+j<(n'+1)*c:=by
         calc (q-lo)*c+j<(q-lo)*c+c:=by omega
          _=(q-lo+1)*c:=by rw[ase]
          _<=(n'+1)*c:=asb c (by omega)
        have hqe:q*c=lo*c+(q-lo)*c:=by rw[<-asd];congr 1;omega
        have VR:j<zv.cells.toList.length:=by simp[hzs];exact hj
        refine⟨zv.cells.toList[j],?_,?_⟩
        .rw[tj _ _ _ _ (by rw[hvl];omega),bS (by rw[hvl];omega),show q*c+j-lo*c=(q-lo)*c+j by omega,hget _ hk];rw[show((q-lo)*c+j)%c=j by rw[asl,ast,asp hj]];exact bl VR
        simp only[nD,and_self,iI];exact a8 _ b7 b7 _ (nf (X:=X) dF).b7 (B7.get _ _ (bl VR))
       obtain⟨u,gN,ij⟩:=hel q hq j hj;refine⟨u,?_,?_⟩
       .rw[tj _ _ _ _ (by rw[hvl];omega),bQ,gN];rw[hvl];rintro⟨h7,h8⟩;apply nD;constructor
        .rcases asf q lo with hlt|hge
         .have:(q+1)*c<=lo*c:=asb c hlt;rw[ase]at this;omega
         exact hge
        rcases asf q (lo+(n'+1))with hlt|hge
        .exact hlt
        have:(lo+(n'+1))*c<=q*c:=asb c hge;rw[asd]at this;omega
       simp only[nD,ic];exact a8 _ b7 b7 _ (nf (X:=X) dF).b7 ij
      cases hs
     cases hs
    cases hs
   cases hs
  cases hs
 cases hs
theorem LX{i n c j:Nat}(hi:i<n)(hj:j<c):i*c+j<n*c:=by
 have:(i+1)*c<=n*c:=asb c hi;rw[ase]at this;omega
theorem VS{bR:List Ob}{c m:Nat}{y:A}{vy:aq}{ey:Nat->Nat->A}{O:Nat->Prop}(cy:nc w O ρ bR)(hy:R w O y ρ vy)(h:rowOf bR c y=some (m,ey))(hc:0<c)(yX:∀ b,y≠ .str b):
  ∃(s:Option aD) (cap:Nat) (news:List aq),vy= .slice s m cap/\news.length=m*c/\(∀u∈news,u.oneCell'=true)/\(∀i,i<m-> ∀j,j<c-> ∃u,news[i*c+j]? =some u/\R w O (ey i j) b7 u)/\
   (s=none->m=0)/\(∀ad,s=some ad-> ∀j u,news[j]? =some u->w.cell? (ad.add j)=some u):=by
 cases y with
 |bN=>
  simp only[rowOf,asF,asG]at h;obtain⟨rfl,rfl⟩:=h;simp only[R]at hy;subst hy;exact⟨none,0,[],rfl,by simp,by simp,λi hi=>by omega,λ_=>rfl,λad h j u hu=>by simp at hu⟩
 |sl c' n el=>
  simp only[rowOf]at h;split at h
  .rename_i lx;subst lx;simp only[asF,asG]at h;obtain⟨rfl,rfl⟩:=h;simp only[R]at hy;obtain⟨s,cap,rfl,h1,h2,h3⟩:=hy;rcases ash n with hn|hn
   .subst hn;exact⟨s,cap,[],rfl,by simp,by simp,λi hi=>by omega,λ_=>rfl,λad _ j u hu=>by simp at hu⟩
   obtain⟨ad,rfl,him,hcell⟩:=h3 (asD hn hc);obtain⟨news,hl,hv⟩:=LC (n*c') (λk u=>w.cell? (ad.add k)=some u/\u.oneCell'=true/\R w O (el (k/c') (k%c')) b7 u) (λk hk=>by
    obtain⟨u,hu,h1,hr⟩:=hcell (k/c') (Nat.div_lt_of_lt_mul (by rw[asl];exact hk)) (k%c') (asv _ hc);refine⟨u,?_,h1,hr⟩;rw[asl,Nat.div_add_mod]at hu;exact hu)
   refine⟨some ad,cap,news,rfl,hl,λu hu=>?_,λi hi j hj=>?_,(λh=>by cases h),λad' h j u hu=>?_⟩
   .obtain⟨k,hk,rfl⟩:=bz hu;exact(hv k _ (bl hk)).2.1
   .have hlt:i*c'+j<news.length:=by
     rw[hl]
     calc i*c'+j<i*c'+c':=by omega
      _=(i+1)*c':=by rw[ase]
      _<=n*c':=asb c' hi
    refine⟨news[i*c'+j],bl hlt,?_⟩;have:=(hv _ _ (bl hlt)).2.2;rwa[show(i*c'+j)/c'=i by rw[asl,Nat.mul_add_div hc,Nat.div_eq_of_lt hj];rfl,show(i*c'+j)%c'=j by rw[asl,ast,asp hj]]at this
   cases h;exact(hv j u hu).1
  cases h
 |own id=>
  simp only[rowOf]at h;split at h
  .rename_i e c' n el hrow;split at h
   .rename_i lx;subst lx;simp only[asF,asG]at h;obtain⟨rfl,rfl⟩:=h;rcases cy id with hd|eZ
    .rw[hrow]at hd;cases hd
    rw[hrow]at eZ;obtain⟨rv,xs,hρ,hown,hxs,hel⟩:=eZ;simp only[R,hρ]at hy;obtain⟨rfl,_⟩:=hy;rcases ash n with hn|hn
    .subst hn;have hx0:xs=[]:=bn (by simpa using hown.1);subst hx0;rcases hown.2 with ⟨_,s,rfl⟩|⟨g,o,cap,cur,rfl,_⟩
     .exact⟨s,0,[],rfl,by simp,by simp,λi hi=>by omega,λ_=>rfl,λad h j u hu=>by simp at hu⟩
     exact⟨_,cap+1,[],rfl,by simp,by simp,λi hi=>by omega,λ_=>rfl,λad _ j u hu=>by simp at hu⟩
    obtain⟨g,o,cap,rfl,_,_,hcell⟩:=qI hown hn;refine⟨_,cap+1,xs,rfl,hown.1,hxs,hel,(λh=>by cases h),λad h j u hu=>?_⟩;cases h;exact hcell j u hu
   cases h
  cases h
 |ov id c0 lo n=>
  simp only[rowOf]at h;split at h
  .rename_i e c' N el hrow;split at h
   .rename_i lx;obtain⟨rfl,rfl⟩:=lx;simp only[asF,asG]at h;obtain⟨rfl,rfl⟩:=h;rcases cy id with hd|eZ
    .rw[hrow]at hd;cases hd
    rw[hrow]at eZ;obtain⟨rv,xs,hρ,hown,hxs,hel⟩:=eZ;simp only[R,hρ]at hy;obtain⟨a,N',cap,a',h1,h2,rfl,h4,h5,_⟩:=hy;rcases ash n with hn|hn
    .subst hn;exact⟨a',_,[],rfl,by simp,by simp,λi hi=>by omega,λ_=>rfl,λad _ j u hu=>by simp at hu⟩
    have hN:N'=N:=by
     rcases hown.2 with ⟨h7,b,hv⟩|⟨g,o,cp,cur,hv,_⟩<;>(rw[h1]at hv;simp only[bh]at hv;omega)
    subst hN;obtain⟨g,o,cp,hv,_,_,hcell⟩:=qI hown (by omega);rw[h1]at hv;simp only[bh]at hv;obtain⟨rfl,_,_⟩:=hv;obtain⟨ad,had,rfl⟩:=h5 hn;cases had;have hsz:lo*c'+n*c'<=xs.length:=by rw[hown.1,<- asd];exact asb c' h2
    refine⟨_,_,(xs.drop (lo*c')).take (n*c'),rfl,by rw[bu,bx];omega,λu hu=>hxs u (AT (bE hu)),λi hi j hj=>?_,(λh=>by cases h),λad h j u hu=>?_⟩
    .obtain⟨u,hu,hr⟩:=hel (lo+i) (by omega) j hj;refine⟨u,?_,hr⟩;rw[bp (LX hi hj),bJ,<- asj,<- asd];exact hu
    cases h;have hj:j<n*c':=by
     rcases asf j (n*c')with h8|h8
     .exact h8
     rw[bG (by rw[bu];omega)]at hu;cases hu
    rw[bp hj,bJ]at hu;rw[add_add];exact hcell _ _ hu
   cases h
  cases h
 |str b=>exact(yX b rfl).elim
 |_=>simp[rowOf]at h
theorem LY(k:IntKind)(m:Nat)(ey:Nat->Nat->A):∀ (l:List Int) (j:Nat),BJ k m ey j l=((bL l.length).map λi=>A.int k (if j+i<m then oP (ey (j+i) 0)else l.getD i 0))
 |[],j=>rfl
 |n::l,j=>by
  rw[BJ,LY k m ey l (j+1),List.length_cons,List.range_succ_eq_map,List.map_cons,adv];congr 1;apply arc;intro i _;simp only[Function.comp,Nat.succ_eq_add_one];rw[show j+1+i=j+(i+1) by omega];simp[IS]
theorem VT{f:Nat->Bool}:∀ {n i:Nat},oQ f n=true->i<n->f i=true
 |0,i,_,h=>by omega
 |n+1,i,h,hi=>by
  simp only[oQ,al]at h;by_cases e:i=n
  .rw[e];exact h.2
  exact VT h.1 (by omega)
theorem amZ{k:IntKind}{a:A}(h:K8 k a=true):a= .int k (oP a):=by
 cases a with
 |int k' n=>
  simp only[K8]at h;split at h
  .rename_i e;subst e;rfl
  cases h
 |_=>cases h
theorem am0(h:Rel w0 X st a w ρ):nc w (Ow X ρ) ρ st.bR:=λid=>.inr (h.obj id)
theorem LZ{O:Nat->Prop}(b:ByteArray):∀ i,i<b.size-> ∀j,j<1-> ∃u,(byteCells b)[i*1+j]? =some u/\R w O (BH b i j) b7 u:=by
 intro i hi j hj;obtain rfl:j=0:=by omega
 have hi':i<b.data.toList.length:=by rw[aa];exact hi
 refine⟨.int .u8 (b.data.toList[i].toNat:Int),?_,?_⟩
 .simp only[asi,ass,byteCells,bD,bl hi',asE]
 simp only[BH,R];rw[IS,bl hi'];rfl
theorem am1{P:ar}{t t':au}{bR:List Ob}{c m:Nat}{y:A}{vy:aq}{ey:Nat->Nat->A}{O:Nat->Prop}(cy:nc w O ρ bR)(hy:R w O y ρ vy)(h:rowOf bR c y=some (m,ey))(hc:0<c):
  ∃news:List aq,news.length=m*c/\(∀u∈news,u.oneCell'=true)/\(∀i,i<m-> ∀j,j<c-> ∃u,news[i*c+j]? =some u/\R w O (ey i j) b7 u)/\(Builtin.lenOf vy).run P w= .ok m w/\
   ∀k,k<=m->(aG c k vy).run P w= .ok (news.take (k*c)).toArray w:=by
 by_cases B8:∃ b,y= .str b
 .obtain⟨b,rfl⟩:=B8;simp only[rowOf]at h;split at h
  .rename_i B9;subst B9;simp only[asF,asG]at h;obtain⟨rfl,rfl⟩:=h;simp only[R]at hy;subst hy;refine⟨byteCells b,by rw[byteCells_length,asi],λu hu=>?_,LZ b,rfl,λk hk=>?_⟩
   .simp only[byteCells,acK]at hu;obtain⟨_,_,rfl⟩:=hu;rfl
   simp only[aG,aZ,asi];congr 1;apply Array.ext';simp[byteCells,ByteArray.data_extract,List.map_take]
  cases h
 have yX:∀ b,y≠ .str b:=λb e=>B8 ⟨b,e⟩;obtain⟨s,cap,news,rfl,hl,h1,hel,hnone,hcell⟩:=VS cy hy h hc yX;refine⟨news,hl,h1,hel,rfl,λk hk=>?_⟩;cases s with
 |none=>
  have hm:=hnone rfl;subst hm;have:news=[]:=bn (by simpa using hl);subst this;simp[aG]
 |some ad=>
  refine run_firstCells_some w c k ad m cap (news.take (k*c)) (by rw[bu,hl];exact asu (asb c hk)) λj u hu=>?_;have hj:j<k*c:=by
   rcases asf j (k*c)with h8|h8
   .exact h8
   rw[bG (by rw[bu];omega)]at hu;cases hu
  rw[bp hj]at hu;exact hcell ad rfl j u hu
theorem VU{P:ar}{t t' ty:au}{x y:A}{vx vy:aq}{id q:Nat}{ob:Ob}(h:Rel w0 X st a w ρ)(hx:R w (Ow X ρ) x ρ vx)(hy:R w (Ow X ρ) y ρ vy)
  (hs:(FJ P st.bR t t' x y).eval=some (id,ob,q)):∃ w',(aI #[t,t'] ty #[vx,vy]).run P w= .ok (goInt (q:Nat)) w'/\Rel w0 X ⟨st.tmps,cM st.bR id ob⟩ a w' ρ/\dz w w' (Ow X ρ) (Ow X ρ) ρ ρ:=by
 unfold FJ at hs;split at hs
 case h_2=>cases hs
 rename_i e hok hu;split at hs
 case h_2=>cases hs
 rename_i s id' lo n Ge gj;split at hs
 case h_2=>cases hs
 rename_i m ey e' c N el hrow tl;split at hs
 case isFalse=>cases hs
 rename_i hc;obtain⟨rfl,hc0,rfl⟩:=hc;simp only[bc,asF,asG]at hs;obtain⟨rfl,rfl,rfl⟩:=hs;obtain⟨news,hnl,Ca,L0,hlen,am2⟩:=am1 (P:=P) (t:=t) (t':=t') (am0 h) hy hrow hc0;have cy:=h.obj id';rw[tl]at cy;obtain⟨rv,xs,hρ,hown,hxs,hel⟩:=cy;have iZ:∃ a' n' cap',vx= .slice a' n' cap'/\n'=n/\lo+n<=N/\(0<n-> ∀g o cp,rv= .slice (some ⟨g,o,none⟩) N (cp+1)->a'=some ((⟨g,o,none⟩:aD).add (lo*c))):=by
  cases x with
  |own j=>
   simp only[K9]at gj;split at gj
   .rename_i e2 c2 n2 VV hg2;simp only[asF,asG]at gj;obtain⟨rfl,rfl,rfl⟩:=gj;rw[tl]at hg2;simp only[Ob.row.injEq]at hg2;obtain⟨_,_,rfl,_⟩:=hg2;simp only[R,hρ]at hx;obtain⟨rfl,_⟩:=hx;rcases hown.2 with ⟨hn0,a0,rfl⟩|⟨g,o,cp,cur,rfl,_⟩
    .exact⟨_,_,_,rfl,hn0.symm,by omega,λhp=>by omega⟩
    refine⟨_,_,_,rfl,rfl,by omega,λ_ g' o' cp' hv=>?_⟩;simp only[bh,asF]at hv;rw[hv.1,asA,add_zero]
   cases gj
  |ov j c0 lo' n'=>
   simp only[K9]at gj;split at gj
   case h_2=>cases gj
   rename_i e2 c2 n2 VV hg2;split at gj
   case isFalse=>cases gj
   rename_i lx;subst lx;simp only[asF,asG]at gj;obtain⟨rfl,rfl,rfl⟩:=gj;rw[tl]at hg2;simp only[Ob.row.injEq]at hg2;obtain⟨_,rfl,_,_⟩:=hg2;simp only[R,hρ]at hx;obtain⟨a0,N',cap,a',rfl,h2,rfl,h4,h5,_⟩:=hx;have hN:N'=N:=by
    rcases hown.2 with ⟨h7,b,hv⟩|⟨g,o,cp,cur,hv,_⟩<;>(simp only[bh]at hv;omega)
   subst hN;refine⟨_,_,_,rfl,rfl,h2,λhp g o cp hv=>?_⟩;obtain⟨ad,rfl,rfl⟩:=h5 hp;simp only[bh,asF]at hv;obtain⟨rfl,_⟩:=hv;rfl
  |_=>cases gj
 obtain⟨a',n',cap',rfl,rfl,VQ,am3⟩:=iZ;have hk:min m n'<=m:=Nat.min_le_left _ _;have hrun:∀ w',(match a' with|some a=>(storeCells a (news.take (min m n'*c)) 0).run P w|none=>.ok () w)= .ok () w'->(aI #[t,t'] ty #[.slice a' n' cap',vy]).run P w= .ok (goInt ((min m n':Nat):Int)) w':=by
  intro w' hw';have hf:=am2 (min m n') hk;cases a' with
  |none=>
   simp only at hw';cases hw';simp[aI,run_underlying hu,hlen,iy Ge,hf]
  |some ad=>
   simp only at hw';simp[aI,run_underlying hu,hlen,iy Ge,hf,hw']
 by_cases hk0:min m n'=0
 .refine⟨w,hrun w (by rw[hk0];cases a'<;>simp[storeCells]),?_,⟨asc _,λ_ _ _=>rfl,λ_ _ h=>h,λ_=>.inl rfl⟩⟩;refine⟨h.len,h.tmp,λi=>?_,h.dJ,h.kept,h.new,h.fu,h.jM⟩;simp only[ef];by_cases hi:i=id'
  .subst hi;rw[bS rfl];refine⟨rv,xs,hρ,hown,hxs,λq hq j hj=>?_⟩;obtain⟨u,gN,gb⟩:=hel q hq j hj;refine⟨u,gN,?_⟩;show R w (Ow X ρ) (if lo<=q/\q<lo+min m n' then ey (q-lo) j else el q j) b7 u;rw[bQ (by omega)];exact gb
  rw[bQ hi];exact h.obj i
 have hn0:0<n':=by omega
 obtain⟨hxl,hh⟩:=hown;rcases hh with ⟨rfl,b,rfl⟩|⟨g,o,cap,cur,rfl,⟨fz,hg,hfz⟩,hnc,ki,qM,htk⟩
 .omega
 have had:=am3 hn0 g o cap rfl;subst had;have dF:(ρ id').has g:=by rw[hρ];rfl
 have hvl:(news.take (min m n'*c)).length=min m n'*c:=by rw[bu,hnl];exact asu (asb c hk)
 have hfit:lo*c+min m n'*c<=N*c:=by rw[<-asd];exact asb c (by omega)
 have LU:o+N*c<=cur.size:=by rw[qM];exact asm (asb c hnc) o
 have h1:∀ u∈news.take (min m n'*c),u.oneCell'=true:=λu gN=>Ca u (bE gN);refine⟨w.setRow g (jV cur.toList (o+lo*c) (news.take (min m n'*c))).toArray,hrun _ ?_,h.write (t:=e') dF hg ?_,nf dF⟩
 .simp only[na];rw[wg P g (o+lo*c) e' fz _ 0 cur w hg (vL hfz) (by rw[hvl];omega) h1];simp[jV]
 refine⟨_,jV xs (lo*c) (news.take (min m n'*c)),hρ,⟨?_,.inr ⟨g,o,cap,_,rfl,⟨fz,setRow_heap _ _ _ _ _ _ hg,by rw[bq,qL _ _ _ (by rw[hvl,aa];omega),aa];exact hfz⟩,hnc,ki,?_,?_⟩⟩,?_,λq hq j hj=>?_⟩
 .rw[qL _ _ _ (by rw[hvl];omega),hxl]
 .simp only[bq];rw[qL _ _ _ (by rw[hvl,aa];omega),aa,qM]
 .simp only[];rw[Gb _ _ _ _ (by rw[aa];omega),Ga _ _ _ _ (by rw[hvl];omega) (by rw[bx,aa];omega),htk]
 .intro u gN;rcases LQ gN with h2|h2
  .exact hxs u h2
  exact h1 u h2
 by_cases nD:lo<=q/\q<lo+min m n'
 .have hkk:(q-lo)*c+j<min m n'*c:=LX (by omega) hj;have hqe:q*c=lo*c+(q-lo)*c:=by rw[<-asd];congr 1;omega
  obtain⟨u,gN,gb⟩:=L0 (q-lo) (by omega) j hj;refine⟨u,?_,?_⟩
  .rw[tj _ _ _ _ (by rw[hvl];omega),bS (by rw[hvl];omega),show q*c+j-lo*c=(q-lo)*c+j by omega,bp hkk];exact gN
  simp only[nD,and_self,iI];exact a8 _ b7 b7 _ (nf (X:=X) dF).b7 gb
 obtain⟨u,gN,ij⟩:=hel q hq j hj;refine⟨u,?_,?_⟩
 .rw[tj _ _ _ _ (by rw[hvl];omega),bQ,gN];rw[hvl];rintro⟨h7,h8⟩;apply nD;constructor
  .rcases asf q lo with hlt|hge
   .have:(q+1)*c<=lo*c:=asb c hlt;rw[ase]at this;omega
   exact hge
  rcases asf q (lo+min m n')with hlt|hge
  .exact hlt
  have:(lo+min m n')*c<=q*c:=asb c hge;rw[asd]at this;omega
 simp only[nD,ic];exact a8 _ b7 b7 _ (nf (X:=X) dF).b7 ij
theorem am4{P:ar}{t t' ty:au}{x y:A}{vx vy:aq}{id q:Nat}{ob:Ob}(h:Rel w0 X st a w ρ)(hx:R w (Ow X ρ) x ρ vx)(hy:R w (Ow X ρ) y ρ vy)
  (hs:(BK P st.bR t t' x y).eval=some (id,ob,q)):∃ w',(aI #[t,t'] ty #[vx,vy]).run P w= .ok (goInt (q:Nat)) w'/\Rel w0 X ⟨st.tmps,cM st.bR id ob⟩ a w' ρ/\dz w w' (Ow X ρ) (Ow X ρ) ρ ρ:=by
 unfold BK at hs;split at hs
 .rename_i e e' id' c lo n c' m ey hu gN;split at hs
  .rename_i cells s s' hcells Ge arP;split at hs
   .rename_i l hint;split at hs
    .rename_i hc;obtain⟨rfl,rfl,rfl,rfl,rfl,hln⟩:=hc;simp only[bd,bc]at hs;split at hs
     .rename_i hall;simp only[asF,asG]at hs;obtain⟨rfl,rfl,rfl⟩:=hs;have cy:=h.obj id';rw[hcells]at cy;obtain⟨b,vs,bt,hρ,hg,hrc⟩:=cy;have hvs:=B0 hrc hint;have dF:(ρ id').has b:=by rw[hρ];rfl
      simp only[R,hρ]at hx;obtain⟨cap,rfl,h1,h2⟩:=hx;have hsz:(P.info? e).map (·.size)=some 1:=Ge;simp only[R]at hy;obtain⟨ya,VW,rfl,VO,Cb,hy3⟩:=hy;have hlv:vs.length=n:=by rw[hvs,List.length_map,hln]
      by_cases hmin:Nat.min m n=0
      .have hcp:=run_copy_none (P:=P) w t t' ty e (some ⟨b,0*1,none⟩) ya n cap m VW hu hsz hmin;refine⟨w,by rw[hcp];show _=Result.ok (goInt ((min m n:Nat):Int)) w;rw[show min m n=0 from hmin];rfl,?_,⟨asc _,λ_ _ _=>rfl,λ_ _ h=>h,λ_=>.inl rfl⟩⟩;refine⟨h.len,h.tmp,λi=>?_,h.dJ,h.kept,h.new,h.fu,h.jM⟩;simp only[ef];by_cases hi:i=id'
       .subst hi;rw[bS rfl];refine⟨b,vs,bt,hρ,hg,?_⟩;have:BJ (kindOf cells) m ey 0 l=l.map (A.int (kindOf cells)):=by
         rw[LY];apply ar4
         .simp
         intro i h3 h4;simp only[BY,By,asn];have hi:i<l.length:=by simpa using h4
         rw[bQ (by have:min m n=0:=hmin;omega)];simp[IS,hi]
        rw[this,hvs];exact F4 _
       rw[bQ hi];exact h.obj i
      have hpos:0<m*1:=by have:min m n≠0:=hmin;omega
      obtain⟨ad,rfl,him,hcell⟩:=hy3 hpos;have hcs:∀ j,j<min m n->w.cell? (ad.add j)=some (.int (kindOf cells) (oP (ey j 0))):=by
       intro j hj;obtain⟨u,mF,_,wG⟩:=hcell j (by omega) 0 (by omega);have hk:=amZ (VT hall hj);rw[hk]at wG;simp only[R]at wG;rw[asi,ass,wG]at mF;exact mF
      let cs:List aq:=(bL (min m n)).map λj=>.int (kindOf cells) (oP (ey j 0))
      have hcl:cs.length=min m n:=by simp[cs]
      have hcp:=run_copy_row (P:=P) w t t' ty e b (0*1) n cap ad m VW (AS vs) bt cs hu hsz hg hcl (λj v hv=>by
       have hj:j<min m n:=by have:=(br.1 hv).1;omega
       rw[hcs j hj];simpa[cs,hj]using hv) (by simp[hcl,hlv];omega) (λv hv=>by
       simp only[cs,acK]at hv;obtain⟨j,_,rfl⟩:=hv;rfl)
      rw[hcl]at hcp;refine⟨_,hcp,h.write (t:=bt) dF hg ?_,nf dF⟩;refine⟨b,_,bt,hρ,setRow_heap _ _ _ _ _ _ hg,?_⟩;have e1:(AS vs).toList.take (0*1)++cs++(AS vs).toList.drop (0*1+min m n)=(bL l.length).map λi=>bg (kindOf cells) (if i<m then oP (ey i 0)else l.getD i 0):=by
       simp only[asA,List.take_zero,List.nil_append,asn];apply ar4
       .simp[hcl,hlv,hln];omega
       intro i h3 h4;have hi:i<l.length:=by simpa using h4
       by_cases hlt:i<min m n
       .rw[List.getElem_append_left (by omega)];simp only[cs,BY,By];rw[bS (by omega)]
       rw[List.getElem_append_right (by omega)];simp only[List.getElem_drop,BY,By,hcl,hvs];have e2:min m n+(i-min m n)=i:=by omega
       rw[bQ (by omega)];simp only[e2];simp[IS,hi]
      rw[e1,LY];have ea:((bL l.length).map λi=>A.int (kindOf cells) (if 0+i<m then oP (ey (0+i) 0)else l.getD i 0))=((bL l.length).map λi=>(if i<m then oP (ey i 0)else l.getD i 0)).map (A.int (kindOf cells)):=by
       rw[adv];apply arc;intro i _;simp
      have ev:((bL l.length).map λi=>bg (kindOf cells) (if i<m then oP (ey i 0)else l.getD i 0))=((bL l.length).map λi=>(if i<m then oP (ey i 0)else l.getD i 0)).map (bg (kindOf cells)):=by
       rw[adv];rfl
      rw[ea,ev];exact F4 _
     cases hs
    cases hs
   cases hs
  exact VU h hx hy hs
 exact VU h hx hy hs
theorem am5{P:ar}{t t' e:au}{bR:List Ob}{c m:Nat}{y:A}{vy:aq}{ey:Nat->Nat->A}{O:Nat->Prop}(cy:nc w O ρ bR)(hy:R w O y ρ vy)(ht:P.underlying t=some (.slice e))(hok:yK P t t' y=true)(h:rowOf bR c y=some (m,ey))(hc:0<c):
  ∃news:List aq,Src P c t' vy m news w/\ ∀i,i<m-> ∀j,j<c-> ∃u,news[i*c+j]? =some u/\R w O (ey i j) b7 u:=by
 by_cases B8:∃ b,y= .str b
 .obtain⟨b,rfl⟩:=B8;simp only[rowOf]at h;split at h
  .rename_i B9;subst B9;simp only[asF,asG]at h;obtain⟨rfl,rfl⟩:=h;simp only[R]at hy;subst hy;have hk:P.underlying t'=some .string:=by
    simp only[yK]at hok;split at hok
    .rename_i h;exact h
    cases hok
   exact⟨byteCells b,Src.ofString w hk b,LZ b⟩
  cases h
 have yX:∀ b,y≠ .str b:=λb e=>B8 ⟨b,e⟩;have htt:t=t':=by
  cases y<;>first|exact Nat.eq_of_beq_eq_true hok|exact(yX _ rfl).elim
 subst htt;obtain⟨s,cap,news,rfl,hl,h1,hel,hnone,hcell⟩:=VS cy hy h hc yX;cases s with
 |none=>
  have hm:=hnone rfl;subst hm;have:news=[]:=bn (by simpa using hl);subst this;exact⟨[],Src.ofNil w ht cap,hel⟩
 |some ad=>exact⟨news,Src.ofSlice w ht ad m cap news hl (hcell ad rfl) h1,hel⟩
theorem am6{P:ar}(w:av)(size:Nat)(a0:Option aD):(aG size 0 (.slice a0 0 0)).run P w= .ok #[] w:=by
 cases a0<;>simp[aG,loadCells,loadCellsFrom]
theorem am7{P:ar}(t t' ty e:au)(i:TypeInfo)(zv:aq)(ht:P.underlying t=some (.slice e))(hi:P.info? e=some i)(hz:i.zero=some zv)(hzs:zv.cells.size=i.size)(hs0:0<i.size)
  (v:aq) (n:Nat) (xs:List aq) (hown:jP w e i.size v n xs) (x:aq) (m:Nat) (news:List aq) (hs:Src P i.size t' x m news w) (h63:n+m<=maxLen) (hbytes:(n+m)*i.bytes<=140737488355328):
  ∃v' w',(aH #[t,t'] ty #[v,x]).run P w= .ok v' w'/\jP w' e i.size v' (n+m) (xs++news)/\GB w w' (eQ v)/\(∀b,eQ v'=some b->eQ v=some b\/b=w.heap.size):=by
 have hlen:(xs++news).length=(n+m)*i.size:=by rw[bI,hown.1,hs.newsLen,asd]
 have am8:((n+m:Nat):Int)<=9223372036854775807:=by simp only[maxLen]at h63;omega
 have grown:∀ (fu:Nat),fu<n+m-> ∀row, 
   jP (w.drew.alloc (.cells ((xs++news).toArray++aF zv.cells (grownCap w (n+m) fu e-(n+m))) e)) e i.size (.slice (some ⟨w.heap.size,0,none⟩) (n+m) (grownCap w (n+m) fu e)) (n+m) (xs++news)/\
   GB w (w.drew.alloc (.cells ((xs++news).toArray++aF zv.cells (grownCap w (n+m) fu e-(n+m))) e)) row:=by
  intro fu ho row;have hge:=grownCap_ge w (n+m) fu e;have ki:grownCap w (n+m) fu e<=maxLen:=grownCap_le_maxLen w (n+m) fu e h63;refine⟨⟨hlen,.inr ?_⟩,⟨rfl,rfl,rfl,by simp,λk hk _=>heap_alloc_old w.drew _ k hk,fI.le (asq _)⟩⟩;obtain⟨cp,hcp⟩:∃ cp,grownCap w (n+m) fu e=cp+1:=⟨grownCap w (n+m) fu e-1,by omega⟩;rw[hcp]at hge ki⊢;refine⟨w.heap.size,0,cp,_,rfl,⟨(0,0),heap_alloc_new w.drew _,.inr rfl⟩,hge,ki,?_,?_⟩
  .simp only[Array.size_append,bq,size_zeroCells,hzs,hlen,<- asd,asn];congr 1;omega
  simp only[ai,ar7];rw[<-hlen];exact IT
 have grow:∀ (base:Option aD) (cap:Nat),v= .slice base n cap->(aG i.size n (.slice base n cap)).run P w.drew= .ok xs.toArray w.drew->cap<n+m->
   ∃v' w',(aH #[t,t'] ty #[v,x]).run P w= .ok v' w'/\jP w' e i.size v' (n+m) (xs++news)/\GB w w' (eQ v)/\(∀b,eQ v'=some b->eQ v=some b\/b=w.heap.size):=by
  rintro base cap rfl hold hlt;have hr:=run_append_grow_src (P:=P) w t t' ty e i zv ht hi hz base n cap xs hold x m news hs hlt am8 (growslice_fits (by omega) hbytes);obtain⟨g1,g2⟩:=grown cap hlt (eQ (.slice base n cap));refine⟨_,_,hr,g1,g2,λb hb=>.inr ?_⟩;unfold eQ at hb;split at hb
  .rename_i heq;simp only[bh,asF]at heq;obtain⟨rfl,_⟩:=heq;simpa[iP]using hb
  cases hb
 rcases hown.2 with ⟨rfl,a0,rfl⟩|⟨g,o,cp,cur,rfl,⟨fz,hg,hfz⟩,hnc,ki,hcs,htk⟩
 .have hx0:xs=[]:=bn (by simpa using hown.1);subst hx0;rcases ash m with mc|mc
  .subst mc;have ly:news=[]:=bn (by simpa using hs.newsLen);subst ly;refine⟨.slice a0 0 0,w,?_,⟨by simp,.inl ⟨rfl,_,rfl⟩⟩,GB.refl w _,λb hb=>.inl hb⟩;have h0:=hs.cells;have yV:=hs.len w;rcases hs.kind with ⟨e',hk⟩|hk<;>cases a0<;>simp[aH,run_underlying ht,run_underlying hk,sizeOf,typeInfo,hi,yV,h0,storeCells]
  exact grow a0 0 rfl (am6 _ _ _) (by omega)
 by_cases hroom:n+m<=cp+1
 .have hfit:o+n*i.size+news.length<=cur.size:=by rw[hs.newsLen,hcs,asj,<- asd];exact asm (asb _ hroom) o
  have hst:=wg P g (o+n*i.size) e fz news 0 cur w hg (vL hfz) (by simpa using hfit) hs.one;simp only[ass]at hst;refine⟨.slice (some ⟨g,o,none⟩) (n+m) (cp+1),w.setRow g (cur.toList.take (o+n*i.size)++news++cur.toList.drop (o+n*i.size+news.length)).toArray,?_,⟨hlen,.inr ⟨g,o,cp,_,rfl,⟨fz,setRow_heap w g cur _ e _ hg,?_⟩,hroom,ki,?_,?_⟩⟩,⟨rfl,rfl,rfl,by simp,λk _ hk=>setRow_other w g k _ (λe=>hk (by simp[eQ,e])),fI.refl _⟩,λb hb=>.inl hb⟩
  .rcases hs.kind with ⟨e',hk⟩|hk<;>simp[aH,run_underlying ht,run_underlying hk,sizeOf,typeInfo,hi,hs.len,hroom,hs.cells,na,hst]
  .simp only[bq,bI,bu,bx,aa];omega
  .simp only[bq,bI,bu,bx,aa];omega
  have hlo:(cur.toList.take (o+n*i.size)).length=o+n*i.size:=by rw[bu,aa];omega
  simp only[];rw[bF,IN (by omega),OF,asw,htk,<- bF,<- hlen];exact IT
 refine grow (some ⟨g,o,none⟩) (cp+1) rfl ?_ (by omega);refine run_firstCells_some w.drew i.size n ⟨g,o,none⟩ n (cp+1) xs hown.1 λj u hu=>?_;show w.cell? _=_;rcases ash n with hn0|hn0
 .subst hn0;have hx0:xs=[]:=bn (by simpa using hown.1);subst hx0;simp at hu
 obtain⟨g',o',cap',hv',_,_,hcell⟩:=qI hown hn0;simp only[bh,asF]at hv';rw[hv'.1];exact hcell j u hu
def gI(bR:List Ob):Option Nat->List Ob
 |none=>bR
 |some id=>cM bR id .dead
def iA(ρ:Nat->Loc):Option Nat->(Nat->Loc)
 |none=>ρ
 |some id=>dj ρ id .dead
theorem Rel.append{blk:Option Nat}{v':aq}{kill:Option Nat}{d:Nat}{ob:Ob}(h:Rel w0 X st a w ρ)(hk:∀ b,blk=some b-> ∃id,kill=some id/\(ρ id).has b)
  (L1:∀ id,kill=some id->bZ st.bR id≠ .dead/\bZ st.bR id≠ .de) (hg:GB w w' blk) (hb:∀ b,eQ v'=some b->blk=some b\/b=w.heap.size) (hd:bZ (gI st.bR kill) d= .de)
  (hsz:∀ b,eQ v'=some b->b<w'.heap.size)
  (cy:dz w w' (Ow X ρ) (Ow X (dj (iA ρ kill) d (.row v'))) ρ (dj (iA ρ kill) d (.row v'))->fR w' (Ow X (dj (iA ρ kill) d (.row v'))) (dj (iA ρ kill) d (.row v')) ob (.row v')):
  Rel w0 X ⟨st.tmps,cM (gI st.bR kill) d ob⟩ a w' (dj (iA ρ kill) d (.row v'))/\dz w w' (Ow X ρ) (Ow X (dj (iA ρ kill) d (.row v'))) ρ (dj (iA ρ kill) d (.row v')):=by
 have hkd:kill≠some d:=by
  rintro rfl;simp only[gI,ef]at hd;split at hd
  .cases hd
  exact(L1 d rfl).2 hd
 have L2:bZ st.bR d= .de:=by
  cases kill with
  |none=>exact hd
  |some id=>
   simp only[gI,ef]at hd;split at hd
   .cases hd
   exact hd
 have hv:=h.de L2;have sr:∀ i,iA ρ kill i=ρ i\/(iA ρ kill i= .dead/\kill=some i):=by
  intro i;cases kill with
  |none=>exact .inl rfl
  |some id=>
   by_cases hi:i=id
   .subst hi;exact .inr ⟨by simp[iA,dj],rfl⟩
   exact .inl (by simp[iA,dj,hi])
 have how:∀ b,owned (dj (iA ρ kill) d (.row v')) b->(∃i,kill≠some i/\i≠d/\(ρ i).has b)\/eQ v'=some b:=by
  rintro b ⟨i,hi⟩;by_cases cn:i=d
  .subst cn;rw[dM]at hi;exact .inr hi
  rw[dX _ _ _ cn]at hi;rcases sr i with e|⟨e,_⟩
  .rw[e]at hi;refine .inl ⟨i,?_,cn,hi⟩;rintro rfl;simp[iA,dj]at e;rw[<-e]at hi;cases hi
  rw[e]at hi;cases hi
 have hL:dz w w' (Ow X ρ) (Ow X (dj (iA ρ kill) d (.row v'))) ρ (dj (iA ρ kill) d (.row v')):=by
  refine⟨hg.size,λb hb' hn=>hg.block b hb' λe=>?_,λb hb' ho=>?_,λi=>?_⟩
  .obtain⟨id,_,cn⟩:=hk b e.symm;exact hn (.inr ⟨id,cn⟩)
  .rcases ho with ho|ho
   .exact .inl ho
   rcases how b ho with ⟨i,_,_,hi⟩|ho
   .exact .inr ⟨i,hi⟩
   rcases hb b ho with hb|hb
   .obtain⟨id,_,cn⟩:=hk b hb;exact .inr ⟨id,cn⟩
   omega
  by_cases cn:i=d
  .subst cn;exact .inr (.inl hv)
  rw[dX _ _ _ cn];rcases sr i with e|⟨e,_⟩
  .exact .inl e
  exact .inr (.inr e)
 have dF:fP w0.heap.size w0 w':=h.kept.grown hg h.size (λk hk'=>by
  obtain⟨id,_,cn⟩:=hk k hk';exact(h.new k ⟨id,cn⟩).1)
 refine⟨h.next hL dF (λi=>?_) (λi j b hi hj=>?_) (λb hb'=>?_),hL⟩
 .rw[ef];by_cases cn:i=d
  .subst cn;rw[bS rfl,dM];exact cy hL
  rw[bQ cn,dX _ _ _ cn];cases kill with
  |none=>
   simp only[gI,iA];refine(h.obj i).later hL λb hb'=>hg.block b (h.new b ⟨i,hb'⟩).2 λe=>?_;obtain⟨id,Cc,_⟩:=hk b e.symm;cases Cc
  |some id=>
   simp only[gI,iA,ef];by_cases pS:i=id
   .subst pS;rw[bS rfl,dM];exact rfl
   rw[bQ pS,dX _ _ _ pS];refine(h.obj i).later hL λb hb'=>hg.block b (h.new b ⟨i,hb'⟩).2 λe=>?_;obtain⟨id',Cc,hb2⟩:=hk b e.symm;cases Cc;exact pS (h.dJ i id b hb' hb2)
 .have key:∀ i,i≠d->((dj (iA ρ kill) d (.row v')) i).has b->eQ v'=some b->False:=by
   intro i cn hi hv';rw[dX _ _ _ cn]at hi;rcases sr i with e|⟨e,_⟩
   .rw[e]at hi;rcases hb b hv' with hb|hb
    .obtain⟨id,Cc,hb2⟩:=hk b hb;have:=h.dJ i id b hi hb2;subst this;rw[Cc]at e;simp[iA,dj]at e;rw[<-e]at hi;cases hi
    have:=(h.new b ⟨i,hi⟩).2;omega
   rw[e]at hi;cases hi
  by_cases cn:i=d<;>by_cases mH:j=d
  .rw[cn,mH]
  .subst cn;rw[dM]at hi;exact(key j mH hj hi).elim
  .subst mH;rw[dM]at hj;exact(key i cn hi hj).elim
  rw[dX _ _ _ cn]at hi;rw[dX _ _ _ mH]at hj;rcases sr i with e|⟨e,_⟩
  .rcases sr j with e'|⟨e',_⟩
   .rw[e]at hi;rw[e']at hj;exact h.dJ i j b hi hj
   rw[e']at hj;cases hj
  rw[e]at hi;cases hi
 rcases how b hb' with ⟨i,_,_,hi⟩|hv'
 .have:=h.new b ⟨i,hi⟩;exact⟨this.1,asg this.2 hg.size⟩
 refine⟨?_,hsz b hv'⟩;rcases hb b hv' with hb|hb
 .obtain⟨id,_,cn⟩:=hk b hb;exact(h.new b ⟨id,cn⟩).1
 subst hb;exact h.size
theorem am9(h:Rel w0 X st a w ρ):nc w (Ow X ρ) ρ st.bR:=λid=>.inr (h.obj id)
theorem L3{P:ar}{t t' ty e:au}{i:TypeInfo}{z:List A}{v vy:aq}{n m d:Nat}{xs:List aq}{ex ey:Nat->Nat->A}{y:A}{kill:Option Nat}(h:Rel w0 X st a w ρ)
  (ht:P.underlying t=some (.slice e)) (hi:P.info? e=some i) (hz:zeroCells P e=some z) (hzl:z.length=i.size) (hs0:0<i.size)
  (hown:jP w e i.size v n xs) (hxs:∀ u∈xs,u.oneCell'=true) (hel:∀ q,q<n-> ∀j,j<i.size-> ∃u,xs[q*i.size+j]? =some u/\R w (Ow X ρ) (ex q j) b7 u)
  (hy:R w (Ow X ρ) y ρ vy) (hok:yK P t t' y=true) (hrow:rowOf st.bR i.size y=some (m,ey)) (hbd:(n+m)*(i.bytes+1)<=du)
  (hk:∀ b,eQ v=some b-> ∃id,kill=some id/\(ρ id).has b) (L1:∀ id,kill=some id->bZ st.bR id≠ .dead/\bZ st.bR id≠ .de)
  (hd:bZ (gI st.bR kill) d= .de):
  ∃v' w',(aH #[t,t'] ty #[v,vy]).run P w= .ok v' w'/\(∃s k c,v'= .slice s k c)/\
   Rel w0 X ⟨st.tmps,cM (gI st.bR kill) d (.row e i.size (n+m) λq j=>if q<n then ex q j else ey (q-n) j)⟩ a w' (dj (iA ρ kill) d (.row v'))/\dz w w' (Ow X ρ) (Ow X (dj (iA ρ kill) d (.row v'))) ρ (dj (iA ρ kill) d (.row v')):=by
 obtain⟨i',zv,hi',pQ,LP⟩:=uI (w:=w) (O:=Ow X ρ) (ρ:=ρ) hz;rw[hi]at hi';cases hi';have hzs:zv.cells.size=i.size:=by rw[<-hzl,<- LP.len];simp
 obtain⟨news,hsrc,L0⟩:=am5 (am9 h) hy ht hok hrow hs0;have hnl:=hsrc.newsLen;have Ca:=hsrc.one;have hm1:n+m<=du:=asr (aso _ (asB _)) hbd;have hb2:(n+m)*i.bytes<=140737488355328:=by
  have:(n+m)*i.bytes<=(n+m)*(i.bytes+1):=asy _ (asq _);unfold du at hbd;omega
 have hlen:n+m<=maxLen:=by unfold du at hm1;unfold maxLen;omega
 have fin:∀ blk v' w',jP w' e i.size v' (n+m) (xs++news)->GB w w' blk->(∀b,blk=some b->eQ v=some b)->(∀b,eQ v'=some b->blk=some b\/b=w.heap.size)->
   (∃s k c,v'= .slice s k c)/\Rel w0 X ⟨st.tmps,cM (gI st.bR kill) d (.row e i.size (n+m) λq j=>if q<n then ex q j else ey (q-n) j)⟩ a w' (dj (iA ρ kill) d (.row v'))/\dz w w' (Ow X ρ) (Ow X (dj (iA ρ kill) d (.row v'))) ρ (dj (iA ρ kill) d (.row v')):=by
  intro blk v' w' hown' hg Gc hb;refine⟨?_,h.append (blk:=blk) (λb hb=>hk b (Gc b hb)) L1 hg hb hd ?_ ?_⟩
  .rcases hown'.2 with ⟨_,s,rfl⟩|⟨g,o,cp,cur,rfl,_⟩
   .exact⟨_,_,_,rfl⟩
   exact⟨_,_,_,rfl⟩
  .intro b hb';rcases hown'.2 with ⟨_,s,rfl⟩|⟨g,o,cp,cur,rfl,⟨fz,hgg,_⟩,_⟩
   .cases s<;>cases hb'
   simp only[eQ,asF]at hb';subst hb';rcases asf g w'.heap.size with hlt|hge
   .exact hlt
   rw[Array.getElem?_eq_none hge]at hgg;cases hgg
  intro hL;refine⟨v',xs++news,rfl,hown',λu hu=>?_,λq hq j hj=>?_⟩
  .rcases bB.1 hu with hu|hu
   .exact hxs u hu
   exact Ca u hu
  by_cases L4:q<n
  .obtain⟨u,hu,hr⟩:=hel q L4 j hj;refine⟨u,?_,?_⟩
   .rw[bK,hu];rcases asf (q*i.size+j) xs.length with hlt|hge
    .exact hlt
    rw[bG hge]at hu;cases hu
   simp only[L4,iI];exact a8 _ b7 b7 u hL.b7 hr
  obtain⟨u,hu,hr⟩:=L0 (q-n) (by omega) j hj;refine⟨u,?_,?_⟩
  .have hle:n*i.size<=q*i.size:=asb _ (by omega);rw[bH (by rw[hown.1];omega),hown.1,<- hu,asC];congr 1;omega
  simp only[L4,ic];exact a8 _ b7 b7 u hL.b7 hr
 obtain⟨v',w',hrun,gb,hg',hb'⟩:=am7 (w:=w) t t' ty e i zv ht hi pQ hzs hs0 v n xs hown vy m news hsrc hlen hb2;have:=fin (eQ v) v' w' gb hg' (λ_ h=>h) hb';exact⟨v',w',hrun,this.1,this.2⟩
theorem ana{P:ar}{t t' ty:au}{x y:A}{vx vy:aq}{kill:Option Nat}{ob:Ob}{d:Nat}(h:Rel w0 X st a w ρ)(hx:R w (Ow X ρ) x ρ vx)(hy:R w (Ow X ρ) y ρ vy)
  (hs:(nB P st.bR t t' x y).eval=some (kill,ob)) (hd:bZ (gI st.bR kill) d= .de):
  ∃v' w',(aH #[t,t'] ty #[vx,vy]).run P w= .ok v' w'/\(∃s k c,v'= .slice s k c)/\Rel w0 X ⟨st.tmps,cM (gI st.bR kill) d ob⟩ a w' (dj (iA ρ kill) d (.row v'))/\dz w w' (Ow X ρ) (Ow X (dj (iA ρ kill) d (.row v'))) ρ (dj (iA ρ kill) d (.row v')):=by
 unfold nB at hs;cases hok:yK P t t' y with
 |false=>rw[hok]at hs;cases hs
 |true=>
 rw[hok]at hs;simp only at hs;split at hs
 .rename_i e hu;split at hs
  .rename_i i hi;split at hs
   .rename_i m ey z hrow hz;split at hs
    .rename_i qK;obtain⟨hzl,hs0⟩:=qK;split at hs
     .simp only[oV,bd,bc]at hs;split at hs
      .rename_i hb;simp only[dN]at hb;simp only[asF,asG]at hs;obtain⟨rfl,rfl⟩:=hs;simp only[R]at hx;subst hx;have:=L3 (ty:=ty) (v:=.slice none 0 0) (n:=0) (xs:=[]) (ex:=λ_ _=>.dU) (kill:=none) h hu hi hz hzl hs0 ⟨by simp,.inl ⟨rfl,_,rfl⟩⟩ (by simp) (λq hq=>by omega) hy hok hrow (by simpa using hb) (λb hb=>by cases hb) (λid cn=>by cases cn) hd;simpa using this
      cases hs
     .rename_i id;split at hs
      .rename_i e' c n ex hr;split at hs
       .rename_i hc;obtain⟨rfl,rfl⟩:=hc;simp only[oV,bd,bc]at hs;split at hs
        .rename_i hb;simp only[dN]at hb;simp only[asF,asG]at hs;obtain⟨rfl,rfl⟩:=hs;have cy:=h.obj id;rw[hr]at cy;obtain⟨rv,xs,hρ,hown,hxs,hel⟩:=cy;simp only[R,hρ]at hx;obtain⟨rfl,_⟩:=hx;exact L3 (ty:=ty) (kill:=some id) h hu hi hz hzl hs0 hown hxs hel hy hok hrow hb (λb hb=>⟨id,rfl,by rw[hρ];exact hb⟩) (λid' cn=>by cases cn;rw[hr];simp) hd
        cases hs
       cases hs
      cases hs
     .rename_i id c0 lo n;split at hs
      .rename_i e' c N ex hr;split at hs
       .rename_i hc;obtain⟨rfl,rfl,rfl⟩:=hc;simp only[oV,bd,bc]at hs;split at hs
        .rename_i hb;simp only[dN]at hb;simp only[asF,asG]at hs;obtain⟨rfl,rfl⟩:=hs;have cy:=h.obj id;rw[hr]at cy;obtain⟨rv,xs,hρ,hown,hxs,hel⟩:=cy;simp only[R,hρ]at hx;obtain⟨a0,N',cap,a',rfl,h2,rfl,h4,_,h6⟩:=hx;have hN:N'=N:=by
          rcases hown.2 with ⟨h7,b,hv⟩|⟨g,o,cp,cur,hv,_⟩<;>(simp only[bh]at hv;omega)
         subst hN;have hsz:lo*i.size+n*i.size<=xs.length:=by rw[hown.1,<- asd];exact asb _ h2
         have hown':jP w e' i.size (.slice a' n (cap-lo)) n ((xs.drop (lo*i.size)).take (n*i.size))/\ ∀b,eQ (.slice a' n (cap-lo))=some b->eQ (.slice a0 N' cap)=some b:=by
          have hl:((xs.drop (lo*i.size)).take (n*i.size)).length=n*i.size:=by rw[bu,bx];omega
          rcases hown.2 with ⟨h7,b,hv⟩|⟨g,o,cp,cur,hv,vM,hnc,ki,hcs,htk⟩
          .simp only[bh]at hv;have hn0:n=0:=by omega
           have hc0:cap-lo=0:=by omega
           rw[hn0,hc0]at*;exact⟨⟨by simp,.inl ⟨rfl,_,rfl⟩⟩,λb hb=>by cases a'<;>cases hb⟩
          simp only[bh]at hv;obtain⟨rfl,_,rfl⟩:=hv;rcases asf lo (cp+1)with hlt|hge
          .obtain⟨ad,had,rfl⟩:=h6 hlt;cases had;obtain⟨cq,hcq⟩:∃ cq,cp+1-lo=cq+1:=⟨cp-lo,by omega⟩;rw[hcq];refine⟨⟨hl,.inr ⟨g,o+lo*i.size,cq,cur,by rw[na],vM,by omega,by omega,?_,?_⟩⟩,λb hb=>?_⟩
           .rw[hcs,asj,<- asd,show lo+(cq+1)=cp+1 by omega]
           .rw[<-htk,OF,List.take_take,ar8,asu];rw[<-asC];exact asb _ (by omega)
           rw[na]at hb;exact hb
          have hn0:n=0:=by omega
          have hc0:cp+1-lo=0:=by omega
          rw[hc0];subst hn0;exact⟨⟨by simp,.inl ⟨rfl,_,rfl⟩⟩,λb hb=>by cases a'<;>cases hb⟩
         refine L3 (ty:=ty) (ex:=λq j=>ex (lo+q) j) (kill:=some id) h hu hi hz hzl hs0 hown'.1 (λu hu=>hxs u (AT (bE hu))) (λq hq j hj=>?_) hy hok hrow hb (λb hb=>⟨id,rfl,by rw[hρ];exact hown'.2 b hb⟩) (λid' cn=>by cases cn;rw[hr];simp) hd;obtain⟨u,hu,gb⟩:=hel (lo+q) (by omega) j hj;refine⟨u,?_,gb⟩;rw[bp (LX hq hj),bJ,<- asj,<- asd];exact hu
        cases hs
       cases hs
      cases hs
     cases hs
    cases hs
   cases hs
  cases hs
 cases hs
theorem VX:∀ (n:Nat) (l:List A) (j:Nat),bT (jE n l) j=bT l (n+j)
 |0,l,j=>by rw[asn];rfl
 |n+1,[],j=>rfl
 |n+1,a::l,j=>by simp only[jE];rw[VX n l j,Nat.succ_add];rfl
theorem yY{O O':Nat->Prop}{ρ':Nat->Loc}{e c n:Nat}{el:Nat->Nat->A}{l:Loc}{v:aq}(cy:fR w O ρ (.row e c n el) l)(hl:l= .row v)(hO:∀ b,b<w.heap.size->O' b->O b)(hfree:∀ b,l.has b->b<w.heap.size/\ ¬O' b):R w O' (.sl c n el) ρ' v:=by
 subst hl;have hL:dz w w O O' b7 b7:=⟨asc _,λ_ _ _=>rfl,hO,λ_=>.inl rfl⟩;obtain⟨rv,xs,hρ,hown,hxs,hel⟩:=cy;cases hρ;simp only[R];rcases ash n with hn|hn
 .subst hn;rcases hown.2 with ⟨_,s,rfl⟩|⟨g,o,cap,cur,rfl,_,h1,h2,_⟩
  .exact⟨_,_,rfl,asc _,asx _,λh=>by simp at h⟩
  exact⟨_,_,rfl,h1,h2,λh=>by simp at h⟩
 obtain⟨g,o,cap,rfl,h1,h2,hcell⟩:=qI hown hn;refine⟨_,_,rfl,h1,h2,λhp=>⟨_,rfl,?_,λi hi j hj=>?_⟩⟩
 .exact hfree g rfl
 obtain⟨u,hu,ij⟩:=hel i hi j hj;refine⟨u,?_,hxs u (bw hu),a8 _ b7 b7 u hL ij⟩;exact hcell _ _ hu
theorem VY(fz:List Nat)(B d:Nat)(rw:Bool)(ob:Ob):nA fz B d (rw,ob)=(rP rw (B+d) ob,ob)\/ ∃e c n el,rw=true/\ob= .row e c n el/\nA fz B d (rw,ob)=(.sl c n el,.dead):=by
 unfold nA;split
 .rename_i e c n el heq;cases heq;split
  .exact .inr ⟨_,_,_,_,rfl,rfl,rfl⟩
  exact .inl rfl
 rename_i heq;cases heq;exact .inl rfl
theorem Gf{O O':Nat->Prop}{bR:List Ob}(cy:nc w O ρ bR)(hO:∀ b,b<w.heap.size->O' b->O b)(hfree:∀ id b,bZ bR id≠ .dead->(ρ id).has b->b<w.heap.size/\ ¬O' b):∀ (d:Nat),
  (∀(x x':A) (v:aq),R w O x ρ v->eX bR d x=some x'->R w O' x' b7 v)/\(∀(l l':List A) (vs:List aq),RL w O l ρ vs->kW (eX bR d) l=some l'->RL w O' l' b7 vs)
 |0=>⟨λx x' v _ h=>by simp[eX]at h,λl l' vs hr h=>by
   cases l with
   |nil=>simp[kW]at h;subst h;simpa only[RL]using hr
   |cons a l=>simp[kW,eX]at h⟩
 |d+1=>by
  obtain⟨_,ih2⟩:=Gf cy hO hfree d;have hL:dz w w O O' b7 b7:=⟨asc _,λ_ _ _=>rfl,hO,λ_=>.inl rfl⟩;have H:∀ (x x':A) (v:aq),R w O x ρ v->eX bR (d+1) x=some x'->R w O' x' b7 v:=by
   intro x x' v hr he;cases x with
   |own id=>
    simp only[eX]at he;split at he
    .rename_i e c n el hrow;simp only[asF]at he;subst he;rcases cy id with hd|eZ
     .rw[hrow]at hd;cases hd
     rw[hrow]at eZ;obtain⟨rv,xs,hρ,hown,hxs,hel⟩:=eZ;simp only[R,hρ]at hr⊢;obtain⟨rfl,_⟩:=hr;rcases ash n with hn|hn
     .subst hn;rcases hown.2 with ⟨_,s,rfl⟩|⟨g,o,cap,cur,rfl,_,h1,h2,_⟩
      .exact⟨_,_,rfl,asc _,asx _,λh=>by simp at h⟩
      exact⟨_,_,rfl,h1,h2,λh=>by simp at h⟩
     obtain⟨g,o,cap,rfl,h1,h2,hcell⟩:=qI hown hn;refine⟨_,_,rfl,h1,h2,λhp=>⟨_,rfl,?_,λi hi j hj=>?_⟩⟩
     .exact hfree id g (by rw[hrow];intro h;cases h) (by rw[hρ];rfl)
     obtain⟨u,hu,ij⟩:=hel i hi j hj;refine⟨u,?_,hxs u (bw hu),a8 _ b7 b7 u hL ij⟩;exact hcell _ _ hu
    cases he
   |ptr id off=>
    simp only[eX]at he;split at he
    .rename_i cells hcells;split at he
     .rename_i cs hcs;simp only[asF]at he;subst he;rcases cy id with hd|eZ
      .rw[hcells]at hd;cases hd
      rw[hcells]at eZ;obtain⟨b,vs,bt,hρ,hg,hrc⟩:=eZ;have hcl:=ih2 cells cs vs hrc hcs;simp only[R,hρ]at hr⊢;subst hr;refine⟨_,rfl,λhp=>⟨hfree id b (by rw[hcells];intro h;cases h) (by rw[hρ];rfl),λj hj=>?_⟩⟩;have hlt:off+j<vs.length:=by rw[hcl.len];omega
      refine⟨vs[off+j],?_,by rw[VX];exact hcl.get _ _ (bl hlt)⟩;rw[na,sC hg];exact bl hlt
     cases he
    cases he
   |rp id c i off=>simp[eX]at he
   |kb b=>
    simp only[eX,asF]at he;subst he;simpa only[R]using hr
   |fn f l=>
    simp only[eX]at he;split at he
    .rename_i l' eB;simp only[asF]at he;subst he;simp only[R]at hr⊢;obtain⟨vs,rfl,h⟩:=hr;exact⟨vs,rfl,ih2 l l' vs h eB⟩
    cases he
   |agg l=>
    simp only[eX]at he;split at he
    .rename_i l' eB;simp only[asF]at he;subst he;simp only[R]at hr⊢;obtain⟨vs,rfl,h⟩:=hr;exact⟨vs,rfl,ih2 l l' vs h eB⟩
    cases he
   |bv f l=>
    simp only[eX]at he;split at he
    .rename_i l' eB;simp only[asF]at he;subst he;simp only[R]at hr⊢;obtain⟨vs,rfl,h⟩:=hr;exact⟨vs,rfl,ih2 l l' vs h eB⟩
    cases he
   |cG l=>
    simp only[eX]at he;split at he
    .rename_i l' eB;simp only[asF]at he;subst he;simp only[R]at hr⊢;obtain⟨vs,rfl,h⟩:=hr;exact⟨vs,rfl,ih2 l l' vs h eB⟩
    cases he
   |dA id=>
    simp only[eX,asF]at he;subst he;simp only[R]
   |ap id i=>simp[eX]at he
   |bm f id i=>simp[eX]at he
   |rv id n=>simp[eX]at he
   |ov id c lo n=>
    simp only[eX]at he;split at he
    .rename_i e c' N el hrow;split at he
     .rename_i lx;subst lx;simp only[asF]at he;subst he;rcases cy id with hd|eZ
      .rw[hrow]at hd;cases hd
      rw[hrow]at eZ;obtain⟨rv,xs,hρ,hown,hxs,hel⟩:=eZ;simp only[R,hρ]at hr⊢;obtain⟨a,N',cap,a',rfl,hle,rfl,h0,hpos,_⟩:=hr;have hN:N'=N/\N<=cap/\cap<=maxLen:=by
       rcases hown.2 with ⟨h1,s,h2⟩|⟨g,o,cp,cur,h2,_,h3,h4,_⟩
       .simp only[bh]at h2;omega
       simp only[bh]at h2;omega
      obtain⟨rfl,hNc,ki⟩:=hN;refine⟨a',cap-lo,rfl,by omega,by omega,λhp=>?_⟩;have hn:0<n:=Nat.pos_of_ne_zero λe=>by subst e;simp at hp
      obtain⟨ad,rfl,rfl⟩:=hpos hn;obtain⟨g,o,cp,hv,_,_,hcell⟩:=qI hown (by omega);simp only[bh,asF]at hv;obtain⟨rfl,_,rfl⟩:=hv;refine⟨_,rfl,?_,λi hi j hj=>?_⟩
      .rw[pD];exact hfree id g (by rw[hrow];intro h;cases h) (by rw[hρ];rfl)
      obtain⟨u,hu,ij⟩:=hel (lo+i) (by omega) j hj;refine⟨u,?_,hxs u (bw hu),a8 _ b7 b7 u hL ij⟩;rw[add_add];have:=hcell _ _ hu;rw[asd]at this;rw[<-asj];exact this
     cases he
    .rename_i cells hcells;split at he
     .rename_i l hint;split at he
      .rename_i lx;obtain⟨rfl,hln⟩:=lx;simp only[asF]at he;subst he;rcases cy id with hd|eZ
       .rw[hcells]at hd;cases hd
       rw[hcells]at eZ;obtain⟨b,vs,bt,hρ,hg,hrc⟩:=eZ;have hvs:=B0 hrc hint;simp only[R,hρ]at hr⊢;obtain⟨cap,rfl,h1,h2⟩:=hr;refine⟨_,cap,rfl,h1,h2,λhp=>⟨_,rfl,hfree id b (by rw[hcells];intro h;cases h) (by rw[hρ];rfl),λi hi j hj=>?_⟩⟩;obtain rfl:j=0:=by omega
       refine⟨.int (kindOf cells) (l.getD (lo+i) 0),?_,rfl,rfl⟩;rw[na,sC hg,hvs,bD];have hlt:lo+i<l.length:=by omega
       simp[IS,hlt]
      cases he
     cases he
    cases he
   |_=>
    simp only[eX,asF]at he;subst he;refine a8 _ b7 b7 v hL ?_
    first|(simp only[R];done)|simpa only[R]using hr
  refine⟨H,?_⟩;intro l
  induction l with
  |nil=>intro l' vs hr h;simp[kW]at h;subst h;simpa only[RL]using hr
  |cons x l ih=>
   intro l' vs hr h;simp only[kW]at h;split at h
   .rename_i x' m hx hm;simp only[asF]at h;subst h;simp only[RL]at hr⊢;obtain⟨v,vs',rfl,h1,h2⟩:=hr;exact⟨v,vs',rfl,H x x' v h1 hx,ih m vs' h2 hm⟩
   cases h
theorem VZ{O:Nat->Prop}{bR:List Ob}:∀ (n:Nat),(∀(x x':A) (v:aq) (m:Nat),closed n x=true->eX bR m x=some x'->R w O x ρ v->R w O x' b7 v)/\
  (∀(xs xs':List A) (vs:List aq) (m:Nat),gC (closed n) xs=true->kW (eX bR m) xs=some xs'->RL w O xs ρ vs->RL w O xs' b7 vs)
 |0=>⟨λx x' v m h=>by simp[closed]at h,λxs xs' vs m h hm hr=>by
   cases xs with
   |nil=>simp[kW]at hm;subst hm;simpa only[RL]using hr
   |cons x xs=>simp[gC,closed]at h⟩
 |n+1=>by
  obtain⟨_,ih2⟩:=VZ (O:=O) (bR:=bR) n;have H:∀ (x x':A) (v:aq) (m:Nat),closed (n+1) x=true->eX bR m x=some x'->R w O x ρ v->R w O x' b7 v:=by
   intro x x' v m hc hm hr;cases m with
   |zero=>simp[eX]at hm
   |succ m=>
    cases x with
    |own id=>simp[closed]at hc
    |ptr id off=>simp[closed]at hc
    |rp id c i off=>simp[closed]at hc
    |dA id=>simp[closed]at hc
    |ov id c lo n=>simp[closed]at hc
    |ap id i=>simp[closed]at hc
    |bm f id i=>simp[closed]at hc
    |rv id n=>simp[closed]at hc
    |kb b=>simp only[eX,asF]at hm;subst hm;simpa only[R]using hr
    |fn f l=>
     simp only[eX]at hm;split at hm
     .rename_i l' eB;simp at hm;subst hm;simp only[R]at hr⊢;obtain⟨vs,rfl,h⟩:=hr;exact⟨vs,rfl,ih2 l l' vs m hc eB h⟩
     cases hm
    |agg l=>
     simp only[eX]at hm;split at hm
     .rename_i l' eB;simp at hm;subst hm;simp only[R]at hr⊢;obtain⟨vs,rfl,h⟩:=hr;exact⟨vs,rfl,ih2 l l' vs m hc eB h⟩
     cases hm
    |bv f l=>
     simp only[eX]at hm;split at hm
     .rename_i l' eB;simp at hm;subst hm;simp only[R]at hr⊢;obtain⟨vs,rfl,h⟩:=hr;exact⟨vs,rfl,ih2 l l' vs m hc eB h⟩
     cases hm
    |cG l=>
     simp only[eX]at hm;split at hm
     .rename_i l' eB;simp at hm;subst hm;simp only[R]at hr⊢;obtain⟨vs,rfl,h⟩:=hr;exact⟨vs,rfl,ih2 l l' vs m hc eB h⟩
     cases hm
    |dU=>simp[eX]at hm;subst hm;simp only[R]
    |_=>simp[eX]at hm;subst hm;simpa only[R]using hr
  refine⟨H,λxs=>?_⟩
  induction xs with
  |nil=>intro xs' vs m _ hm hr;simp[kW]at hm;subst hm;simpa only[RL]using hr
  |cons x xs ihx=>
   intro xs' vs m hc hm hr;simp only[gC,al]at hc;simp only[kW]at hm;split at hm
   .rename_i y ys hy hys;simp at hm;subst hm;simp only[RL]at hr⊢;obtain⟨v,vs',rfl,h1,h2⟩:=hr;exact⟨v,vs',rfl,H x y v m hc.1 hy h1,ihx ys vs' m hc.2 hys h2⟩
   cases hm
theorem anb{E:Env}{o:ay}{d:Nat}{ob:Ob}(h:Rel w0 X st a w ρ)(hd:bZ st.bR d= .de)(hsb:mC E.P o.op=true)(hs:(sY E.P o.op (cQ st.tmps)).eval=some ob):
  ∃v w',(execOp a.eval o).run E.P w= .ok (.value v) w'/\(∃s k c,v= .slice s k c)/\Rel w0 X ⟨st.tmps,cM st.bR d ob⟩ a w' (dj ρ d (.row v))/\dz w w' (Ow X ρ) (Ow X (dj ρ d (.row v))) ρ (dj ρ d (.row v))/\(∀b,eQ v=some b->b=w.heap.size)/\GB w w' none:=by
 have cW:=mE h.tmp;obtain⟨dst,op,type,pos,after,guard⟩:=o;simp only at hs hsb;cases op with
 |convert sT dT x=>
  simp only[mC]at hsb;split at hsb
  .rename_i e hus V0;split at hsb
   .rename_i hue;simp only[sY,V0]at hs;have hx:=cW x;generalize cQ st.tmps x=ax at hs hx;cases ax with
    |str b=>
     simp only[bd,bc]at hs;split at hs
     .rename_i hbd;simp only[dN]at hbd;simp only[asF]at hs;subst hs;simp only[R]at hx;have hrun:=run_bytes_of_string (P:=E.P) w sT dT e b hus V0 hue;have hge:=grownCap_ge w b.size 0 e;have ki:grownCap w b.size 0 e<=maxLen:=grownCap_le_maxLen w b.size 0 e (by unfold du at hbd;unfold maxLen;omega);have hsz:(bytesRow b (grownCap w b.size 0 e)).size=grownCap w b.size 0 e:=by
       simp[bytesRow];have:b.data.size=b.size:=rfl;omega
      have htk:(bytesRow b (grownCap w b.size 0 e)).toList.take b.size=byteCells b:=by
       have h1:(byteCells b).length=b.size:=byteCells_length b;simp only[bytesRow,ai];rw[<-h1];have:(Array.map (λb=>bg IntKind.u8 (b.toNat:Int)) b.data).toList=byteCells b:=by simp[byteCells]
       rw[this];exact IT
      have hrow:jP (w.drew.alloc (.cells (bytesRow b (grownCap w b.size 0 e)) e ((bytesRow b (grownCap w b.size 0 e)).size,(bytesRow b (grownCap w b.size 0 e)).size+1))) e 1 (.slice (some ⟨w.heap.size,0,none⟩) b.size (grownCap w b.size 0 e)) b.size (byteCells b):=by
       refine⟨by rw[byteCells_length,asi],?_⟩;cases hcap:grownCap w b.size 0 e with
       |zero=>
        have:b.size=0:=by omega
        exact .inl ⟨this,_,by rw[this]⟩
       |succ cp=>
        rw[hcap]at hsz htk hge ki;exact .inr ⟨w.heap.size,0,cp,_,rfl,⟨_,heap_alloc_new w.drew _,.inl ⟨asc _,rfl⟩⟩,hge,ki,by rw[hsz,asi,asn],by rw[asi,ar7];exact htk⟩
      have Gg:∀ row,GB w (w.drew.alloc (.cells (bytesRow b (grownCap w b.size 0 e)) e ((bytesRow b (grownCap w b.size 0 e)).size,(bytesRow b (grownCap w b.size 0 e)).size+1))) row:=λrow=>⟨rfl,rfl,rfl,by simp,λk hk _=>heap_alloc_old w.drew _ k hk,fI.le (asq _)⟩;have dF:∀ q,eQ (.slice (some ⟨w.heap.size,0,none⟩) b.size (grownCap w b.size 0 e))=some q->q=w.heap.size:=by
       intro q hq;unfold eQ at hq;split at hq
       .rename_i heq;simp only[bh,asF]at heq;obtain⟨rfl,_⟩:=heq;simpa[iP]using hq
       cases hq
      have happ:=h.append (blk:=none) (kill:=none) (d:=d) (ob:=.row e 1 b.size (BH b)) (λb hb=>by cases hb) (λid cn=>by cases cn) (Gg none) (λq hq=>.inr (dF q hq)) hd (λq hq=>by rw[dF q hq];simp) (λhL=>⟨_,byteCells b,rfl,hrow,λu hu=>by
       obtain⟨_,_,rfl⟩:=acK.1 hu;rfl,λi hi j hj=>by
        obtain⟨u,hu,hr⟩:=LZ (w:=w) (O:=Ow X ρ) b i hi j hj;exact⟨u,hu,a8 _ b7 b7 u hL.b7 hr⟩⟩)
      refine⟨_,_,?_,⟨_,_,_,rfl⟩,happ.1,happ.2,dF,Gg none⟩;simp[execOp,hx,hrun]
     cases hs
    |_=>cases hs
   cases hsb
  cases hsb
 |_=>cases hsb
end
end Go.Sy
namespace Go.Sy
open Go.RowKit
variable [fI]
theorem yw:∀ {a b:List Int},kE a b=true↔a=b
 |[],[]=>by simp[kE]
 |[],b::m=>by simp[kE]
 |a::l,[]=>by cases l<;>simp[kE]
 |[a],[b]=>by simp[kE]
 |[a],b::c::m=>by simp[kE]
 |a::c::l,b::m=>by simp[kE,yw (a:=c::l) (b:=m)]
theorem Bo{a b:List Int}(h:a≠b):kE a b=false:=by rw[<-Bool.not_eq_true,yw];exact h
theorem V1{h:List Int->Bool}{v:List Int->A}{q:List Int}{k:Option A->T A}:∀ u,(BF h v q k u).eval=(k (eu h v u q)).eval
 |[]=>by
  simp only[BF,bc,eu];cases h q<;>rfl
 |(p,x)::u=>by
  simp only[BF,bc,eu];cases kE q p with
  |true=>rfl
  |false=>exact V1 u
section
variable {w0 w w':av} {X:Nat->Prop} {st:St} {a:Act} {ρ ρ':Nat->Loc} {E:Env} {O:Nat->Prop}
theorem V2:∀ {cs:List A} {q:List Int} {vs:List aq},BE cs=some q->RL w O cs ρ vs->vs=q.map (bg .i64)
 |[],q,vs,h,hr=>by
  simp only[BE,asF]at h;simp only[RL]at hr;subst h hr;rfl
 |c::cs,q,vs,h,hr=>by
  unfold BE at h;split at h
  .cases ‹_=[]›
  .rename_i n l hc;cases hc;split at h
   .rename_i m hm;simp only[asF]at h;subst h;simp only[RL,R]at hr;obtain⟨v,vs',rfl,rfl,h2⟩:=hr;rw[V2 hm h2];rfl
   cases h
  cases h
theorem L5{ag:Bool}{x:A}{q:List Int}{v:aq}(h:FI ag x=some q)(hr:R w O x ρ v):v=ep ag q:=by
 unfold FI at h;split at h
 .simp only[asF]at h;subst h;simp only[R]at hr;subst hr;rfl
 .simp only[R]at hr;obtain⟨vs,rfl,h2⟩:=hr;rw[V2 h h2];rfl
 cases h
theorem Cd{ag:Bool}{n:Nat}(h1:ag=false->n=1){q p:List Int}(hq:q.length=n)(hp:p.length=n)(h:ep ag q=ep ag p):q=p:=by
 cases ag with
 |true=>
  simp only[ep,Value.agg.injEq]at h;have:=fU Array.toList h;simp only[]at this;exact(List.map_inj_right (λx y e=>by cases e;rfl)).1 this
 |false=>
  have:=h1 rfl;subst this
  match q,p,hq,hp with
  |[x],[y],_,_=>simp only[ep,List.headD,bg.injEq,pB]at h;rw[h]
theorem V3:∀ (m:Nat) (l:List Int),(((l.map (bg .i64)).zip (l.map (bg .i64))).all (λ(x,y)=>aL m x y))=true
 |m,[]=>rfl
 |m,a::l=>by simp[aL,V3 m l]
theorem stays(P:ar)(w:av)(ag:Bool)(q:List Int):(aT (ep ag q) (ep ag q)).run P w= .ok (ep ag q) w:=by
 have:aL 10000 (ep ag q) (ep ag q)=true:=by
  cases ag with
  |true=>
   have:=V3 9999 q;simp only[ep,aL,al,beq_self_eq_true,pB];exact this
  |false=>simp[ep,aL]
 unfold aT;rw[bS this];rfl
theorem V4(h:Rel w0 X st a w ρ){id:Nat}{vm:aq}{t:au}{ag:Bool}{n:Nat}{cl:Bool}{u:List (List Int×Option A)}{hh:List Int->Bool}{vv:List Int->A}(hm:R w (Ow X ρ) (.dA id) ρ vm)(ho:bZ st.bR id= .mp t ag n cl u hh vv):
  ∃b es clock,vm= .map (some b)/\ρ id= .map b/\w.heap[b]? =some (.map es clock)/\ou w (Ow X ρ) ρ ag n (eu hh vv u) es.toList clock/\(cl=true-> ∀q a,q.length=n->eu hh vv u q=some a->closed 5 a=true):=by
 have cy:=h.obj id;rw[ho]at cy;obtain⟨b,es,clock,h1,h2,h3,h4⟩:=cy;simp only[R,h1]at hm;exact⟨b,es,clock,hm,h1,h2,h3,h4⟩
theorem Ce{es:List aB}(hp:es.Pairwise (λa b=>a.key≠b.key)){e f:aB}(he:e∈es)(hf:f∈es)(hk:e.key=f.key):e=f:=by
 induction hp with
 |nil=>cases he
 |cons hx _ ih=>
  rcases ar9.1 he with h1|h1<;>rcases ar9.1 hf with h2|h2
  .rw[h1,h2]
  .subst h1;exact dP hk (hx _ h2)
  .subst h2;exact dP hk.symm (hx _ h1)
  exact ih h1 h2
theorem ane{O:Nat->Prop}{bR:List Ob}(h:nc w O ρ bR){id:Nat}{vm:aq}{t:au}{ag:Bool}{n:Nat}{cl:Bool}{u:List (List Int×Option A)}{hh:List Int->Bool}{vv:List Int->A}(hm:R w O (.dA id) ρ vm)(ho:bZ bR id= .mp t ag n cl u hh vv):
  ∃b es clock,vm= .map (some b)/\ρ id= .map b/\w.heap[b]? =some (.map es clock)/\ou w O ρ ag n (eu hh vv u) es.toList clock/\(cl=true-> ∀q a,q.length=n->eu hh vv u q=some a->closed 5 a=true):=by
 have cy:=h id;rw[ho]at cy;rcases cy with cy|cy
 .cases cy
 obtain⟨b,es,clock,h1,h2,h3,h4⟩:=cy;simp only[R,h1]at hm;exact⟨b,es,clock,hm,h1,h2,h3,h4⟩
theorem anf{O:Nat->Prop}{bR:List Ob}(h:nc w O ρ bR){m:A}{vm:aq}{t:au}{ag:Bool}{n:Nat}{u:List (List Int×Option A)}{hh:List Int->Bool}{vv:List Int->A}(hm:R w O m ρ vm)(ho:mapOf bR m=some (t,ag,n,u,hh,vv)):
  ∃b es clock,vm= .map (some b)/\w.heap[b]? =some (.map es clock)/\ou w O ρ ag n (eu hh vv u) es.toList clock:=by
 unfold mapOf at ho;split at ho
 .split at ho
  .rename_i hg;simp only[asF,asG]at ho;obtain⟨rfl,rfl,rfl,rfl,rfl,rfl⟩:=ho;obtain⟨b,es,clock,h1,_,h2,h3,_⟩:=ane h hm hg;exact⟨b,es,clock,h1,h2,h3⟩
  cases ho
 .simp only[asF,asG]at ho;obtain⟨rfl,rfl,rfl,rfl,rfl,rfl⟩:=ho;rename_i h0 v0;simp only[R]at hm;obtain⟨b,es,clock,h1,_,h2,h3,h4,h5⟩:=hm;refine⟨b,es,clock,h1,h2,h3,h4,λq hq=>?_⟩;simp only[eu];cases hc:h0 q with
  |false=>exact(h5 q hq).1 hc
  |true=>
   obtain⟨e,he,hk,hv⟩:=(h5 q hq).2 hc;exact⟨e,he,hk,a8 _ b7 ρ _ ⟨asc _,λ_ _ _=>rfl,λ_ _ h=>h,λ_=>.inr (.inl rfl)⟩ hv⟩
 cases ho
theorem ang(hE:ib E){O:Nat->Prop}{bR:List Ob}(h:nc w O ρ bR){t:au}{m key x:A}{ok:Bool}{vm vk:aq}(hm:R w O m ρ vm)(hk:R w O key ρ vk)(hs:(K5 E bR t m key ok).eval=some x):
  ∃v,(aN t vm vk ok).run E.P w= .ok v w/\R w O x ρ v:=by
 unfold K5 at hs;split at hs
 case h_2=>cases hs
 rename_i kt et hu;split at hs
 case h_2=>cases hs
 rename_i i hi;split at hs
 case h_2=>cases hs
 rename_i z t' ag n u hh vv hz ho;split at hs
 case h_2=>cases hs
 rename_i q hq;split at hs
 case isFalse=>cases hs
 rename_i hc;obtain⟨rfl,hlen,hmp⟩:=hc;obtain⟨b,es,clock,rfl,hg,tn,⟨hk2,_⟩,wK⟩:=anf h hm ho;obtain⟨k,e,hu2,L⟩:=hE.2 _ _ _ hmp;rw[hu]at hu2;simp only[asF,TypeDesc.map.injEq]at hu2;obtain⟨rfl,rfl⟩:=hu2;obtain rfl:=L5 hq hk;rw[V1]at hs;have pQ:∀ w:av,(zeroValue et).run E.P w= .ok z w:=λw=>by simp[zeroValue,typeInfo,hi,hz]
 have h3:=wK q hlen;rcases L.find w q es.toList hlen tn with ⟨f1,f2⟩|⟨j,e0,f1,f2,f3⟩
 .split at h3
  .obtain⟨e,h4,h5,_⟩:=h3;exact dP h5 (f2 e h4)
  rename_i hn;rw[hn]at hs;simp only at hs;cases ok with
  |true=>
   simp only[bc,asF]at hs;subst hs;refine⟨.tuple #[z,.bool false],?_,?_⟩
   .simp[aN,run_underlying hu,aU hg,L.check w _ q hlen,f1,pQ,aY]
   simp only[R,RL];exact⟨[z,.bool false],rfl,z,_,rfl,LB w _ ρ z,_,_,rfl,rfl,rfl⟩
  |false=>
   simp only[bc,asF]at hs;subst hs;refine⟨z,?_,LB w _ ρ z⟩;simp[aN,run_underlying hu,aU hg,L.check w _ q hlen,f1,pQ,aY]
 have mc:e0∈es.toList:=bw f2;split at h3
 .rename_i y hy;obtain⟨e,h4,h5,h6⟩:=h3;obtain rfl:e=e0:=Ce hk2 h4 mc (h5.trans f3.symm);rw[hy]at hs;simp only at hs;cases ok with
  |true=>
   simp only[bc,asF]at hs;subst hs;refine⟨.tuple #[e.val,.bool true],?_,?_⟩
   .simp[aN,run_underlying hu,aU hg,L.check w _ q hlen,f1,aY]
   simp only[R,RL];exact⟨[e.val,.bool true],rfl,e.val,_,rfl,h6,_,_,rfl,rfl,rfl⟩
  |false=>
   simp only[bc,asF]at hs;subst hs;refine⟨e.val,?_,h6⟩;simp[aN,run_underlying hu,aU hg,L.check w _ q hlen,f1,aY]
 exact dP f3 (h3 e0 mc)
theorem V5(h:fP w0.heap.size w0 w){D:Nat}(hle:w0.heap.size<=D)(x:Obj):fP w0.heap.size w0 (w.putObj D x):=
 ⟨h.os,h.tape,h.output,by simpa using h.size,λk hk=>(bj (by omega)).trans (h.block k hk),h.drawn⟩
theorem Rel.Gh(h:Rel w0 X st a w ρ){id b:Nat}{es es':Array aB}{clock clock':Nat}{t:au}{ag:Bool}{n:Nat}{cl V6:Bool}{u u':List (List Int×Option A)}{hh:List Int->Bool}{vv:List Int->A}(ho:bZ st.bR id= .mp t ag n cl u hh vv)(hρ:ρ id= .map b)(hg:w.heap[b]? =some (.map es clock))
  (hm:ou w (Ow X ρ) ρ ag n (eu hh vv u') es'.toList clock') (hcl:V6=true-> ∀q a,q.length=n->eu hh vv u' q=some a->closed 5 a=true):
  Rel w0 X ⟨st.tmps,cM st.bR id (.mp t ag n V6 u' hh vv)⟩ a (w.putObj b (.map es' clock')) ρ/\dz w (w.putObj b (.map es' clock')) (Ow X ρ) (Ow X ρ) ρ ρ:=by
 have dF:(ρ id).has b:=by rw[hρ];rfl
 have hL:dz w (w.putObj b (.map es' clock')) (Ow X ρ) (Ow X ρ) ρ ρ:=
  ⟨by simp,λb' _ hn=>bj (λe=>hn (by subst e;exact .inr ⟨id,dF⟩)),λ_ _ h=>h,λ_=>.inl rfl⟩
 refine⟨h.next hL (V5 h.kept (h.new b ⟨id,dF⟩).1 _) (λi=>?_) h.dJ (λb' hb'=>by have:=h.new b' hb';simpa using this),hL⟩;rw[ef];by_cases cn:i=id
 .subst cn;rw[bS rfl];exact⟨b,es',clock',hρ,World.putObj_heap_same (af.1 hg).1,hm.mono λx v hx=>a8 x ρ ρ v hL hx,hcl⟩
 rw[bQ cn];exact(h.obj i).later hL λb' hb'=>bj (λe=>cn (h.dJ i id b (e▸hb') dF))
theorem V7{α:Type}(f:α->α):∀ (l:List α) (j:Nat) {e:α},l[j]? =some e->l.modify j f=l.set j (f e)
 |[],j,e,h=>by simp at h
 |x::l,0,e,h=>by simp at h;subst h;simp
 |x::l,j+1,e,h=>by simp at h;simp[V7 f l j h]
theorem L6{α:Type}:∀ (l:List α) (j:Nat) {e:α},l[j]? =some e->l.set j e=l
 |[],j,e,h=>by simp at h
 |x::l,0,e,h=>by simp at h;subst h;rfl
 |x::l,j+1,e,h=>by simp at h;simp[L6 l j h]
theorem Cf{hh:List Int->Bool}{vv:List Int->A}{u:List (List Int×Option A)}{q:List Int}{x:Option A}(p:List Int):eu hh vv ((q,x)::u) p=if p=q then x else eu hh vv u p:=by
 simp only[eu];by_cases h:p=q
 .rw[bS h,yw.2 h]
 rw[bQ h,Bo h]
theorem Gi{cl:Bool}{n:Nat}{hh:List Int->Bool}{vv:List Int->A}{u:List (List Int×Option A)}{q:List Int}{x:Option A}(h:cl=true-> ∀q a,q.length=n->eu hh vv u q=some a->closed 5 a=true):
  (cl&&Vk x)=true-> ∀p a,p.length=n->eu hh vv ((q,x)::u) p=some a->closed 5 a=true:=by
 intro hc p a hp hl;rw[al]at hc;rw[Cf]at hl;split at hl
 .subst hl;exact hc.2
 exact h hc.1 p a hp hl
theorem V8(hE:ib E)(h:Rel w0 X st a w ρ){t:au}{m key x:A}{r:Nat×Ob}{vm vk vx:aq}(hm:R w (Ow X ρ) m ρ vm)(hk:R w (Ow X ρ) key ρ vk)(hx:R w (Ow X ρ) x ρ vx)(hs:(oX E st.bR t m key (some x)).eval=some r):
  ∃w',(aR t vm vk vx).run E.P w= .ok () w'/\Rel w0 X ⟨st.tmps,cM st.bR r.1 r.2⟩ a w' ρ/\dz w w' (Ow X ρ) (Ow X ρ) ρ ρ:=by
 unfold oX at hs;split at hs
 case h_2=>cases hs
 rename_i id;split at hs
 case h_2=>cases hs
 rename_i t' ag n cl u hh vv ho;split at hs
 case h_2=>cases hs
 rename_i q hq;split at hs
 case isFalse=>cases hs
 rename_i hc;obtain⟨rfl,hlen,hmp⟩:=hc;simp only[bc,asF]at hs;subst hs;obtain⟨b,es,clock,rfl,hρ,hg,⟨tn,⟨hk2,hkb⟩,wK⟩,hcl⟩:=V4 h hm ho;obtain⟨kt,et,hu,L⟩:=hE.2 _ _ _ hmp;obtain rfl:=L5 hq hk;rcases L.find w q es.toList hlen tn with ⟨f1,f2⟩|⟨j,e0,f1,f2,f3⟩
 .obtain⟨h1,h2⟩:=h.Gh (u':=(q,some x)::u) (es':=es.push ⟨ep ag q,vx,clock⟩) (clock':=clock+1) ho hρ hg (by
   rw[Array.toList_push];refine⟨λe he=>?_,?_,λp hp=>?_⟩
   .rcases bB.1 he with he|he
    .exact tn e he
    rw[bA.1 he];exact⟨q,hlen,rfl⟩
   .refine⟨?_,?_,λe he=>?_⟩
    .rw[api];refine⟨hk2,abi _ _,λe he f hf=>?_⟩;rw[bA.1 hf];exact f2 e he
    .rw[api];refine⟨hkb.1,abi _ _,λe he f hf=>?_⟩;rw[bA.1 hf];have:=hkb.2 e he;show e.born≠clock;omega
    rcases bB.1 he with he|he
    .have:=hkb.2 e he;omega
    rw[bA.1 he];exact Nat.lt_succ_self _
   rw[Cf];by_cases hpq:p=q
   .rw[bS hpq];exact⟨_,bB.2 (.inr (bA.2 rfl)),by rw[hpq],hx⟩
   rw[bQ hpq];have:=wK p hp;split at this
   .rename_i y hy;obtain⟨e,h4,h5,h6⟩:=this;exact⟨e,bB.2 (.inl h4),h5,h6⟩
   intro e he;rcases bB.1 he with he|he
   .exact this e he
   rw[bA.1 he];exact λe2=>hpq (Cd L.one hp hlen e2.symm)) (Gi hcl)
  refine⟨_,?_,h1,h2⟩;simp[aR,run_underlying hu,aU hg,L.check w false q hlen,f1,aV _ hg,aY,bk]
 have hj:es[j]? =some e0:=by simpa using f2
 have mc:e0∈es.toList:=bw f2;have tq:j<es.toList.length:=(br.1 f2).1;have qu:(es.modify j (λe'=>{ e' with key:=ep ag q,val:=vx })).toList=es.toList.set j { e0 with key:=ep ag q,val:=vx }:=by
  rw[Array.toList_modify];exact V7 _ _ _ f2
 have hmem:∀ e,e∈es.toList.set j { e0 with key:=ep ag q,val:=vx }↔e={ e0 with key:=ep ag q,val:=vx }\/(e∈es.toList/\e.key≠ep ag q):=by
  intro e;constructor
  .intro he;obtain⟨i,hi,rfl⟩:=bz he;rw[ar6]at hi;rw[List.getElem_set];split
   .exact .inl rfl
   rename_i hij;refine .inr ⟨AI _,λhke=>hij ?_⟩;have e1:es.toList[i]=e0:=Ce hk2 (AI _) mc (hke.trans f3.symm);have e2:es.toList[j]=e0:=(br.1 f2).2;have:=No.1 hk2;rcases asz i j with hlt|heq|hgt
   .exact dP (by rw[e1,e2]) (this i j hi tq hlt)
   .exact heq.symm
   exact dP (by rw[e1,e2]) (this j i tq hi hgt)
  rintro(rfl|⟨he,hke⟩)
  .exact List.mem_set tq _
  obtain⟨i,hi,rfl⟩:=bz he;have hij:j≠i:=by
   rintro rfl;have e2:es.toList[j]=e0:=(br.1 f2).2;exact hke (by rw[e2];exact f3)
  rw[<-List.getElem_set_ne hij (by rw[ar6];exact hi) (a:={ e0 with key:=ep ag q,val:=vx })];exact AI _
 obtain⟨h1,h2⟩:=h.Gh (u':=(q,some x)::u) (es':=es.modify j (λe'=>{ e' with key:=ep ag q,val:=vx })) (clock':=clock) ho hρ hg (by
  rw[qu];refine⟨λe he=>?_,?_,λp hp=>?_⟩
  .rcases(hmem e).1 he with rfl|⟨he,_⟩
   .exact⟨q,hlen,rfl⟩
   exact tn e he
  .have hkeys:(es.toList.set j { e0 with key:=ep ag q,val:=vx }).map (·.key)=es.toList.map (·.key):=by
    rw[asa];exact L6 _ _ (by rw[bD,f2];simp[f3])
   have hp2:(es.toList.map (·.key)).Pairwise (· ≠ ·):=bM.2 hk2;rw[<-hkeys]at hp2;have anh:(es.toList.set j { e0 with key:=ep ag q,val:=vx }).map (·.born)=es.toList.map (·.born):=by
    rw[asa];exact L6 _ _ (by rw[bD,f2];simp)
   have V9:(es.toList.map (·.born)).Pairwise (· ≠ ·):=bM.2 hkb.1;rw[<-anh]at V9;refine⟨bM.1 hp2,bM.1 V9,λe he=>?_⟩;rcases(hmem e).1 he with rfl|⟨he,_⟩
   .exact hkb.2 e0 mc
   exact hkb.2 e he
  rw[Cf];by_cases hpq:p=q
  .rw[bS hpq];exact⟨_,(hmem _).2 (.inl rfl),by rw[hpq],hx⟩
  rw[bQ hpq];have hne:ep ag p≠ep ag q:=λe2=>hpq (Cd L.one hp hlen e2);have:=wK p hp;split at this
  .obtain⟨e,h4,h5,h6⟩:=this;exact⟨e,(hmem e).2 (.inr ⟨h4,by rw[h5];exact hne⟩),h5,h6⟩
  intro e he;rcases(hmem e).1 he with rfl|⟨he,_⟩
  .exact λe2=>hne e2.symm
  exact this e he) (Gi hcl)
 refine⟨_,?_,h1,h2⟩;simp[aR,run_underlying hu,aU hg,L.check w false q hlen,f1,hj,f3,stays,aV _ hg,aY,bk]
theorem ani(hE:ib E)(h:Rel w0 X st a w ρ){t tk ty:au}{m key:A}{r:Nat×Ob}{vm vk:aq}(hm:R w (Ow X ρ) m ρ vm)(hk:R w (Ow X ρ) key ρ vk)(hs:(oX E st.bR t m key none).eval=some r):
  ∃w',(aJ #[t,tk] ty #[vm,vk]).run E.P w= .ok (.tuple #[]) w'/\Rel w0 X ⟨st.tmps,cM st.bR r.1 r.2⟩ a w' ρ/\dz w w' (Ow X ρ) (Ow X ρ) ρ ρ:=by
 unfold oX at hs;split at hs
 case h_2=>cases hs
 rename_i id;split at hs
 case h_2=>cases hs
 rename_i t' ag n cl u hh vv ho;split at hs
 case h_2=>cases hs
 rename_i q hq;split at hs
 case isFalse=>cases hs
 rename_i hc;obtain⟨rfl,hlen,hmp⟩:=hc;simp only[bc,asF]at hs;subst hs;obtain⟨b,es,clock,rfl,hρ,hg,⟨tn,⟨hk2,hkb⟩,wK⟩,hcl⟩:=V4 h hm ho;obtain⟨kt,et,hu,L⟩:=hE.2 _ _ _ hmp;obtain rfl:=L5 hq hk;rcases L.find w q es.toList hlen tn with ⟨f1,f2⟩|⟨j,e0,f1,f2,f3⟩
 .obtain⟨h1,h2⟩:=h.Gh (u':=(q,none)::u) (es':=es) (clock':=clock) ho hρ hg (by
   refine⟨tn,⟨hk2,hkb⟩,λp hp=>?_⟩;rw[Cf];by_cases hpq:p=q
   .rw[bS hpq,hpq];exact f2
   rw[bQ hpq];exact wK p hp) (Gi hcl)
  refine⟨_,?_,h1,h2⟩;simp[aJ,run_underlying hu,aU hg,L.check w _ q hlen,f1,aV _ hg,aY,bk]
 have mc:e0∈es.toList:=bw f2;have tq:j<es.toList.length:=(br.1 f2).1;have hjs:j<es.size:=by simpa using tq
 have hsub:(es.eraseIdxIfInBounds j).toList=es.toList.eraseIdx j:=by
  unfold Array.eraseIdxIfInBounds;rw[dif_pos hjs];simp
 have hmem:∀ e,e∈es.toList.eraseIdx j↔e∈es.toList/\e.key≠ep ag q:=by
  intro e;have e2:es.toList[j]=e0:=(br.1 f2).2;have Wa:=No.1 hk2;rw[List.mem_eraseIdx_iff_getElem];constructor
  .rintro⟨i,ti,hij,rfl⟩;refine⟨AI _,λhke=>?_⟩;rcases Nat.lt_or_gt_of_ne hij with hlt|hgt
   .exact Wa i j ti tq hlt (by rw[e2,hke,f3])
   exact Wa j i tq ti hgt (by rw[e2,hke,f3])
  rintro⟨he,hke⟩;obtain⟨i,hi,rfl⟩:=bz he;exact⟨i,hi,by rintro rfl;exact hke (by rw[e2];exact f3),rfl⟩
 obtain⟨h1,h2⟩:=h.Gh (u':=(q,none)::u) (es':=es.eraseIdxIfInBounds j) (clock':=clock) ho hρ hg (by
  rw[hsub];refine⟨λe he=>tn e ((hmem e).1 he).1,⟨hk2.sublist (anc _ _),hkb.1.sublist (anc _ _),λe he=>hkb.2 e ((hmem e).1 he).1⟩,λp hp=>?_⟩;rw[Cf];by_cases hpq:p=q
  .rw[bS hpq,hpq];exact λe he=>((hmem e).1 he).2
  rw[bQ hpq];have hne:ep ag p≠ep ag q:=λe2=>hpq (Cd L.one hp hlen e2);have:=wK p hp;split at this
  .obtain⟨e,h4,h5,h6⟩:=this;exact⟨e,(hmem e).2 ⟨h4,by rw[h5];exact hne⟩,h5,h6⟩
  exact λe he=>this e ((hmem e).1 he).1) (Gi hcl)
 refine⟨_,?_,h1,h2⟩;simp[aJ,run_underlying hu,aU hg,L.check w _ q hlen,f1,aV _ hg,aY,bk]
theorem anj(hE:ib E)(h:Rel w0 X st a w ρ){t:au}{r:Option aA}{ob:Ob}{d:Nat}(hd:bZ st.bR d= .de)(hs:BG E t (pK (cQ st.tmps) r)=some ob):
  (aP t (r.map a.eval)).run E.P w= .ok (.map (some w.heap.size)) (w.alloc (.map #[] 0))/\Rel w0 X ⟨st.tmps,cM st.bR d ob⟩ a (w.alloc (.map #[] 0)) (dj ρ d (.map w.heap.size))/\
   dz w (w.alloc (.map #[] 0)) (Ow X ρ) (Ow X (dj ρ d (.map w.heap.size))) ρ (dj ρ d (.map w.heap.size)):=by
 have cW:=mE h.tmp;unfold BG at hs;split at hs
 case h_2=>cases hs
 rename_i ag n hmp;obtain⟨kt,et,hu,L⟩:=hE.2 _ _ _ hmp;have dF:∀ b,(Loc.map w.heap.size).has b->b=w.heap.size:=λb hb=>by simpa[a7,iP]using hb
 have cy:fR (w.alloc (.map #[] 0)) (Ow X (dj ρ d (.map w.heap.size))) (dj ρ d (.map w.heap.size)) (.mp t ag n true [] (λ_=>false) (λ_=>.dU)) (.map w.heap.size):=
  ⟨w.heap.size,#[],0,rfl,by rw[heap_alloc_new],⟨λe he=>(by cases he),⟨List.Pairwise.nil,List.Pairwise.nil,λe he=>(by cases he)⟩,λq hq e he=>(by cases he)⟩,λ_ q a _ h=>(by cases h)⟩
 have hrun:∀ v:Option aq,(∀x,v=some x-> ∃k m,x= .int k m)->(aP t v).run E.P w= .ok (.map (some w.heap.size)) (w.alloc (.map #[] 0)):=by
  intro v hv;cases v with
  |none=>simp[aP]
  |some x=>
   obtain⟨k,m,rfl⟩:=hv x rfl;simp[aP,run_underlying hu,asInt,asIntOf,aY]
 cases r with
 |none=>
  simp only[pK,asF]at hs;subst hs;exact⟨hrun _ (λx hx=>by cases hx),h.make hd dF cy,pP _ (h.de hd) dF⟩
 |some x=>
  simp only[pK]at hs;split at hs
  .cases ‹some _=none›
  .rename_i k m hx;simp only[asF]at hs hx;subst hs;refine⟨hrun _ (λy hy=>?_),h.make hd dF cy,pP _ (h.de hd) dF⟩;simp only[asE,asF]at hy;subst hy;have:=cW x;rw[hx]at this;simp only[R]at this;exact⟨k,m,this⟩
  cases hs
end
end Go.Sy
namespace Go.Sy
open Go.RowKit
variable [fI]
def jw(P:ar)(g:az):Bool:=
 match P.funcs[g]? with
 |some fn=>fn.body.isSome&& !(fn.name== "runtime.NumGoroutine")
 |none=>false
structure cJ(P:ar)(f:az)(args:List A)(r:A×Option Ob):Prop where
 lh:jw P f=true
 run:∀ (w:av) (X:Nat->Prop) (vs:List aq),(∀b,X b->b<w.heap.size)->RL w X args b7 vs->
  aC P f vs.toArray w λe w'=>∃ v l,e= .returned v/\fP w.heap.size w w'/\R w' (λb=>X b\/l.has b) r.1 (dj b7 0 l) v/\
   (match r.2 with|none=>l= .de|some ob=>fR w' (λ_=>True) b7 ob l)/\(∀b,l.has b->w.heap.size<=b/\b<w'.heap.size)
structure Wb(P:ar)(f:az)(args:List A)(r:A):Prop where
 lh:jw P f=true
 run:∀ (w:av) (X:Nat->Prop) (vs:List aq),(∀b,X b->b<w.heap.size)->RL w (λ_=>False) args b7 vs->
  aC P f vs.toArray w λe w'=>∃ v,e= .returned v/\fP w.heap.size w w'/\R w' X r b7 v
def uJ(P:ar)(f:az)(args:List A)(r:A×Option Ob):Bool->Prop
 |false=>cJ P f args r
 |true=>Wb P f args r.1/\r.2=none
structure mq(P:ar)(f:az)(args:List A)(ob:Ob)(post:Ob->A->Prop):Prop where
 lh:jw P f=true
 run:∀ (w:av) (l:Loc) (vs:List aq),(∀b,l.has b->b<w.heap.size)->fR w (λb=>l.has b) b7 ob l->RL w (λb=>l.has b) args (dj b7 0 l) vs->
  aC P f vs.toArray w λe w'=>∃ v gS r,e= .returned v/\post gS r/\fP 0 w w'/\(∀b,b<w.heap.size-> ¬l.has b->w'.heap[b]? =w.heap[b]?)/\fR w' (λ_=>True) b7 gS l/\flat 5 r=true/\R w' (λ_=>True) r (dj b7 0 l) v
theorem ank{P:ar}{op:Op}{ev:aA->A}{x:Ob}(h:(sY P op ev).eval=some x):∃ e c n el,x= .row e c n el:=by
 unfold sY at h
 repeat' split at h
 all_goals first
  |(simp only[bd,bc]at h;split at h<;>first|(simp only[asF]at h;exact⟨_,_,_,_,h.symm⟩)|cases h)
  |(simp only[bc]at h;cases h)
  |cases h
def ft(ops:List ay)(tmps:List A)(o:ay):Option Bool:=
 match o.guard with
 |none=>some true
 |some (j,want)=>match rQ ops tmps j with
  | .known b=>some (b==want)
  | .free b _=>some (b==want)
  | .no=>some false
  | .bad=>none
def dm(tmps:List A)(dst:Option Tmp)(v:A):List A:=
 match dst with
 |some d=>eS tmps d v
 |none=>tmps
def gD(E:Env)(B:Nat)(o:ay)(tmps:List A)(bR:List Ob)(v:A)(ob:Option Ob):Prop:=
 match o.op with
 | .call ⟨.value f,args,_⟩=>∃ g vals cl r fh d,K7 bR (cQ tmps f) (kX (cQ tmps) args.toList)=some (g,vals,cl)/\uJ E.P g vals r fh/\o.dst=some d/\BP B d (cl||fh) r=some (v,ob)
 |op=>match kG op with
  |true=>∃ d rw x,o.dst=some d/\(nz E op (cQ tmps)).eval=some (rw,x)/\v=(nA E.lL B d (rw,x)).1/\ob=some (nA E.lL B d (rw,x)).2
  |false=>match mC E.P op with
   |true=>∃ d x,o.dst=some d/\(sY E.P op (cQ tmps)).eval=some x/\v=(nA E.lL B d (true,x)).1/\ob=some (nA E.lL B d (true,x)).2
   |false=>(dZ E bR op (cQ tmps)).eval=some v/\ob=none
def oy(E:Env)(B:Nat)(o:ay)(st cz:St):Prop:=
 match o.op with
 | .store t a x=>∃ r,(l9 E.P st.bR t (cQ st.tmps a) (cQ st.tmps x)).eval=some r/\cz=⟨dm st.tmps o.dst (.cG []),cM st.bR r.1 r.2⟩
 | .call ⟨.builtin .clear,⟨[x]⟩,⟨[t]⟩⟩=>∃ r,(BI E.P st.bR t (cQ st.tmps x)).eval=some r/\cz=⟨dm st.tmps o.dst (.cG []),cM st.bR r.1 r.2⟩
 | .call ⟨.builtin .copy,⟨[x,y]⟩,⟨[t,t']⟩⟩=>∃ r,(BK E.P st.bR t t' (cQ st.tmps x) (cQ st.tmps y)).eval=some r/\cz=⟨dm st.tmps o.dst (.int .i64 (r.2.2:Nat)),cM st.bR r.1 r.2.1⟩
 | .call ⟨.builtin .append,⟨[x,y]⟩,⟨[t,t']⟩⟩=>∃ r d,o.dst=some d/\(nB E.P st.bR t t' (cQ st.tmps x) (cQ st.tmps y)).eval=some r/\bZ (gI st.bR r.1) (B+d)= .de/\
   cz=⟨eS st.tmps d (.own (B+d)),cM (gI st.bR r.1) (B+d) r.2⟩
 | .call ⟨.builtin .delete,⟨[m,q]⟩,⟨[t,_]⟩⟩=>∃ r,(oX E st.bR t (cQ st.tmps m) (cQ st.tmps q) none).eval=some r/\cz=⟨dm st.tmps o.dst (.cG []),cM st.bR r.1 r.2⟩
 | .mapUpdate t m q x=>∃ r,(oX E st.bR t (cQ st.tmps m) (cQ st.tmps q) (some (cQ st.tmps x))).eval=some r/\cz=⟨dm st.tmps o.dst (.cG []),cM st.bR r.1 r.2⟩
 | .insert t m q x=>∃ r,(oX E st.bR t (cQ st.tmps m) (cQ st.tmps q) (some (cQ st.tmps x))).eval=some r/\cz=⟨dm st.tmps o.dst (.cG []),cM st.bR r.1 r.2⟩
 | .makeMap t r=>∃ ob d,o.dst=some d/\BG E t (pK (cQ st.tmps) r)=some ob/\bZ st.bR (B+d)= .de/\cz=⟨eS st.tmps d (.dA (B+d)),cM st.bR (B+d) ob⟩
 |_=>False
def Step(E:Env)(B:Nat)(F:List Nat)(ops:List ay)(o:ay)(st cz:St):Prop:=
 match ft ops st.tmps o with
 |none=>False
 |some false=>cz=⟨dm st.tmps o.dst (.cG []),st.bR⟩
 |some true=>match cls o.op with
  |2=>jo B F ops st.tmps o=true/\oy E B o st cz
  |_=>mD F ops st.tmps o=true/\ ∃v ob,gD E B o st.tmps (ei (ga B F o) st.bR) v ob/\(match ob with
   |none=>cz=⟨dm st.tmps o.dst v,st.bR⟩
   |some x=>∃ d,o.dst=some d/\bZ st.bR (B+d)= .de/\cz=⟨eS st.tmps d v,cM st.bR (B+d) x⟩)
section
variable {w0 w w':av} {X:Nat->Prop} {st cz:St} {a:Act} {ρ ρ':Nat->Loc} {E:Env} {B:Nat} {F:List Nat}
theorem Cg:∀ (F:List Nat) (bR:List Ob) (id:Nat),bZ (ei F bR) id=bZ bR id\/bZ (ei F bR) id= .dead
 |[],bR,id=>.inl rfl
 |d::F,bR,id=>by
  simp only[ei,ef];split
  .exact .inr rfl
  exact Cg F bR id
theorem Rel.Gj(h:Rel w0 X st a w ρ)(F:List Nat):nc w (Ow X ρ) ρ (ei F st.bR):=by
 intro id;rcases Cg F st.bR id with e|e
 .rw[e];exact .inr (h.obj id)
 exact .inl e
theorem Rel.iM(h:Rel w0 X st a w ρ)(dst:Option Tmp){x:A}{v:aq}(hr:R w (Ow X ρ) x ρ v):Rel w0 X ⟨dm st.tmps dst x,st.bR⟩ (a.put dst v) w ρ:=by
 have:=h.put dst hr;cases dst<;>exact this
theorem anl{ops:Array ay}{j:Nat}(h:Rel w0 X st a w ρ):
  match rQ ops.toList st.tmps j with
  | .known b=>yielded ops a.tmps j=some b
  | .free b _=>yielded ops a.tmps j=some b
  | .no=>yielded ops a.tmps j=none
  | .bad=>True:=by
 have anm:∀ o rest,jE j ops.toList=o::rest->ops[j]? =some o:=by
  intro o rest hd;have:∀ (l:List ay) (j:Nat) (o:ay) (rest:List ay),jE j l=o::rest->l[j]? =some o:=by
   intro l
   induction l with
   |nil=>intro j o rest h;cases j<;>simp[jE]at h
   |cons x l ih=>
    intro j o rest h;cases j with
    |zero=>simp[jE]at h;simp[h.1]
    |succ j=>simp only[jE]at h;simpa using ih j o rest h
  simpa using this ops.toList j o rest hd
 have hcell:∀ d v,a.tmps.getD d undef=v->v≠undef->a.tmps[d]? =some v:=by
  intro d v hv hne;rw[ab]at hv;cases hg:a.tmps[d]? with
  |none=>rw[hg]at hv;exact dP hv.symm hne
  |some u=>rw[hg]at hv;simp at hv;rw[hv]
 cases hd:jE j ops.toList with
 |nil=>simp only[rQ,hd]
 |cons o rest=>
  have ho:=anm o rest hd;cases gj:o.dst with
  |none=>simp only[rQ,hd,gj]
  |some d=>
   have ht:=h.tmp d;simp only[rQ,hd,gj];generalize bT st.tmps d=x at ht;cases x with
   |kb b=>
    simp only[R]at ht⊢;have:=hcell d _ ht (by simp[undef]);simp[yielded,ho,gj,this]
   |bool b=>
    simp only[R]at ht⊢;have:=hcell d _ ht (by simp[undef]);simp[yielded,ho,gj,this]
   |cG l=>
    cases l with
    |cons y l=>trivial
    |nil=>
     simp only[R,RL]at ht⊢;obtain⟨vs,hv,rfl⟩:=ht;have hu:a.tmps.getD d undef=undef:=hv;simp only[yielded,ho,gj,Option.bind_some];cases hg:a.tmps[d]? with
     |none=>rfl
     |some u=>
      rw[ab,hg]at hu;simp at hu;rw[hu];rfl
   |_=>trivial
theorem qN{ops:Array ay}{o:ay}{b:Bool}(h:Rel w0 X st a w ρ)(hg:ft ops.toList st.tmps o=some b):Region.wanted o (yielded ops a.tmps)=b:=by
 unfold ft at hg;unfold Region.wanted;split at hg
 .rename_i hn;simp at hg;subst hg;rw[hn]
 rename_i j want hs;rw[hs];have hy:=anl (ops:=ops) (j:=j) h;simp only;split at hg
 .rename_i q hq;rw[hq]at hy;simp only at hy;simp at hg;subst hg;rw[hy];rfl
 .rename_i q d hq;rw[hq]at hy;simp only at hy;simp at hg;subst hg;rw[hy];rfl
 .rename_i hq;rw[hq]at hy;simp only at hy;simp at hg;subst hg;rw[hy];rfl
 cases hg
theorem ann{B d:Nat}{cl:Bool}{r:A×Option Ob}{v:A}{ob:Option Ob}(h:BP B d cl r=some (v,ob)):(flat 5 r.1=true\/cl=true)/\v=eU 0 (B+d) 6 r.1/\ob=r.2:=by
 unfold BP at h;split at h
 .rename_i hb;simp only[asF,asG]at h;obtain⟨rfl,rfl⟩:=h;simp only[Bool.or_eq_true]at hb;exact⟨hb,rfl,rfl⟩
 cases h
theorem Ch{w':av}{O:Nat->Prop}{l:Loc}{ρ':Nat->Loc}{d:Nat}(hd:ρ' d=l):∀ (n:Nat),
  (∀(x:A) (v:aq),R w' O x (dj b7 0 l) v->R w' O (eU 0 d n x) ρ' v)/\(∀(xs:List A) (vs:List aq),RL w' O xs (dj b7 0 l) vs->RL w' O (eP (eU 0 d n) xs) ρ' vs)
 |0=>⟨λx v _=>by simp[eU,R],λxs=>by
   induction xs with
   |nil=>intro vs h;simpa only[eP,RL]using h
   |cons x xs ih=>
    intro vs h;simp only[RL]at h;obtain⟨v,vs',rfl,_,h2⟩:=h;simp only[eP,RL];exact⟨v,vs',rfl,by simp[eU,R],ih vs' h2⟩⟩
 |n+1=>by
  obtain⟨_,ih2⟩:=Ch (w':=w') (O:=O) hd n;have H:∀ (x:A) (v:aq),R w' O x (dj b7 0 l) v->R w' O (eU 0 d (n+1) x) ρ' v:=by
   intro x v h;cases x with
   |own j=>
    simp only[eU];split
    .rename_i hj;subst hj;simp only[R,dM,hd]at h⊢;exact h
    simp only[R]
   |ptr id off=>simp only[eU,R]
   |rp id c i off=>simp only[eU,R]
   |dA j=>
    simp only[eU];split
    .rename_i hj;subst hj;simp only[R,dM,hd]at h⊢;exact h
    simp only[R]
   |ov id c lo n=>simp only[eU,R]
   |ap id i=>simp only[eU,R]
   |bm f id i=>simp only[eU,R]
   |fn f xs=>
    simp only[eU,R]at h⊢;obtain⟨vs,rfl,h⟩:=h;exact⟨vs,rfl,ih2 xs vs h⟩
   |agg xs=>
    simp only[eU,R]at h⊢;obtain⟨vs,rfl,h⟩:=h;exact⟨vs,rfl,ih2 xs vs h⟩
   |bv f xs=>
    simp only[eU,R]at h⊢;obtain⟨vs,rfl,h⟩:=h;exact⟨vs,rfl,ih2 xs vs h⟩
   |cG xs=>
    simp only[eU,R]at h⊢;obtain⟨vs,rfl,h⟩:=h;exact⟨vs,rfl,ih2 xs vs h⟩
   |dU=>simp only[eU,R]
   |_=>first|(simp only[eU,R];done)|simpa only[eU,R]using h
  refine⟨H,λxs=>?_⟩
  induction xs with
  |nil=>intro vs h;simpa only[eP,RL]using h
  |cons x xs ih=>
   intro vs h;simp only[RL]at h;obtain⟨v,vs',rfl,h1,h2⟩:=h;simp only[eP,RL];exact⟨v,vs',rfl,H x v h1,ih vs' h2⟩
theorem tr{w':av}{O O':Nat->Prop}{ρ':Nat->Loc}:∀ (n:Nat),
  (∀(x:A) (v:aq),flat n x=true->R w' O x ρ' v->R w' O' x ρ' v)/\(∀(xs:List A) (vs:List aq),gC (flat n) xs=true->RL w' O xs ρ' vs->RL w' O' xs ρ' vs)
 |0=>⟨λx v h=>by simp[flat]at h,λxs vs h hr=>by
   cases xs with
   |nil=>simpa only[RL]using hr
   |cons x xs=>simp[gC,flat]at h⟩
 |n+1=>by
  obtain⟨_,ih2⟩:=tr (w':=w') (O:=O) (O':=O') (ρ':=ρ') n;have H:∀ (x:A) (v:aq),flat (n+1) x=true->R w' O x ρ' v->R w' O' x ρ' v:=by
   intro x v hf h;cases x with
   |sl c m el=>simp[flat]at hf
   |ip c el=>simp[flat]at hf
   |ptr id off=>simp[flat]at hf
   |rp id c i off=>simp[flat]at hf
   |dA id=>simpa only[R]using h
   |ov id c lo n=>simp[flat]at hf
   |ap id i=>simp[flat]at hf
   |bm f id i=>simp[flat]at hf
   |own id=>simpa only[R]using h
   |im t ag m hh el=>simp[flat]at hf
   |fn f xs=>
    simp only[R]at h⊢;obtain⟨vs,rfl,h⟩:=h;exact⟨vs,rfl,ih2 xs vs hf h⟩
   |agg xs=>
    simp only[R]at h⊢;obtain⟨vs,rfl,h⟩:=h;exact⟨vs,rfl,ih2 xs vs hf h⟩
   |bv f xs=>
    simp only[R]at h⊢;obtain⟨vs,rfl,h⟩:=h;exact⟨vs,rfl,ih2 xs vs hf h⟩
   |cG xs=>
    simp only[R]at h⊢;obtain⟨vs,rfl,h⟩:=h;exact⟨vs,rfl,ih2 xs vs hf h⟩
   |dU=>simp only[R]
   |_=>simpa only[R]using h
  refine⟨H,λxs=>?_⟩
  induction xs with
  |nil=>intro vs _ h;simpa only[RL]using h
  |cons x xs ih=>
   intro vs hf h;simp only[gC,al]at hf;simp only[RL]at h⊢;obtain⟨v,vs',rfl,h1,h2⟩:=h;exact⟨v,vs',rfl,H x v hf.1 h1,ih vs' hf.2 h2⟩
theorem tu{P:ar}{g:az}(h:jw P g=true)(args:Array aq):(callFunc g args).run P w= .ok (.enter g args) w:=by
 unfold jw at h;split at h
 .rename_i fn hf;simp only[al,Bool.not_eq_true']at h;have h1:fn.body.isNone=false:=by cases hb:fn.body<;>simp_all
  simp only[callFunc,a6,run_program,aX,hf,h.2,h1,ic,Bool.false_eq_true,aZ]
 cases h
def fw(ro:Option Nat):Fence:={ Fence.wide with round:=ro }
theorem rX{ro:Option Nat}{n:Nat}{P:ar}{f:az}{args:Array aq}{w:av}{R:Ending->av->Prop}:CallsIn (fw ro) n P f args w R↔aC P f args w R:=callsIn_wide (n:=n)
theorem put_defers(a:Act)(dst:Option Tmp)(v:aq):(a.put dst v).defers=a.defers:=by cases dst<;>rfl
theorem Step.sound{ops:Array ay}{o:ay}(hE:ib E)(h:Rel w0 X st a w ρ)(hs:Step E B F ops.toList o st cz){K:Act->av->Prop}{Q:Exit->Act->av->Prop}{ro:Option Nat}{n:Nat}
  (hK':∀ a' w' ρ',Rel w0 X cz a' w' ρ'->dz w w' (Ow X ρ) (Ow X ρ') ρ ρ'->a'.defers=a.defers->K a' w'):
  if Region.wanted o (yielded ops a.tmps)then o.wpIn (fw ro) n E.P a w K Q else(∀f,o.about E.P w a.eval=some f->(fw ro).fn f)/\K (a.put o.dst undef) w:=by
 have hK:∀ v w' ρ',Rel w0 X cz (a.put o.dst v) w' ρ'->dz w w' (Ow X ρ) (Ow X ρ') ρ ρ'->K (a.put o.dst v) w':=λv w' ρ' h1 h2=>hK' _ w' ρ' h1 h2 (put_defers _ _ _);unfold Step at hs;have cW:=mE h.tmp;split at hs
 .exact hs.elim
 .rename_i hg;rw[qN h hg,bQ (by simp)];subst hs;exact⟨λ_ _=>trivial,hK _ _ ρ (h.iM o.dst (by simp only[R,RL];exact⟨[],rfl,rfl⟩)) ⟨asc _,λ_ _ _=>rfl,λ_ _ h=>h,λ_=>.inl rfl⟩⟩
 rename_i hg;rw[qN h hg,bS rfl];refine⟨λ_ _=>trivial,?_⟩;split at hs
 ·
  replace hs:=hs.2
  unfold oy at hs;split at hs
  .rename_i t x y hop;obtain⟨r,hr,rfl⟩:=hs;obtain⟨w',hrun,hrel,hL⟩:=amV h (cW x) (cW y) hr;have hx:(execOp a.eval o).run E.P w= .ok .skip w':=by simp[execOp,hop,hrun]
   rw[aW _ _ _ (by rw[hop];intro c hc;cases hc),hx];exact hK _ _ ρ (hrel.iM o.dst (by simp only[R,RL];exact⟨[],rfl,rfl⟩)) hL
  .rename_i x t hop;obtain⟨r,hr,rfl⟩:=hs;obtain⟨w',hrun,hrel,hL⟩:=amY (ty:=o.type) h (cW x) hr;have hx:(execOp a.eval o).run E.P w= .ok (.value (.tuple #[])) w':=by simp[execOp,hop,resolve,invoke,builtin,hrun]
   rw[aW _ _ _ (by rw[hop];intro c hc;cases hc),hx];exact hK _ _ ρ (hrel.iM o.dst (by simp only[R,RL];exact⟨[],rfl,rfl⟩)) hL
  .rename_i x y t t' hop;obtain⟨⟨r1,r2,r3⟩,hr,rfl⟩:=hs;obtain⟨w',hrun,hrel,hL⟩:=am4 (ty:=o.type) h (cW x) (cW y) hr;have hx:(execOp a.eval o).run E.P w= .ok (.value (goInt (r3:Nat))) w':=by simp[execOp,hop,resolve,invoke,builtin,hrun]
   rw[aW _ _ _ (by rw[hop];intro c hc;cases hc),hx];exact hK _ _ ρ (hrel.iM o.dst (by simp only[R];rfl)) hL
  .rename_i x y t t' hop;obtain⟨r,d,hd,hr,hv,rfl⟩:=hs;obtain⟨kill,ob⟩:=r;obtain⟨v',w',hrun,po,hrel,hL⟩:=ana (ty:=o.type) h (cW x) (cW y) hr hv;have hx:(execOp a.eval o).run E.P w= .ok (.value v') w':=by simp[execOp,hop,resolve,invoke,builtin,hrun]
   rw[aW _ _ _ (by rw[hop];intro c hc;cases hc),hx];refine hK _ _ (dj (iA ρ kill) (B+d) (.row v')) ?_ hL;rw[hd];exact hrel.iM (some d) (x:=.own (B+d)) (by simp only[R,dM];exact⟨bP,po⟩)
  .rename_i m q t tk hop;obtain⟨r,hr,rfl⟩:=hs;obtain⟨w',hrun,hrel,hL⟩:=ani (tk:=tk) (ty:=o.type) hE h (cW m) (cW q) hr;have hx:(execOp a.eval o).run E.P w= .ok (.value (.tuple #[])) w':=by simp[execOp,hop,resolve,invoke,builtin,hrun]
   rw[aW _ _ _ (by rw[hop];intro c hc;cases hc),hx];exact hK _ _ ρ (hrel.iM o.dst (by simp only[R,RL];exact⟨[],rfl,rfl⟩)) hL
  .rename_i t m q x hop;obtain⟨r,hr,rfl⟩:=hs;obtain⟨w',hrun,hrel,hL⟩:=V8 hE h (cW m) (cW q) (cW x) hr;have hx:(execOp a.eval o).run E.P w= .ok .skip w':=by simp[execOp,hop,hrun]
   rw[aW _ _ _ (by rw[hop];intro c hc;cases hc),hx];exact hK _ _ ρ (hrel.iM o.dst (by simp only[R,RL];exact⟨[],rfl,rfl⟩)) hL
  .rename_i t m q x hop;obtain⟨r,hr,rfl⟩:=hs;obtain⟨w',hrun,hrel,hL⟩:=V8 hE h (cW m) (cW q) (cW x) hr;have hx:(execOp a.eval o).run E.P w= .ok .skip w':=by simp[execOp,hop,hrun]
   rw[aW _ _ _ (by rw[hop];intro c hc;cases hc),hx];exact hK _ _ ρ (hrel.iM o.dst (by simp only[R,RL];exact⟨[],rfl,rfl⟩)) hL
  .rename_i t r hop;obtain⟨ob,d,hd,hr,hv,rfl⟩:=hs;obtain⟨hrun,hrel,hL⟩:=anj hE h hv hr;have hx:(execOp a.eval o).run E.P w= .ok (.value (.map (some w.heap.size))) (w.alloc (.map #[] 0)):=by simp[execOp,hop,hrun]
   rw[aW _ _ _ (by rw[hop];intro c hc;cases hc),hx];refine hK _ _ (dj ρ (B+d) (.map w.heap.size)) ?_ hL;rw[hd];exact hrel.iM (some d) (x:=.dA (B+d)) (by simp only[R,dM])
  exact hs.elim
 obtain⟨_,v,ob,ng,hst⟩:=hs;unfold gD at ng;split at ng
 ·
  rename_i f args ts hop;obtain⟨g,vals,cl,r,fh,d,hcp,oz,hd,iT⟩:=ng;have hent:jw E.P g=true:=by
   cases fh with
   |false=>exact oz.lh
   |true=>exact oz.1.lh
  obtain⟨gx,rfl,rfl⟩:=ann iT;unfold K7 at hcp;split at hcp
  .rename_i g' fN lH;split at hcp
   .rename_i arQ Wc;simp only[asF,asG]at hcp;obtain⟨rfl,rfl,rfl⟩:=hcp;have hf:=cW f;rw[lH]at hf;simp only[R]at hf;obtain⟨pT,hfe,tw⟩:=hf;have hall:=RL.append (oY cW args.toList) tw;have hx:(execOp a.eval o).run E.P w= .ok (.enter g' (args.toList.map a.eval++pT).toArray) w:=by
     simp only[execOp,hop,resolve,hfe,Deferred.ofValue,a6,aZ,aX,invoke];rw[tu hent];congr 2;simp
    rw[aW _ _ _ (by rw[hop];intro c hc;cases hc),hx];refine And.intro (λh=>(by cases h)) ?_;rw[rX];have Wd:=(Gf (O':=λ_=>False) (h.Gj (ga B F o)) (λ_ _ h=>h.elim) (λid b _ hb=>⟨(h.new b ⟨id,hb⟩).2,λh=>h⟩) 5).2 _ _ _ hall Wc;have We:∀ b,Ow X ρ b->b<w.heap.size:=λb hb=>by
     rcases hb with hb|hb
     .exact asg (h.fu b hb) h.size
     exact(h.new b hb).2
    have L7:∃ Y:Nat->Prop,(flat 5 r.1=true\/ ∀b,Ow X ρ b->Y b)/\aC E.P g' (args.toList.map a.eval++pT).toArray w λe w'=>∃ v l,e= .returned v/\fP w.heap.size w w'/\R w' (λb=>Y b\/l.has b) r.1 (dj b7 0 l) v/\
      (match r.2 with|none=>l= .de|some ob=>fR w' (λ_=>True) b7 ob l)/\(∀b,l.has b->w.heap.size<=b/\b<w'.heap.size):=by
     cases fh with
     |true=>
      obtain⟨⟨_,iu⟩,jO⟩:=oz;refine⟨Ow X ρ,.inr λ_ h=>h,(iu w (Ow X ρ) _ We Wd).mono ?_⟩;rintro e w' ⟨v,rfl,hb,hr⟩;refine⟨v,.de,rfl,hb,?_,by rw[jO],λb hb=>hb.elim⟩;have h0:dj b7 0 Loc.de=b7:=by funext i;simp[dj,b7]
      rw[h0];exact a8 _ b7 b7 v ⟨asc _,λ_ _ _=>rfl,λb _ ho=>ho.elim (λh=>h) λh=>h.elim,λ_=>.inl rfl⟩ hr
     |false=>
      have hfn:=oz.run;rw[Bool.or_false]at gx;rcases gx with gx|hcl
      .exact⟨λ_=>False,.inl gx,hfn w _ _ (λb h=>h.elim) Wd⟩
      exact⟨Ow X ρ,.inr λ_ h=>h,hfn w _ _ We ((VZ 5).2 _ _ _ 5 hcl Wc hall)⟩
    obtain⟨Y,yZ,L7⟩:=L7;refine L7.mono ?_;rintro e w' ⟨rv,l,rfl,hb,hr,cy,rW⟩;simp only
    suffices hh:Rel w0 X cz (a.put o.dst rv) w' (match r.2 with|none=>ρ|some _=>dj ρ (B+d) l)/\dz w w' (Ow X ρ) (Ow X (match r.2 with|none=>ρ|some _=>dj ρ (B+d) l)) ρ (match r.2 with|none=>ρ|some _=>dj ρ (B+d) l)from hK _ _ _ hh.1 hh.2
    have hsame:∀ b,b<w.heap.size->w'.heap[b]? =w.heap[b]?:=λb hb'=>hb.block b hb';cases jO:r.2 with
    |none=>
     rw[jO]at hst cy;simp only at hst cy⊢;subst hst;subst cy;have hL:dz w w' (Ow X ρ) (Ow X ρ) ρ ρ:=⟨hb.size,λb hb' _=>hsame b hb',λ_ _ h=>h,λ_=>.inl rfl⟩;have hrel:Rel w0 X ⟨st.tmps,st.bR⟩ a w' ρ:=h.next hL (h.kept.trans (hb.mono h.size)) (λid=>(h.obj id).later hL λb hb'=>hsame b (h.new b ⟨id,hb'⟩).2) h.dJ (λb hb'=>⟨(h.new b hb').1,asg (h.new b hb').2 hb.size⟩);refine⟨?_,hL⟩;rw[hd];refine hrel.iM (some d) ?_;have h0:dj b7 0 Loc.de=b7:=by funext i;simp[dj,b7]
     rw[h0]at hr;have nE:R w' (Ow X ρ) (eU 0 (B+d) 6 r.1) b7 rv:=by
      have h1:R w' (Ow X ρ) r.1 b7 rv:=by
       rcases yZ with hf|yZ
       .exact(tr 5).1 _ _ hf hr
       exact a8 _ b7 b7 rv ⟨asc _,λ_ _ _=>rfl,λb _ ho=>.inl (yZ b ho),λ_=>.inl rfl⟩ hr
      have:=(Ch (w':=w') (O:=Ow X ρ) (l:=.de) (ρ':=b7) (d:=B+d) rfl 6).1 r.1 rv (by rw[h0];exact h1);exact this
     exact a8 _ b7 ρ rv ⟨asc _,λ_ _ _=>rfl,λ_ _ h=>h,λ_=>.inr (.inl rfl)⟩ nE
    |some ob=>
     rw[jO]at hst cy;simp only at hst cy⊢;obtain⟨d',fm,tx,hst⟩:=hst;rw[hd]at fm;cases fm;subst hst;have hvd:=h.de tx;have hL:dz w w' (Ow X ρ) (Ow X (dj ρ (B+d) l)) ρ (dj ρ (B+d) l):=by
      refine⟨hb.size,λb hb' _=>hsame b hb',λb hb' ho=>?_,λid=>?_⟩
      .rcases ho with ho|ho
       .exact .inl ho
       rcases B5 ho with ho|ho
       .exact .inr ho
       have:=(rW b ho).1;omega
      by_cases cn:id=B+d
      .subst cn;exact .inr (.inl hvd)
      exact .inl (dX _ _ _ cn)
     have hO:∀ b,Ow X (dj ρ (B+d) l) b->Ow X ρ b\/l.has b:=by
      rintro b (ho|ho)
      .exact .inl (.inl ho)
      rcases B5 ho with ho|ho
      .exact .inl (.inr ho)
      exact .inr ho
     have hrel:Rel w0 X ⟨st.tmps,cM st.bR (B+d) ob⟩ a w' (dj ρ (B+d) l):=by
      refine h.next hL (h.kept.trans (hb.mono h.size)) (λid=>?_) (λi j b hi hj=>?_) (λb hb'=>?_)
      .rw[ef];by_cases cn:id=B+d
       .subst cn;rw[bS rfl,dM];exact fR.later (ρ:=b7) ⟨asc _,λ_ _ hn=>(hn bP).elim,λ_ _ _=>trivial,λ_=>.inr (.inl rfl)⟩ (λ_ _=>rfl) cy
       rw[bQ cn,dX _ _ _ cn];exact(h.obj id).later hL λb hb'=>hsame b (h.new b ⟨id,hb'⟩).2
      .by_cases cn:i=B+d<;>by_cases mH:j=B+d
       .rw[cn,mH]
       .subst cn;rw[dM]at hi;rw[dX _ _ _ mH]at hj;have:=(h.new b ⟨j,hj⟩).2;have:=(rW b hi).1;omega
       .subst mH;rw[dM]at hj;rw[dX _ _ _ cn]at hi;have:=(h.new b ⟨i,hi⟩).2;have:=(rW b hj).1;omega
       rw[dX _ _ _ cn]at hi;rw[dX _ _ _ mH]at hj;exact h.dJ i j b hi hj
      rcases B5 hb' with hb'|hb'
      .exact⟨(h.new b hb').1,asg (h.new b hb').2 hb.size⟩
      have:=rW b hb';exact⟨asr h.size this.1,this.2⟩
     have hput:=hrel.iM (some d) (x:=eU 0 (B+d) 6 r.1) (v:=rv) (by
      have h1:R w' (Ow X (dj ρ (B+d) l)) r.1 (dj b7 0 l) rv:=by
       rcases yZ with hf|yZ
       .exact(tr 5).1 _ _ hf hr
       refine a8 _ _ _ rv ⟨asc _,λ_ _ _=>rfl,λb _ ho=>?_,λ_=>.inl rfl⟩ hr;rcases hO b ho with ho|ho
       .exact .inl (yZ b ho)
       exact .inr ho
      exact(Ch (ρ':=dj ρ (B+d) l) (dM _ _ _) 6).1 r.1 rv h1)
     rw[hd];exact⟨hput,hL⟩
   cases hcp
  cases hcp
 rename_i hnc;split at ng
 .rename_i hmk;obtain⟨d,nh,x,hd,uK,rfl,rfl⟩:=ng;simp only at hst;obtain⟨d',fm,tx,rfl⟩:=hst;rw[hd]at fm;cases fm;obtain⟨v,l,obj,hrun,dF,cy,hr⟩:=amR h tx uK;rw[aW _ _ _ (by intro c hc;rw[hc]at hmk;cases hmk),hrun];rcases VY E.lL B d nh x with hz|⟨e,c,n,el,rfl,rfl,hz⟩
  .rw[hz]at hK;refine hK _ _ (dj ρ (B+d) l) ?_ (pP _ (h.de tx) dF);rw[hd];exact(h.make tx dF cy).iM (some d) hr
  rw[hz]at hK;have Wf:∀ b,Loc.dead.has b->b=w.heap.size:=λb hb=>by cases hb
  refine hK _ _ (dj ρ (B+d) .dead) ?_ (pP _ (h.de tx) Wf);rw[hd];refine(h.make (ob:=.dead) tx Wf rfl).iM (some d) ?_;have uL:=cy;obtain⟨v',xs,hl,_⟩:=uL;subst hl;simp only[rP,R,dM]at hr;obtain⟨rfl,_⟩:=hr;refine yY cy rfl (λb hb ho=>?_) (λb hb=>?_)
  .rcases ho with ho|⟨id,ho⟩
   .exact .inl ho
   by_cases cn:id=B+d
   .subst cn;rw[dM]at ho;cases ho
   rw[dX _ _ _ cn]at ho;exact .inr ⟨id,by rw[dX _ _ _ cn];exact ho⟩
  have hb':=dF b hb;subst hb';refine⟨by simp,?_⟩;rintro(ho|⟨id,ho⟩)
  .have:=h.fu _ ho;have:=h.kept.size;omega
  by_cases cn:id=B+d
  .subst cn;rw[dM]at ho;cases ho
  rw[dX _ _ _ cn]at ho;have:=(h.new _ ⟨id,ho⟩).2;omega
 split at ng
 .rename_i hmk hsb;obtain⟨d,x,hd,uK,rfl,rfl⟩:=ng;simp only at hst;obtain⟨d',fm,tx,rfl⟩:=hst;rw[hd]at fm;cases fm;obtain⟨v,w',hrun,po,hrel,hL,dF,Gg⟩:=anb h tx hsb uK;rw[aW _ _ _ (by intro c hc;rw[hc]at hsb;cases hsb),hrun];rcases VY E.lL B d true x with hz|⟨e,c,n,el,_,rfl,hz⟩
  .rw[hz]at hK;obtain⟨e,c,n,el,rfl⟩:=ank uK;refine hK _ _ (dj ρ (B+d) (.row v)) ?_ hL;rw[hd];exact hrel.iM (some d) (x:=.own (B+d)) (by simp only[R,dM];exact⟨bP,po⟩)
  rw[hz]at hK;have cy:=hrel.obj (B+d);simp only[ef,iI,dM]at cy;have L8:dz w w' (Ow X ρ) (Ow X (dj ρ (B+d) .dead)) ρ (dj ρ (B+d) .dead):=
   ⟨hL.size,hL.same,λb hb ho=>hL.own b hb (by
    rcases ho with ho|⟨id,ho⟩
    .exact .inl ho
    .by_cases cn:id=B+d
     .subst cn;rw[dM]at ho;cases ho
     rw[dX _ _ _ cn]at ho;exact .inr ⟨id,by rw[dX _ _ _ cn];exact ho⟩),λid=>by
    by_cases cn:id=B+d
    .subst cn;exact .inr (.inr (dM _ _ _))
    exact .inl (dX _ _ _ cn)⟩
  refine hK _ _ (dj ρ (B+d) .dead) ?_ L8;rw[hd];have Gk:Rel w0 X ⟨st.tmps,cM st.bR (B+d) .dead⟩ a w' (dj ρ (B+d) .dead):=by
   refine h.next L8 hrel.kept (λid=>?_) (λi j b hi hj=>?_) (λb hb=>?_)
   .rw[ef];by_cases cn:id=B+d
    .subst cn;rw[bS rfl,dM];rfl
    rw[bQ cn,dX _ _ _ cn];exact(h.obj id).later L8 λb hb=>Gg.block b (h.new b ⟨id,hb⟩).2 (by simp)
   .by_cases cn:i=B+d
    .subst cn;rw[dM]at hi;cases hi
    by_cases mH:j=B+d
    .subst mH;rw[dM]at hj;cases hj
    rw[dX _ _ _ cn]at hi;rw[dX _ _ _ mH]at hj;exact h.dJ i j b hi hj
   obtain⟨id,ho⟩:=hb;by_cases cn:id=B+d
   .subst cn;rw[dM]at ho;cases ho
   rw[dX _ _ _ cn]at ho;have:=h.new b ⟨id,ho⟩;exact⟨this.1,asg this.2 hL.size⟩
  refine Gk.iM (some d) ?_;refine yY cy rfl (λb hb ho=>?_) (λb hb=>?_)
  .rcases ho with ho|⟨id,ho⟩
   .exact .inl ho
   by_cases cn:id=B+d
   .subst cn;rw[dM]at ho;cases ho
   rw[dX _ _ _ cn]at ho;exact .inr ⟨id,by rw[dX _ _ _ cn];exact ho⟩
  have hb':=dF b hb;subst hb';have rW:=hrel.new w.heap.size ⟨B+d,by rw[dM];exact hb⟩;refine⟨rW.2,?_⟩;rintro(ho|⟨id,ho⟩)
  .have:=h.fu _ ho;have:=h.kept.size;omega
  by_cases cn:id=B+d
  .subst cn;rw[dM]at ho;cases ho
  rw[dX _ _ _ cn]at ho;have:=(h.new _ ⟨id,ho⟩).2;omega
 obtain⟨hv,rfl⟩:=ng;simp only at hst;subst hst;obtain⟨v',hrun,hr⟩:∃ v',(execOp a.eval o).run E.P w= .ok (.value v') w/\R w (Ow X ρ) v ρ v':=by
  by_cases hlk:∃ t m q ok,o.op= .lookup t m q ok
  .obtain⟨t,m,q,ok,hop⟩:=hlk;rw[hop]at hv;obtain⟨v',hrun,gR⟩:=ang hE (h.Gj (ga B F o)) (cW m) (cW q) hv;exact⟨v',by simp[execOp,hop,hrun],gR⟩
  exact amO hE cW (h.Gj (ga B F o)) (λt m q ok e=>hlk ⟨t,m,q,ok,e⟩) hv
 rw[aW _ _ _ (by intro c hc;rw[hc]at hv;simp[dZ,bc]at hv),hrun];exact hK _ _ ρ (h.iM o.dst hr) ⟨asc _,λ_ _ _=>rfl,λ_ _ h=>h,λ_=>.inl rfl⟩
end
end Go.Sy
namespace Go.Sy
open Go.RowKit
variable [fI]
def gA(E:Env)(B:Nat)(F:List Nat)(ops:Array ay):List Nat->St->St->Prop
 |[],st,cz=>cz=st
 |i::l,st,cz=>∃ o s1,ops[i]? =some o/\Step E B F ops.toList o st s1/\gA E B F ops l s1 cz
theorem gA.append{E:Env}{B:Nat}{F:List Nat}{ops:Array ay}:∀ {l m:List Nat} {st cz:St},gA E B F ops (l++m) st cz↔ ∃s1,gA E B F ops l st s1/\gA E B F ops m s1 cz
 |[],m,st,cz=>by simp[gA]
 |i::l,m,st,cz=>by
  simp only[ar5,gA];constructor
  .rintro⟨o,s1,h1,h2,h3⟩;obtain⟨s2,h4,h5⟩:=gA.append.1 h3;exact⟨s2,⟨o,s1,h1,h2,h4⟩,h5⟩
  rintro⟨s2,⟨o,s1,h1,h2,h4⟩,h5⟩;exact⟨o,s1,h1,h2,gA.append.2 ⟨s2,h4,h5⟩⟩
theorem dz.refl(w:av)(O:Nat->Prop)(ρ:Nat->Loc):dz w w O O ρ ρ:=⟨asc _,λ_ _ _=>rfl,λ_ _ h=>h,λ_=>.inl rfl⟩
theorem dz.trans{w w1 w2:av}{O O1 O2:Nat->Prop}{ρ ρ1 ρ2:Nat->Loc}(h:dz w w1 O O1 ρ ρ1)(k:dz w1 w2 O1 O2 ρ1 ρ2):dz w w2 O O2 ρ ρ2:=by
 refine⟨asr h.size k.size,λb hb hn=>?_,λb hb ho=>?_,λid=>?_⟩
 .have h1:¬ O1 b:=λho=>hn (h.own b hb ho);exact(k.same b (asg hb h.size) h1).trans (h.same b hb hn)
 .exact h.own b hb (k.own b (asg hb h.size) ho)
 rcases h.loc id with e|e|e
 .rcases k.loc id with e'|e'|e'
  .exact .inl (e'.trans e)
  .exact .inr (.inl (e.symm.trans e'))
  exact .inr (.inr e')
 .exact .inr (.inl e)
 rcases k.loc id with e'|e'|e'
 .exact .inr (.inr (e'.trans e))
 .rw[e]at e';cases e'
 exact .inr (.inr e')
section
variable {w0:av} {X:Nat->Prop} {E:Env} {B:Nat}
theorem gA.sound{F:List Nat}{ops:Array ay}(hE:ib E){Q:Exit->Act->av->Prop}{ro:Option Nat}{n:Nat}:∀ (l:List Nat) (st cz:St) (a:Act) (w:av) (ρ:Nat->Loc),gA E B F ops l st cz->Rel w0 X st a w ρ->
  (∀a' w' ρ',Rel w0 X cz a' w' ρ'->dz w w' (Ow X ρ) (Ow X ρ') ρ ρ'->a'.defers=a.defers->Q .normal a' w')->wpOpsIn (fw ro) n E.P ops Q l a w
 |[],st,cz,a,w,ρ,hr,h,hq=>by
  simp only[gA]at hr;subst hr;exact hq a w ρ h (dz.refl _ _ _) rfl
 |i::l,st,cz,a,w,ρ,hr,h,hq=>by
  simp only[gA]at hr;obtain⟨o,s1,ho,hs,hr⟩:=hr;simp only[wpOpsIn,ho];exact Step.sound hE h hs λa' w' ρ' h' hL hd=>gA.sound hE l s1 cz a' w' ρ' hr h' λtz w'' ρ'' h'' L9 fm=>hq tz w'' ρ'' h'' (hL.trans L9) (fm.trans hd)
theorem gA.Wg{F:List Nat}{ops:Array ay}(hE:ib E){Q:Exit->Act->av->Prop}{ro:Option Nat}{n:Nat}{m:List Nat}:∀ (l:List Nat) (st cz:St) (a:Act) (w:av) (ρ:Nat->Loc),gA E B F ops l st cz->Rel w0 X st a w ρ->
  (∀a' w' ρ',Rel w0 X cz a' w' ρ'->dz w w' (Ow X ρ) (Ow X ρ') ρ ρ'->a'.defers=a.defers->wpOpsIn (fw ro) n E.P ops Q m a' w')->wpOpsIn (fw ro) n E.P ops Q (l++m) a w
 |[],st,cz,a,w,ρ,hr,h,hq=>by
  simp only[gA]at hr;subst hr;exact hq a w ρ h (dz.refl _ _ _) rfl
 |i::l,st,cz,a,w,ρ,hr,h,hq=>by
  simp only[gA]at hr;obtain⟨o,s1,ho,hs,hr⟩:=hr;simp only[ar5,wpOpsIn,ho];exact Step.sound hE h hs λa' w' ρ' h' hL hd=>gA.Wg hE l s1 cz a' w' ρ' hr h' λtz w'' ρ'' h'' L9 fm=>hq tz w'' ρ'' h'' (hL.trans L9) (fm.trans hd)
theorem Ma(w:av)(O:Nat->Prop)(ρ:Nat->Loc):dz w { w with drawn:=w.drawn+1 } O O ρ ρ:=⟨asc _,λ_ _ _=>rfl,λ_ _ h=>h,λ_=>.inl rfl⟩
theorem Rel.drew{st:St}{a:Act}{w:av}{ρ:Nat->Loc}(h:Rel w0 X st a w ρ):Rel w0 X st a { w with drawn:=w.drawn+1 } ρ:=
 h.next (Ma w _ ρ) ⟨h.kept.os,h.kept.tape,h.kept.output,h.kept.size,h.kept.block,fI.trans h.kept.drawn (fI.le (asq _))⟩ (λid=>(h.obj id).later (Ma w _ ρ) λ_ _=>rfl) h.dJ h.new
end
inductive iU (K:List (Nat×Bool)->St->Prop) (C:List (Nat×Bool)->St->Option Tmp->A->List A->Prop):OT->Prop where
 |more {kn st} (h:K kn st):iU K C (.more kn st)
 |ite {b t e} (h:b=true->iU K C t) (h':b=false->iU K C e):iU K C (.ite b t e)
 |call {kn st dst f args} (h:C kn st dst f args):iU K C (.call kn st dst f args)
theorem iU.Wh{K C}{b:Bool}{t e:OT}(h:iU K C (.ite b t e)):iU K C (match b with|true=>t|false=>e):=by
 cases h with
 |ite h h'=>cases b<;>simp_all
theorem T.go_sat{K C}{α:Type}:∀ {t:T α} {k:α->OT},iU K C (t.go k)-> ∃x,t.eval=some x/\iU K C (k x)
 | .ret a,k,h=>⟨a,rfl,h⟩
 | .ite b t e,k,h=>by
  have:=iU.Wh h;cases b
  .obtain⟨x,h1,h2⟩:=T.go_sat this;exact⟨x,h1,h2⟩
  obtain⟨x,h1,h2⟩:=T.go_sat this;exact⟨x,h1,h2⟩
 | .fail,k,h=>by cases h
theorem Wi{α:Type}:∀ (l:List α) (n:Nat) (v:α) (k:List α->OT),yL l n v k=k (eS l n v)
 |[],n,v,k=>by simp[yL,eS]
 |a::l,0,v,k=>by simp[yL,eS]
 |a::l,n+1,v,k=>by simp[yL,eS,Wi l n v]
theorem Ci:∀ (l:List A) (k:List A->OT),qG l k=k l
 |[],k=>rfl
 |a::l,k=>by
  simp only[qG,Ci l];cases a<;>first|rfl|(rename_i b;cases b<;>rfl)
theorem Wj(a:A)(k:A->OT):FK a k=k a:=by
 cases a<;>simp only[FK,Ci]
 .rename_i b;cases b<;>rfl
 .rename_i off;cases off<;>rfl
 rename_i off;cases off<;>rfl
theorem Mc(a:Ob)(k:Ob->OT):BL a k=k a:=by
 cases a<;>simp only[BL,Ci]
 .rename_i t ag n cl u h v;cases cl<;>rfl
 rename_i te e c n len el h;cases h with
 |none=>rfl
 |some p=>obtain⟨i,x⟩:=p;simp only[Wj]
theorem Wk(l:List A)(n:Nat)(v:A)(k:List A->OT):FL l n v k=k (eS l n v):=by rw[FL,Wj,Wi]
theorem Md:∀ (l:List Ob) (n:Nat) (v:Ob) (k:List Ob->OT),uB l n v k=k (cM l n v)
 |[],0,v,k=>by simp[uB,cM]
 |[],n+1,v,k=>by simp[uB,cM,Md [] n v]
 |a::l,0,v,k=>by simp[uB,cM]
 |a::l,n+1,v,k=>by simp[uB,cM,Md l n v]
theorem nF(l:List Ob)(n:Nat)(v:Ob)(k:List Ob->OT):ma l n v k=k (cM l n v):=by rw[ma,Mc,Md]
theorem rY(st:St)(dst:Option Tmp)(v:A)(k:St->OT):gM st dst v k=k ⟨dm st.tmps dst v,st.bR⟩:=by
 obtain⟨ts,os⟩:=st;cases dst with
 |none=>rfl
 |some d=>rw[gM];exact Wk _ _ _ _
section
variable {E:Env} {B:Nat} {F:List Nat} {K:List (Nat×Bool)->St->Prop} {C:List (Nat×Bool)->St->Option Tmp->A->List A->Prop}
def jq(kn:List (Nat×Bool))(tmps:List A):Prop:=∀ d v,pL kn d=some v->bT tmps d= .bool v
theorem Wl:∀ (kn:List (Nat×Bool)) (dst:Option Nat) (k:List (Nat×Bool)->OT),BM kn dst k=k (nb kn dst)
 |[],none,k=>rfl
 |[],some _,k=>rfl
 |(d,v)::l,none,k=>rfl
 |(d,v)::l,some n,k=>by
  simp only[BM,nb,Wl l];split<;>rfl
theorem jq.erase{kn:List (Nat×Bool)}{tmps:List A}(h:jq kn tmps)(dst:Option Nat)(x:A):jq (nb kn dst) (dm tmps dst x):=by
 cases dst with
 |none=>simpa[nb,dm]using h
 |some n=>
  intro d v hd;have key:∀ (kn:List (Nat×Bool)),pL (nb kn (some n)) d=some v->d≠n/\pL kn d=some v:=by
   intro kn
   induction kn with
   |nil=>intro h;simp[nb,pL]at h
   |cons p l ih=>
    intro h;obtain⟨q,u⟩:=p;simp only[nb]at h;split at h
    .rename_i hq;obtain⟨h1,h2⟩:=ih h;refine⟨h1,?_⟩;simp only[pL];rw[bQ (by omega)];exact h2
    rename_i hq;simp only[pL]at h⊢;split at h
    .rename_i Me;subst Me;exact⟨hq,by rw[bS rfl];exact h⟩
    rename_i Me;obtain⟨h1,h2⟩:=ih h;exact⟨h1,by rw[bQ Me];exact h2⟩
  obtain⟨h1,h2⟩:=key kn hd;simp only[dm,th];rw[bQ (by simp[h1])];exact h d v h2
theorem jq.cons{kn:List (Nat×Bool)}{tmps:List A}(h:jq kn tmps){d:Nat}{v:Bool}(hd:bT tmps d= .bool v):jq ((d,v)::kn) tmps:=by
 intro n u hn;simp only[pL]at hn;split at hn
 .rename_i he;subst he;simp at hn;subst hn;exact hd
 exact h n u hn
def ni(E:Env)(B:Nat)(F:List Nat)(o:ay)(st cz:St):Prop:=
 match cls o.op with
 |2=>oy E B o st cz
 |_=>∃ v ob,gD E B o st.tmps (ei (ga B F o) st.bR) v ob/\(match ob with
  |none=>cz=⟨dm st.tmps o.dst v,st.bR⟩
  |some x=>∃ d,o.dst=some d/\bZ st.bR (B+d)= .de/\cz=⟨eS st.tmps d v,cM st.bR (B+d) x⟩)
theorem wL{st:St}{d:Nat}{v:A}{ob:Ob}{k:St->OT}(h:iU K C (sZ B st d v ob k)):bZ st.bR (B+d)= .de/\iU K C (k ⟨eS st.tmps d v,cM st.bR (B+d) ob⟩):=by
 obtain⟨ts,os⟩:=st;unfold sZ at h;simp only at h;split at h
 .rename_i hv;rw[nF,Wk]at h;exact⟨hv,h⟩
 cases h
theorem ano{bR:List Ob}{op:Op}{ev:aA->A}(h:cls op=2):dZ E bR op ev= .fail:=by
 cases op<;>simp only[cls]at h<;>first|(cases h;done)|rfl|skip
 rename_i c;obtain⟨callee,⟨args⟩,⟨ts⟩⟩:=c;cases callee with
 |value f=>simp at h
 |invoke r m=>simp at h
 |builtin b=>cases b<;>simp at h<;>rfl
theorem anp{o:ay}{tmps:List A}{bR:List Ob}{d:Nat}{nh:Bool}{ob:Ob}(hm:kG o.op=true)(hd:o.dst=some d)(hs:(nz E o.op (cQ tmps)).eval=some (nh,ob)):
  gD E B o tmps bR (nA E.lL B d (nh,ob)).1 (some (nA E.lL B d (nh,ob)).2):=by
 obtain⟨dst,op,type,pos,after,guard⟩:=o;cases op<;>simp[kG]at hm<;>exact⟨d,nh,ob,hd,hs,rfl,rfl⟩
theorem anq{o:ay}{tmps:List A}{bR:List Ob}{v:A}(h3:∀ (f:aA) (args:Array aA) (ts:Array au),o.op= .call { callee:=.value f,args:=args,argTypes:=ts }->False)
  (hm:kG o.op=false) (hsb:mC E.P o.op=false) (hv:(dZ E bR o.op (cQ tmps)).eval=some v):gD E B o tmps bR v none:=by
 obtain⟨dst,op,type,pos,after,guard⟩:=o;cases op<;>simp[kG]at hm<;>first|exact⟨hv,rfl⟩|skip
 case convert s d x=>
  simp only at hsb;unfold gD;simp only[kG,hsb];exact⟨hv,bP⟩
 rename_i c;obtain⟨callee,args,ts⟩:=c;cases callee with
 |value f=>exact(h3 _ _ _ rfl).elim
 |invoke r m=>exact⟨hv,rfl⟩
 |builtin b=>exact⟨hv,rfl⟩
theorem anr{o:ay}{tmps:List A}{bR:List Ob}{d:Nat}{ob:Ob}(hsb:mC E.P o.op=true)(hd:o.dst=some d)(hs:(sY E.P o.op (cQ tmps)).eval=some ob):
  gD E B o tmps bR (nA E.lL B d (true,ob)).1 (some (nA E.lL B d (true,ob)).2):=by
 obtain⟨dst,op,type,pos,after,guard⟩:=o;cases op with
 |convert s t x=>
  simp only at hsb;unfold gD;simp only[kG,hsb];exact⟨d,ob,hd,hs,rfl,rfl⟩
 |_=>cases hsb
theorem mI{kn:List (Nat×Bool)}{st:St}{dst:Option Tmp}(h:iU K C (fZ kn dst st)):K (nb kn dst) st:=by
 unfold fZ at h;rw[Wl]at h;cases h;assumption
def oA(o:ay)(ts:List A)(f:A)(args:List A):Prop:=∃ c as oB,o.op= .call ⟨.value c,as,oB⟩/\f=cQ ts c/\args=kX (cQ ts) as.toList
theorem ans{st:St}{kn:List (Nat×Bool)}{o:ay}(hk:jq kn st.tmps)(h:iU K C (FN E B F st kn o)):
  (∃cz,ni E B F o st cz/\(∃x,cz.tmps=dm st.tmps o.dst x)/\K (nb kn o.dst) cz)\/(∃f args,oA o st.tmps f args/\C kn st o.dst f args):=by
 obtain⟨dst,op,type,pos,after,guard⟩:=o;obtain⟨ts,os⟩:=st;unfold FN at h;simp only at h hk⊢;split at h
 .rename_i t a x;obtain⟨r,hr,h⟩:=T.go_sat h;rw[nF,rY]at h;exact .inl ⟨_,by simp only[ni,cls,oy];exact⟨r,hr,rfl⟩,⟨_,rfl⟩,mI h⟩
 .rename_i x t;obtain⟨r,hr,h⟩:=T.go_sat h;rw[nF,rY]at h;exact .inl ⟨_,by simp only[ni,cls,oy];exact⟨r,hr,rfl⟩,⟨_,rfl⟩,mI h⟩
 .rename_i x y t t';obtain⟨r,hr,h⟩:=T.go_sat h;rw[nF,rY]at h;exact .inl ⟨_,by simp only[ni,cls,oy];exact⟨r,hr,rfl⟩,⟨_,rfl⟩,mI h⟩
 .rename_i x y t t';split at h
  .rename_i d;obtain⟨r,hr,h⟩:=T.go_sat h;obtain⟨kill,ob⟩:=r;cases kill with
   |none=>
    obtain⟨hv,h⟩:=wL h;exact .inl ⟨_,by simp only[ni,cls,oy];exact⟨_,d,rfl,hr,hv,rfl⟩,⟨_,rfl⟩,mI h⟩
   |some id=>
    simp only at h;rw[nF]at h;obtain⟨hv,h⟩:=wL h;exact .inl ⟨_,by simp only[ni,cls,oy];exact⟨_,d,rfl,hr,hv,rfl⟩,⟨_,rfl⟩,mI h⟩
  cases h
 .rename_i m q t tk;obtain⟨r,hr,h⟩:=T.go_sat h;rw[nF,rY]at h;exact .inl ⟨_,by simp only[ni,cls,oy];exact⟨r,hr,rfl⟩,⟨_,rfl⟩,mI h⟩
 .rename_i t r;split at h
  .rename_i d;split at h
   .rename_i ob hr;obtain⟨hv,h⟩:=wL h;exact .inl ⟨_,by simp only[ni,cls,oy];exact⟨_,d,rfl,hr,hv,rfl⟩,⟨_,rfl⟩,mI h⟩
   cases h
  cases h
 .rename_i t m q x;obtain⟨r,hr,h⟩:=T.go_sat h;rw[nF,rY]at h;exact .inl ⟨_,by simp only[ni,cls,oy];exact⟨r,hr,rfl⟩,⟨_,rfl⟩,mI h⟩
 .rename_i t m q x;obtain⟨r,hr,h⟩:=T.go_sat h;rw[nF,rY]at h;exact .inl ⟨_,by simp only[ni,cls,oy];exact⟨r,hr,rfl⟩,⟨_,rfl⟩,mI h⟩
 .rename_i f args ts;cases h with
  |call h=>exact .inr ⟨_,_,⟨_,_,_,rfl,rfl,rfl⟩,h⟩
 .rename_i c a b;have key:∀ v,(dZ E (ei (ga B F ⟨dst,.pick (.tmp c) a b,type,pos,after,guard⟩) os) (.pick (.tmp c) a b) (cQ ts)).eval=some v->iU K C (gM ⟨ts,os⟩ dst v (fZ kn dst))->
    ∃cz,ni E B F ⟨dst,.pick (.tmp c) a b,type,pos,after,guard⟩ ⟨ts,os⟩ cz/\(∃x,cz.tmps=dm ts dst x)/\K (nb kn dst) cz:=by
   intro v hv h;rw[rY]at h;exact⟨_,by simp only[ni,cls];exact⟨v,none,⟨hv,rfl⟩,rfl⟩,⟨_,rfl⟩,mI h⟩
  left;split at h
  .rename_i hl;exact key _ (by simp only[dZ,cQ,hk c true hl,bc]) h
  .rename_i hl;exact key _ (by simp only[dZ,cQ,hk c false hl,bc]) h
  obtain⟨v,hv,h⟩:=T.go_sat h;rw[Ld]at hv;exact key v hv h
 rename_i h1 Wm h2 g1 g2 g3 g4 g5 h3 h4;left;cases hm:kG op with
 |true=>
  rw[hm]at h;simp only at h;split at h
  .rename_i d;obtain⟨⟨nh,ob⟩,uK,h⟩:=T.go_sat h;rw[Mc]at h;obtain⟨hv,h⟩:=wL h;refine⟨_,?_,⟨_,rfl⟩,mI h⟩;unfold ni;have hc:cls op=1:=by cases op<;>simp[kG]at hm<;>rfl
   simp only[hc];exact⟨_,some (nA E.lL B d (nh,ob)).2,anp (o:=⟨some d,op,type,pos,after,guard⟩) hm rfl uK,d,rfl,hv,rfl⟩
  cases h
 |false=>
  rw[hm]at h;simp only at h;cases hsb:mC E.P op with
  |true=>
   rw[hsb]at h;simp only at h;split at h
   .rename_i d;obtain⟨ob,uK,h⟩:=T.go_sat h;obtain⟨hv,h⟩:=wL h;refine⟨_,?_,⟨_,rfl⟩,mI h⟩;unfold ni;have hc:cls op=1:=by cases op<;>first|rfl|cases hsb
    simp only[hc];exact⟨_,some (nA E.lL B d (true,ob)).2,anr (o:=⟨some d,op,type,pos,after,guard⟩) hsb rfl uK,d,rfl,hv,rfl⟩
   cases h
  |false=>
  rw[hsb]at h;simp only at h;obtain⟨v,hv,h⟩:=T.go_sat h;rw[Ld]at hv;rw[rY]at h;refine⟨_,?_,⟨_,rfl⟩,mI h⟩;unfold ni;simp only;split
  .rename_i hc;rw[ano hc]at hv;cases hv
  exact⟨v,none,anq (o:=⟨dst,op,type,pos,after,guard⟩) h3 hm hsb hv,rfl⟩
theorem ant{b want:Bool}{x y:OT}(h:iU K C (yS b want x y)):((b==want)=true/\iU K C x)\/((b==want)=false/\iU K C y):=by
 cases b<;>cases want<;>first|exact .inl ⟨rfl,h⟩|exact .inr ⟨rfl,h⟩
theorem anu{ops:List ay}{st:St}{kn:List (Nat×Bool)}{o:ay}(h:iU K C (tb E B F ops st kn o)):jo B F ops st.tmps o=true/\mD F ops st.tmps o=true/\iU K C (FN E B F st kn o):=by
 obtain⟨ts,os⟩:=st;unfold tb at h;simp only at h;split at h
 .rename_i hf;split at h
  .rename_i hs;exact⟨hf,hs,h⟩
  cases h
 cases h
theorem anv{ops:List ay}{st:St}{kn:List (Nat×Bool)}{o:ay}(hk:jq kn st.tmps)(h:iU K C (Lk E B F ops st kn o)):
  (∃cz hY,Step E B F ops o st cz/\jq hY cz.tmps/\K hY cz)\/(∃hY f args,ft ops st.tmps o=some true/\jq hY st.tmps/\oA o st.tmps f args/\C hY st o.dst f args):=by
 have Wn:∀ kn,jq kn st.tmps->ft ops st.tmps o=some true->iU K C (tb E B F ops st kn o)->
   (∃cz hY,Step E B F ops o st cz/\jq hY cz.tmps/\K hY cz)\/(∃hY f args,ft ops st.tmps o=some true/\jq hY st.tmps/\oA o st.tmps f args/\C hY st o.dst f args):=by
  intro kn hk hg h;obtain⟨iu,po,h⟩:=anu h;rcases ans hk h with ⟨cz,h1,⟨x,hx⟩,h2⟩|⟨f,args,h1,h2⟩
  .refine .inl ⟨cz,_,?_,?_,h2⟩
   .unfold Step;rw[hg];unfold ni at h1;simp only;split
    .rename_i hc;rw[hc]at h1;exact⟨iu,h1⟩
    rename_i hc;split at h1
    .rename_i B3;exact(hc B3).elim
    exact⟨po,h1⟩
   rw[hx];exact hk.erase _ _
  exact .inr ⟨kn,f,args,hg,hk,h1,h2⟩
 have Wo:∀ kn,jq kn st.tmps->ft ops st.tmps o=some false->iU K C (gM st o.dst (.cG []) (fZ kn o.dst))->
   (∃cz hY,Step E B F ops o st cz/\jq hY cz.tmps/\K hY cz)\/(∃hY f args,ft ops st.tmps o=some true/\jq hY st.tmps/\oA o st.tmps f args/\C hY st o.dst f args):=by
  intro kn hk hg h;rw[rY]at h;refine .inl ⟨_,_,?_,hk.erase _ _,mI h⟩;unfold Step;rw[hg]
 obtain⟨ts,os⟩:=st;unfold Lk at h;simp only at h;split at h
 .rename_i hg;exact Wn kn hk (by simp[ft,hg]) h
 rename_i j want hg;have both:∀ (b:Bool) kn,jq kn ts->ft ops ts o=some (b==want)->
   iU K C (yS b want (tb E B F ops ⟨ts,os⟩ kn o) (gM ⟨ts,os⟩ o.dst (.cG []) (fZ kn o.dst)))->
   (∃cz hY,Step E B F ops o ⟨ts,os⟩ cz/\jq hY cz.tmps/\K hY cz)\/(∃hY f args,ft ops ts o=some true/\jq hY ts/\oA o ts f args/\C hY ⟨ts,os⟩ o.dst f args):=by
  intro b kn hk tl h;rcases ant h with ⟨e,h⟩|⟨e,h⟩
  .exact Wn kn hk (by rw[tl,e]) h
  exact Wo kn hk (by rw[tl,e]) h
 split at h
 .rename_i b d nG;have hd:bT ts d= .bool b:=by
   unfold rQ at nG;split at nG
   .split at nG
    .split at nG<;>simp at nG;obtain⟨rfl,rfl⟩:=nG;assumption
    cases nG
   cases nG
  split at h
  .rename_i v hl;have hv:=hk d v hl;rw[hd]at hv;cases hv;exact both b kn hk (by simp[ft,hg,nG]) h
  have:=iU.Wh h;cases b with
  |true=>exact both true _ (hk.cons hd) (by simp[ft,hg,nG]) this
  |false=>exact both false _ (hk.cons hd) (by simp[ft,hg,nG]) this
 .rename_i b nG;exact both b kn hk (by simp[ft,hg,nG]) h
 .rename_i nG;exact Wo kn hk (by simp[ft,hg,nG]) h
 cases h
end
end Go.Sy
