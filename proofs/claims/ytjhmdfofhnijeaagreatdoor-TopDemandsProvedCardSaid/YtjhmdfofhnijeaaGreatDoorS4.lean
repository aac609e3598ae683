import Derived.Test.YtjhmdfofhnijeaaGreatDoorS3
import Derived.RangeFuncLeaves
import Derived.Maps.RangeRun
open And renaming intro->aa
open Array renaming getD_eq_getD_getElem?->ab, getElem?_eq_some_iff->ae, replicate->af, toList_filter->ai, length_toList->aj, getD->ak
open Bool renaming and_eq_true->al, or_eq_true->aq, not_eq_true'->ar
open Go renaming World->au, Value->av, Oper->ay, Code->az, ResultVar->aA, FuncId->aB, Deferred->aC, TypeId->aD, Program->aF, Operand->aG, LoopState->aH, MapEntry->aI, Func->aJ, Exit->aK
open Go.Deferred renaming ofValue->aL
open Go.Instr renaming sureAddr->aM, loadAt->aN
open Go.Oper renaming semAt_eq->aO
open Go.Result renaming andThen_ok->aP
open Go.Sem renaming run_bind->aQ, run_pure->aR
open Go.Sy.R renaming later->aS, closed->aT
open Go.Sy.RL renaming later->aU, append->aV
open Go.Value.func renaming injEq->aW
open Go.World renaming putObj_heap_other->aX, putObj_heap_same->aY
open List renaming mem_cons->aZ, mem_cons_self->a6, mem_cons_of_mem->a7, toArray->a8, contains_eq_mem->ba, map->bc, getElem?_eq_getElem->bd, replicate_succ->bg, map_inj_right->bh, append_assoc->bj, mem_reverse->bk, nodup_cons->bl, mem_filter->bn, mem_append->bp, map_append->bq, replicate->br, nodup_nil->bu, mapM_cons->bw, map_cons->bx, mem_map->bz
open List.cons renaming injEq->bA
open Nat renaming le_refl->bB, lt_of_lt_of_le->bD, add_assoc->bE, le_trans->bF, add_comm->bG, le_of_not_lt->bH, zero_add->bI
open Option.some renaming injEq->bJ
set_option linter.all false
namespace Go.Sy
open Go.RowKit
variable [fI]
structure ju(B:Nat)(w w':au)(O O':Nat->Prop)(ρ ρ':Nat->Loc):Prop where
 size:w.heap.size<=w'.heap.size
 same:∀ b,b<w.heap.size-> ¬O b->w'.heap[b]? =w.heap[b]?
 own:∀ b,b<w.heap.size->O' b->O b
 loc:∀ id,id<B->ρ' id=ρ id\/ρ id= .de\/ρ' id= .dead
section
variable {B:Nat} {w w1 w2:au} {O O1 O2:Nat->Prop} {ρ ρ1 ρ2:Nat->Loc}
theorem ju.refl(B:Nat)(w:au)(O:Nat->Prop)(ρ:Nat->Loc):ju B w w O O ρ ρ:=⟨bB _,λ_ _ _=>rfl,λ_ _ h=>h,λ_ _=>.inl rfl⟩
theorem dz.r6(h:dz w w1 O O1 ρ ρ1):ju B w w1 O O1 ρ ρ1:=⟨h.size,h.same,h.own,λid _=>h.loc id⟩
theorem ju.trans(h:ju B w w1 O O1 ρ ρ1)(k:ju B w1 w2 O1 O2 ρ1 ρ2):ju B w w2 O O2 ρ ρ2:=by
 refine⟨bF h.size k.size,λb hb hn=>?_,λb hb ho=>?_,λid cn=>?_⟩
 .have h1:¬ O1 b:=λho=>hn (h.own b hb ho);exact(k.same b (bD hb h.size) h1).trans (h.same b hb hn)
 .exact h.own b hb (k.own b (bD hb h.size) ho)
 rcases h.loc id cn with e|e|e
 .rcases k.loc id cn with e'|e'|e'
  .exact .inl (e'.trans e)
  .exact .inr (.inl (e.symm.trans e'))
  exact .inr (.inr e')
 .exact .inr (.inl e)
 rcases k.loc id cn with e'|e'|e'
 .exact .inr (.inr (e'.trans e))
 .rw[e]at e';cases e'
 exact .inr (.inr e')
theorem ju.later(h:ju B w w1 O O1 ρ ρ1)(hv:∀ id,B<=id->ρ id= .de):dz w w1 O O1 ρ ρ1:=by
 refine⟨h.size,h.same,h.own,λid=>?_⟩;rcases Nat.lt_or_ge id B with cn|cn
 .exact h.loc id cn
 exact .inr (.inl (hv id cn))
end
def Ex.of:Ex->aK
 | .normal=>.normal
 | .exit id=>.exit id
 | .ret=>.ret
def uP(w0:au)(X:Nat->Prop)(B:Nat)(a:Act)(w:au)(ρ:Nat->Loc)(Q:Ex->St->Prop):aK->Act->au->Prop:=λe' a' w'=>
 ∃e cz ρ' Ds,e'=Ex.of e/\Q e cz/\Rel w0 X cz a' w' ρ'/\ju B w w' (Ow X ρ) (Ow X ρ') ρ ρ'/\a'.defers=bc mb Ds++a.defers/\ ∀D∈Ds,w.heap.size<=D
def W(E:Env)(B:Nat)(fl:Bool)(c:az)(st:St)(Q:Ex->St->Prop):Prop:=
 ∀(ro:Option Nat) (n:Nat) (w0:au) (X:Nat->Prop) (a:Act) (w:au) (ρ:Nat->Loc),(fl=false->ro=none)->Rel w0 X st a w ρ->c.wpIn (fw ro) n E.P (uP w0 X B a w ρ Q) a w
def WO(E:Env)(B:Nat)(fl:Bool)(ops:Array ay)(l:List Nat)(st:St)(K:St->Prop):Prop:=
 ∀(ro:Option Nat) (n:Nat) (w0:au) (X:Nat->Prop) (a:Act) (w:au) (ρ:Nat->Loc) (Q:aK->Act->au->Prop),(fl=false->ro=none)->Rel w0 X st a w ρ->
  (∀cz a' w' ρ',K cz->Rel w0 X cz a' w' ρ'->dz w w' (Ow X ρ) (Ow X ρ') ρ ρ'->a'.defers=a.defers->Q .normal a' w')->wpOpsIn (fw ro) n E.P ops Q l a w
def eo(B:Nat)(st cz:St):Prop:=∀ (w0:au) (X:Nat->Prop) (a:Act) (w:au) (ρ:Nat->Loc),Rel w0 X st a w ρ-> ∃ρ',Rel w0 X cz a w ρ'/\ju B w w (Ow X ρ) (Ow X ρ') ρ ρ'
section
variable {w0:au} {X:Nat->Prop} {E:Env} {B:Nat} {fl:Bool} {st:St} {Q:Ex->St->Prop}
theorem uP.chain{a a1:Act}{w w1:au}{ρ ρ1:Nat->Loc}{Ds:List Nat}(hl:ju B w w1 (Ow X ρ) (Ow X ρ1) ρ ρ1)(hd:a1.defers=bc mb Ds++a.defers)(hD:∀ D∈Ds,w.heap.size<=D)
  {e:aK} {a2:Act} {w2:au} (h:uP w0 X B a1 w1 ρ1 Q e a2 w2):uP w0 X B a w ρ Q e a2 w2:=by
 obtain⟨e0,cz,ρ',Cp,rfl,hq,hrel,eB,fm,wP⟩:=h;refine⟨e0,cz,ρ',Cp++Ds,rfl,hq,hrel,hl.trans eB,by rw[fm,hd,bq,bj],λD hm=>?_⟩;rcases bp.1 hm with h|h
 .exact bF hl.size (wP D h)
 exact hD D h
theorem W.mono{c:az}{Q':Ex->St->Prop}(h:W E B fl c st Q)(hq:∀ e s,Q e s->Q' e s):W E B fl c st Q':=λro n w0 X a w ρ hro hr=>by
 refine wpIn_mono (h ro n w0 X a w ρ hro hr) ?_;rintro e a' w' ⟨e0,cz,ρ',Ds,rfl,h1,h2⟩;exact⟨e0,cz,ρ',Ds,rfl,hq _ _ h1,h2⟩
theorem W.gv{c:az}{cz:St}(hw:eo B st cz)(h:W E B fl c cz Q):W E B fl c st Q:=λro n w0 X a w ρ hro hr=>by
 obtain⟨ρ',h1,h2⟩:=hw _ _ _ _ _ hr;exact wpIn_mono (h ro n w0 X a w ρ' hro h1) λe a' w' hp=>uP.chain (Ds:=[]) h2 rfl (by simp) hp
theorem W.skip(h:Q .normal st):W E B fl .skip st Q:=λro n w0 X a w ρ hro hr=>wpIn_skip ⟨.normal,st,ρ,[],rfl,h,hr,ju.refl _ _ _ _,rfl,by simp⟩
theorem W.exit{id:Nat}(h:Q (.exit id) st):W E B fl (.exit id) st Q:=λro n w0 X a w ρ hro hr=>wpIn_exit ⟨.exit id,st,ρ,[],rfl,h,hr,ju.refl _ _ _ _,rfl,by simp⟩
theorem W.ret(h:Q .ret st):W E B fl .ret st Q:=λro n w0 X a w ρ hro hr=>wpIn_ret ⟨.ret,st,ρ,[],rfl,h,hr,ju.refl _ _ _ _,rfl,by simp⟩
theorem W.seq{c d:az}(h:W E B fl c st λe s=>match e with| .normal=>W E B fl d s Q| .exit i=>Q (.exit i) s| .ret=>Q .ret s):W E B fl (.seq c d) st Q:=λro n w0 X a w ρ hro hr=>by
 refine wpIn_seq (wpIn_mono (h ro n w0 X a w ρ hro hr) ?_);rintro e a' w' ⟨e0,cz,ρ',Ds,rfl,h1,h2,h3,h4,h5⟩;cases e0 with
 |normal=>exact wpIn_mono (h1 ro n w0 X a' w' ρ' hro h2) λe tz w'' hp=>uP.chain h3 h4 h5 hp
 |exit id=>exact⟨.exit id,cz,ρ',Ds,rfl,h1,h2,h3,h4,h5⟩
 |ret=>exact⟨.ret,cz,ρ',Ds,rfl,h1,h2,h3,h4,h5⟩
theorem W.block{id:Nat}{c:az}(h:W E B fl c st λe s=>match e with| .normal=>Q .normal s| .exit i=>(if i=id then Q .normal s else Q (.exit i) s)| .ret=>Q .ret s):W E B fl (.block id c) st Q:=λro n w0 X a w ρ hro hr=>by
 refine wpIn_block (wpIn_mono (h ro n w0 X a w ρ hro hr) ?_);rintro e a' w' ⟨e0,cz,ρ',Ds,rfl,h1,h2,h3,h4,h5⟩;cases e0 with
 |normal=>exact⟨.normal,cz,ρ',Ds,rfl,h1,h2,h3,h4,h5⟩
 |exit i=>
  simp only[Ex.of,Exit.inBlock];simp only at h1;by_cases hi:i=id
  .rw[bS hi];rw[bS hi]at h1;exact⟨.normal,cz,ρ',Ds,rfl,h1,h2,h3,h4,h5⟩
  rw[bQ hi];rw[bQ hi]at h1;exact⟨.exit i,cz,ρ',Ds,rfl,h1,h2,h3,h4,h5⟩
 |ret=>exact⟨.ret,cz,ρ',Ds,rfl,h1,h2,h3,h4,h5⟩
theorem W.MM{x:aG}{c d:az}{b:Bool}(hx:cQ st.tmps x= .bool b\/cQ st.tmps x= .kb b)(ht:b=true->W E B fl c st Q)(hf:b=false->W E B fl d st Q):W E B fl (.cond x c d) st Q:=λro n w0 X a w ρ hro hr=>by
 have hx':a.eval x= .bool b:=by
  have:=mE hr.tmp x;rcases hx with hx|hx<;>(rw[hx]at this;simpa only[R]using this)
 exact wpIn_cond_split hx' (λh=>ht h ro n w0 X a w ρ hro hr) λh=>hf h ro n w0 X a w ρ hro hr
theorem W.aom{x:aG}{c d:az}(hx:cQ st.tmps x= .lF)(ht:W E B fl c st Q)(hf:W E B fl d st Q):W E B fl (.cond x c d) st Q:=λro n w0 X a w ρ hro hr=>by
 have:=mE hr.tmp x;rw[hx]at this;simp only[R]at this;obtain⟨b,hx'⟩:=this;exact wpIn_cond_split hx' (λh=>ht ro n w0 X a w ρ hro hr) λh=>hf ro n w0 X a w ρ hro hr
theorem W.region{id:Nat}{ops:Array ay}(h:WO E B fl ops (List.range ops.size) st λs=>Q .normal s):W E B fl (.region id ops false) st Q:=λro n w0 X a w ρ hro hr=>
 wpIn_region (h ro n w0 X a w ρ _ hro hr λcz a' w' ρ' hk gb hl hd=>⟨.normal,cz,ρ',[],rfl,hk,gb,hl.r6,hd,by simp⟩)
theorem WO.nil{ops:Array ay}{K:St->Prop}(h:K st):WO E B fl ops [] st K:=λro n w0 X a w ρ Q hro hr hq=>hq st a w ρ h hr (dz.refl _ _ _) rfl
theorem WO.step(hE:ib E){F:List Nat}{ops:Array ay}{i:Nat}{l:List Nat}{o:ay}{s1:St}{K:St->Prop}(ho:ops[i]? =some o)(hs:Step E B F ops.toList o st s1)(h:WO E B fl ops l s1 K):WO E B fl ops (i::l) st K:=λro n w0 X a w ρ Q hro hr hq=>by
 simp only[wpOpsIn,ho];exact Step.sound hE hr hs λa' w' ρ' h' hL hd=>h ro n w0 X a' w' ρ' Q hro h' λnI tz w'' ρ'' hk Cq hl fm=>hq nI tz w'' ρ'' hk Cq (hL.trans hl) (fm.trans hd)
def WD(E:Env)(B:Nat)(fl:Bool)(ops:Array ay)(k:Nat)(st:St)(K:St->Prop):Prop:=∀ l,pU ops k l->WO E B fl ops l st K
theorem WO.run(hE:ib E){F:List Nat}{ops:Array ay}{p q:List Nat}{s1:St}{K:St->Prop}(hr:gA E B F ops p st s1)(h:WO E B fl ops q s1 K):WO E B fl ops (p++q) st K:=λro n w0 X a w ρ Q hro hrel hq=>
 gA.Wg hE p _ _ _ _ _ hr hrel λa' w' ρ' gb hl hd=>h ro n w0 X a' w' ρ' Q hro gb λnI tz w'' ρ'' hk Cq aon aoo=>hq nI tz w'' ρ'' hk Cq (hl.trans aon) (aoo.trans hd)
theorem WD.run(hE:ib E){ops:Array ay}{k m:Nat}{s1:St}{K:St->Prop}(ML:pN ops=true)(hm:k+m<=ops.size\/m=0)(hc:cutAt ops (k+m)=true)(hr:gA E B (ot B ops.toList) ops (List.range' k m) st s1)(h:WD E B fl ops (k+m) s1 K):WD E B fl ops k st K:=λl hl=>by
 rcases hm with hm|rfl
 .obtain⟨p,q,rfl,hq,hp⟩:=hl.run (E:=E) (B:=B) ML hc hm;exact WO.run hE (hp _ _ hr) (h q hq)
 simp only[List.range'_zero,gA]at hr;subst hr;exact h l hl
theorem W.draw{id:Nat}{ops:Array ay}(hc:pN ops=true)(h:WD E B fl ops 0 st λs=>Q .normal s):W E B fl (.region id ops true) st Q:=λro n w0 X a w ρ hro hr=>
 wpIn_region_draw λt=>by
  refine h _ (aoj hc (E.P.follows .mixedOrders) t) ro n w0 X a _ ρ _ hro hr.drew λnI tz w'' ρ'' hk Cq hl hd=>?_;exact⟨.normal,nI,ρ'',[],rfl,hk,Cq,((Ma w _ ρ).trans hl).r6,hd,by simp⟩
theorem aop{p:Nat->Prop}(h:∃ n,p n):∃ n,p n/\ ∀m,p m->n<=m:=by
 obtain⟨n,hn⟩:=h
 induction n using Nat.strongRecOn with
 |_ n ih=>
  rcases Classical.em (∃m,m<n/\p m)with ⟨m,hm,hp⟩|hno
  .exact ih m hm hp
  exact⟨n,hn,λm hm=>bH λhlt=>hno ⟨m,hlt,hm⟩⟩
theorem aoq{F:Fence}{n:Nat}{P:aF}{Q:aK->Act->au->Prop}{a:Act}{w:au}{c:az}{σ:Type}(I:σ->Act->au->Prop)(m:σ->Nat)(s0:σ)(h0:I s0 a w)
  (round:∀ s a w,I s a w->c.wpIn F n P (Exit.then (λa' w'=>∃ s',I s' a' w'/\m s'<m s) Q) a w):(Code.loop c).wpIn F n P Q a w:=by
 have hmin:∀ a w,(∃s,I s a w)-> ∃k,(∃s,I s a w/\m s=k)/\ ∀s,I s a w->k<=m s:=by
  intro a w ⟨s,hs⟩;obtain⟨k,hk,hmin⟩:=aop (p:=λk=>∃ s,I s a w/\m s=k) ⟨m s,s,hs,rfl⟩;exact⟨k,hk,λs hs=>hmin _ ⟨s,hs,rfl⟩⟩
 let μ:Act->au->Nat:=λa w=>@dite _ (∃s,I s a w) (Classical.propDecidable _) (λh=>Classical.choose (hmin a w h)) (λ_=>0)
 have hμ:∀ a w,(∃s,I s a w)->(∃s,I s a w/\m s=μ a w)/\ ∀s,I s a w->μ a w<=m s:=by
  intro a w h;have:=Classical.choose_spec (hmin a w h);simp only[μ,dif_pos h];exact this
 refine wpIn_loop (λa w=>∃ s,I s a w) μ ⟨s0,h0⟩ λa w h=>?_;obtain⟨⟨s,hs,hm⟩,_⟩:=hμ a w h;refine wpIn_mono (round s a w hs) λe a' w' hp=>?_;cases e with
 |normal=>
  obtain⟨s',h1,h2⟩:=hp;exact⟨⟨s',h1⟩,by have:=(hμ a' w' ⟨s',h1⟩).2 s' h1;omega⟩
 |_=>exact hp
theorem W.loop{σ:Type}(hd:σ->St)(m:σ->Nat)(s0:σ){body:az}(hw:eo B st (hd s0))
  (step:∀ s,W E B fl body (hd s) λe cz=>match e with| .normal=>(∃s',m s'<m s/\eo B cz (hd s'))| .exit i=>Q (.exit i) cz| .ret=>Q .ret cz):W E B fl (.loop body) st Q:=λro n w0 X a w ρ hro hr=>by
 obtain⟨ρ0,mO,yV⟩:=hw _ _ _ _ _ hr;refine aoq (λs a' w'=>∃ ρ' Ds,Rel w0 X (hd s) a' w' ρ'/\ju B w w' (Ow X ρ) (Ow X ρ') ρ ρ'/\a'.defers=bc mb Ds++a.defers/\ ∀D∈Ds,w.heap.size<=D) m s0 ⟨ρ0,[],mO,yV,rfl,by simp⟩ ?_;rintro s a1 w1 ⟨ρ1,nJ,fD,lg,MN,Cr⟩;refine wpIn_mono (step s ro n w0 X a1 w1 ρ1 hro fD) ?_;rintro e a' w' ⟨e0,cz,ρ',Ds,rfl,h1,h2,h3,h4,h5⟩;have hc:a'.defers=bc mb (Ds++nJ)++a.defers:=by rw[h4,MN,bq,bj]
 have hD:∀ D∈Ds++nJ,w.heap.size<=D:=λD hm=>by
  rcases bp.1 hm with h|h
  .exact bF lg.size (h5 D h)
  exact Cr D h
 cases e0 with
 |normal=>
  obtain⟨s',hlt,hwk⟩:=h1;obtain⟨ρ2,jO,hl2⟩:=hwk _ _ _ _ _ h2;exact⟨s',⟨ρ2,Ds++nJ,jO,(lg.trans h3).trans hl2,hc,hD⟩,hlt⟩
 |exit id=>exact⟨.exit id,cz,ρ',Ds++nJ,rfl,h1,h2,lg.trans h3,hc,hD⟩
 |ret=>exact⟨.ret,cz,ρ',Ds++nJ,rfl,h1,h2,lg.trans h3,hc,hD⟩
end
end Go.Sy
namespace Go.Sy
open Go.RowKit
variable [fI]
theorem Xf{w:au}{D:Nat}{ds:Option (List aC)}{x:Obj}(hD:w.heap[D]? =some (.deferred ds)){p:Addr}{u:av}(h:w.cell? p=some u):(w.putObj D x).cell? p=some u:=by
 rw[<-h];refine World.cell?_of_block (w:=w) (aX λe=>?_);simp only[World.cell?,e,hD]at h;cases h
mutual
theorem R.putObj{w:au}{O:Nat->Prop}{D:Nat}{ds:Option (List aC)}{x:Obj}(hD:w.heap[D]? =some (.deferred ds)):∀ (a:A) (ρ:Nat->Loc) (v:av),R w O a ρ v->R (w.putObj D x) O a ρ v
 | .dU,_,_,_=>by simp only[R]
 | .lM,_,_,h=>by simpa only[R]using h
 | .kb _,_,_,h=>by simpa only[R]using h
 | .bool _,_,_,h=>by simpa only[R]using h
 | .int _ _,_,_,h=>by simpa only[R]using h
 | .str _,_,_,h=>by simpa only[R]using h
 | .bN,_,_,h=>by simpa only[R]using h
 | .lF,_,_,h=>by simpa only[R]using h
 | .kh,_,_,h=>by simpa only[R]using h
 | .own _,_,_,h=>by simpa only[R]using h
 | .ptr _ _,_,_,h=>by simpa only[R]using h
 | .rp _ _ _ _,_,_,h=>by simpa only[R]using h
 | .dA _,_,_,h=>by simpa only[R]using h
 | .ov _ _ _ _,_,_,h=>by simpa only[R]using h
 | .ap _ _,_,_,h=>by simpa only[R]using h
 | .bm _ _ _,_,_,h=>by simpa only[R]using h
 | .rv _ _,_,_,h=>by simpa only[R]using h
 | .sl c n el,_,_,h=>by
  simp only[R]at h⊢;obtain⟨a,cap,rfl,h1,h2,h3⟩:=h;refine⟨a,cap,rfl,h1,h2,λhp=>?_⟩;obtain⟨ad,rfl,hi,hc⟩:=h3 hp;refine⟨ad,rfl,⟨by simpa using hi.1,hi.2⟩,λi hin j hj=>?_⟩;obtain⟨u,hu,h1,hr⟩:=hc i hin j hj;exact⟨u,Xf hD hu,h1,R.putObj hD (el i j) b7 u hr⟩
 | .ip c el,_,_,h=>by
  simp only[R]at h⊢;obtain⟨ad,rfl,h3⟩:=h;refine⟨ad,rfl,λhp=>?_⟩;obtain⟨hi,hc⟩:=h3 hp;refine⟨⟨by simpa using hi.1,hi.2⟩,λj hj=>?_⟩;obtain⟨u,hu,hr⟩:=hc j hj;exact⟨u,Xf hD hu,R.putObj hD (el j) b7 u hr⟩
 | .fn f l,ρ,v,h=>by
  simp only[R]at h⊢;obtain⟨vs,rfl,h⟩:=h;exact⟨vs,rfl,RL.putObj hD l ρ vs h⟩
 | .agg l,ρ,v,h=>by
  simp only[R]at h⊢;obtain⟨vs,rfl,h⟩:=h;exact⟨vs,rfl,RL.putObj hD l ρ vs h⟩
 | .bv _ l,ρ,v,h=>by
  simp only[R]at h⊢;obtain⟨vs,rfl,h⟩:=h;exact⟨vs,rfl,RL.putObj hD l ρ vs h⟩
 | .cG l,ρ,v,h=>by
  simp only[R]at h⊢;obtain⟨vs,rfl,h⟩:=h;exact⟨vs,rfl,RL.putObj hD l ρ vs h⟩
 | .im t ag n hh el,_,_,hr=>by
  simp only[R]at hr⊢;obtain⟨b,es,clock,rfl,hi,hg,h1,h2,h3⟩:=hr;refine⟨b,es,clock,rfl,⟨by simpa using hi.1,hi.2⟩,?_,h1,h2,λq hq=>⟨(h3 q hq).1,λhh=>?_⟩⟩
  .rw[aX (λe=>by subst e;rw[hD]at hg;cases hg)];exact hg
  obtain⟨e,he,hk,hv⟩:=(h3 q hq).2 hh;exact⟨e,he,hk,R.putObj hD (el q) b7 _ hv⟩
theorem RL.putObj{w:au}{O:Nat->Prop}{D:Nat}{ds:Option (List aC)}{x:Obj}(hD:w.heap[D]? =some (.deferred ds)):∀ (l:List A) (ρ:Nat->Loc) (vs:List av),RL w O l ρ vs->RL (w.putObj D x) O l ρ vs
 |[],_,_,h=>by simpa only[RL]using h
 |a::l,ρ,vs,h=>by
  simp only[RL]at h⊢;obtain⟨v,vs',rfl,h1,h2⟩:=h;exact⟨v,vs',rfl,R.putObj hD a ρ v h1,RL.putObj hD l ρ vs' h2⟩
end
theorem fR.putObj{w:au}{O:Nat->Prop}{D:Nat}{ds:Option (List aC)}{x:Obj}{ρ:Nat->Loc}(hD:w.heap[D]? =some (.deferred ds)){o:Ob}{l:Loc}(h:fR w O ρ o l):fR (w.putObj D x) O ρ o l:=by
 have other:∀ {b:Nat} {y:Obj},w.heap[b]? =some y->(∀ds,y≠ .deferred ds)->(w.putObj D x).heap[b]? =some y:=λ{b y} hb hy=>by
  rw[aX (λe=>by subst e;rw[hD]at hb;simp only[bJ]at hb;exact hy _ hb.symm)];exact hb
 cases o with
 |de=>exact h
 |dead=>exact h
 |box cells=>
  obtain⟨b,vs,t,rfl,hg,hr⟩:=h;exact⟨b,vs,t,rfl,other hg (λ_ h=>by cases h),RL.putObj hD cells ρ vs hr⟩
 |row e c n el=>
  obtain⟨v,xs,rfl,hown,h1,h2⟩:=h;refine⟨v,xs,rfl,?_,h1,λi hi j hj=>?_⟩
  .obtain⟨eB,hh⟩:=hown;refine⟨eB,?_⟩;rcases hh with hh|⟨g,o,cap,cur,rfl,⟨fz,hg,hz⟩,hr⟩
   .exact .inl hh
   exact .inr ⟨g,o,cap,cur,rfl,⟨fz,other hg (λ_ h=>by cases h),hz⟩,hr⟩
  obtain⟨u,hu,hr⟩:=h2 i hi j hj;exact⟨u,hu,R.putObj hD _ b7 u hr⟩
 |lp ts ps gQ gL gZ iK=>
  obtain⟨b,r,vs,rfl,hg,h1,h2,h3⟩:=h;exact⟨b,r,vs,rfl,other hg (λ_ h=>by cases h),h1,RL.putObj hD ts ρ vs h2,h3⟩
 |mp t ag n cl u hh v=>
  obtain⟨b,es,clock,rfl,hg,hm,hc⟩:=h;exact⟨b,es,clock,rfl,other hg (λ_ h=>by cases h),hm.mono λa v h=>R.putObj hD a ρ v h,hc⟩
 |it t ag n hh v seen=>
  obtain⟨b,bm,es,clock,sn,rfl,hg,hi,mG,hm,hs⟩:=h;exact⟨b,bm,es,clock,sn,rfl,other hg (λ_ h=>by cases h),⟨by simpa using hi.1,hi.2⟩,other mG (λ_ h=>by cases h),hm.mono λa v h=>R.putObj hD a b7 v h,hs⟩
 |rr te e c n len el hole=>
  obtain⟨v,us,vs,rfl,⟨⟨h1,h2⟩,h3,h4,h5⟩,hh⟩:=h;have same:∀ {e:aD} {c n:Nat} {v:av} {xs:List av},jP w e c v n xs->jP (w.putObj D x) e c v n xs:=λ{e c n v xs} hr=>by
   obtain⟨eB,hh⟩:=hr;refine⟨eB,?_⟩;rcases hh with hh|⟨g,o,cap,cur,rfl,⟨fz,hg,hz⟩,hr⟩
   .exact .inl hh
   exact .inr ⟨g,o,cap,cur,rfl,⟨fz,other hg (λ_ h=>by cases h),hz⟩,hr⟩
  refine⟨v,us,vs,rfl,⟨⟨same h1,h2⟩,h3,λi u hu hne=>?_,h5⟩,λi a e=>?_⟩
  .obtain⟨xs,h6,h7,h8⟩:=h4 i u hu hne;refine⟨xs,same h6,h7,λq hq j hj=>?_⟩;obtain⟨y,hy,hr⟩:=h8 q hq j hj;exact⟨y,hy,R.putObj hD _ b7 y hr⟩
  obtain⟨h6,u,h7,h8⟩:=hh i a e;exact⟨h6,u,h7,R.putObj hD a ρ u h8⟩
structure Hp(w0:au)(X:Nat->Prop)(bR:List Ob)(w:au)(ρ:Nat->Loc):Prop where
 obj:∀ id,fR w (Ow X ρ) ρ (bZ bR id) (ρ id)
 dJ:∀ i j b,(ρ i).has b->(ρ j).has b->i=j
 kept:fP w0.heap.size w0 w
 new:∀ b,owned ρ b->w0.heap.size<=b/\b<w.heap.size
 fu:∀ b,X b->b<w0.heap.size
section
variable {w0 w w':au} {X:Nat->Prop} {E:Env} {B:Nat} {fl:Bool} {st:St} {a:Act} {ρ ρ':Nat->Loc} {bR:List Ob}
theorem Rel.hp(h:Rel w0 X st a w ρ):Hp w0 X st.bR w ρ:=⟨h.obj,h.dJ,h.kept,h.new,h.fu⟩
theorem Xg(h:fP w0.heap.size w0 w){D:Nat}(hle:w0.heap.size<=D)(x:Obj):fP w0.heap.size w0 (w.putObj D x):=
 ⟨h.os,h.tape,h.output,by simpa using h.size,λk hk=>(aX (by omega)).trans (h.block k hk),h.drawn⟩
theorem Hp.putObj(h:Hp w0 X bR w ρ){D:Nat}{ds:Option (List aC)}(hD:w.heap[D]? =some (.deferred ds))(hle:w0.heap.size<=D)(x:Obj):Hp w0 X bR (w.putObj D x) ρ:=
 ⟨λid=>(h.obj id).putObj hD,h.dJ,Xg h.kept hle x,λb hb=>by simpa using h.new b hb,h.fu⟩
theorem dz.putObj{O O':Nat->Prop}(h:dz w w' O O' ρ ρ'){D:Nat}(hle:w.heap.size<=D)(x:Obj):dz w (w'.putObj D x) O O' ρ ρ':=
 ⟨by simpa using h.size,λb hb hn=>(aX (by omega)).trans (h.same b hb hn),h.own,h.loc⟩
theorem Rel.after(h:Rel w0 X st a w ρ)(hl:dz w w' (Ow X ρ) (Ow X ρ') ρ ρ')(hp:Hp w0 X bR w' ρ'):Rel w0 X ⟨st.tmps,bR⟩ a w' ρ':=
 h.next hl hp.kept hp.obj hp.dJ hp.new
def jr(P:aF)(st:St):List aA->Option (List A)
 |[]=>some []
 | .tmp t::l=>match jr P st l with
  |some m=>some (bT st.tmps t::m)
  |none=>none
 | .cell a t::l=>match(lG P st.bR t (bT st.tmps a)).eval,jr P st l with
  |some v,some m=>some (v::m)
  |_,_=>none
def kk:List A->A
 |[a]=>a
 |l=>.cG l
theorem MO{P:aF}(cy:Hp w0 X st.bR w ρ)(tF:∀ i,R w (Ow X ρ) (bT st.tmps i) ρ (a.tmps.getD i undef)):∀ (rs:List aA) (l:List A),jr P st rs=some l->
  ∃vs,(rs.mapM (λ| .tmp t=>pure (a.tmps.getD t undef)| .cell x t=>do loadVar t (<-asAddr (a.tmps.getD x undef)):aA->Sem av)).run P w= .ok vs w/\RL w (Ow X ρ) l ρ vs
 |[],l,hr=>by simp[jr]at hr;subst hr;exact⟨[],by simp,by simp[RL]⟩
 | .tmp t::rs,l,hr=>by
  simp only[jr]at hr;split at hr
  .rename_i m hm;simp at hr;subst hr;obtain⟨vs,h1,h2⟩:=MO cy tF rs m hm;refine⟨a.tmps.getD t undef::vs,by rw[bw,aQ];simp only[aR,aP,aQ,h1],?_⟩;simp only[RL];exact⟨_,_,rfl,tF t,h2⟩
  cases hr
 | .cell x t::rs,l,hr=>by
  simp only[jr]at hr;split at hr
  .rename_i v m hv hm;simp at hr;subst hr;obtain⟨vs,h1,h2⟩:=MO cy tF rs m hm;obtain⟨u,hu,ij⟩:=J9 (λid=>.inr (cy.obj id)) (tF x) hv;have hload:(do loadVar t (<-asAddr (a.tmps.getD x undef)):Sem av).run P w= .ok u w:=by
    cases hx:a.tmps.getD x undef with
    |pointer p=>
     cases p with
     |none=>rw[hx]at hu;simp[aN,aM,stuck]at hu
     |some ad=>
      rw[hx]at hu;simp[aN,aM]at hu;simp[asAddr,hu]
    |_=>rw[hx]at hu;simp[aN,aM,stuck]at hu
   refine⟨u::vs,by rw[bw,aQ];simp only[hload,aP,aQ,h1,aR],?_⟩;simp only[RL];exact⟨_,_,rfl,ij,h2⟩
  cases hr
theorem aor{P:aF}{fn:aJ}{l:List A}(cy:Hp w0 X st.bR w ρ)(tF:∀ i,R w (Ow X ρ) (bT st.tmps i) ρ (a.tmps.getD i undef))(hres:jr P st fn.results.toList=some l):
  ∃v,(results fn a.tmps).run P w= .ok v w/\R w (Ow X ρ) (kk l) ρ v:=by
 obtain⟨us,hrun,hus⟩:=MO cy tF _ _ hres;have hm:(fn.results.mapM (λ| .tmp t=>pure (a.tmps.getD t undef)| .cell x t=>do loadVar t (<-asAddr (a.tmps.getD x undef)):aA->Sem av)).run P w= .ok us.toArray w:=by
  rw[Array.mapM_eq_mapM_toList,Sem.run_map,hrun];rfl
 match l,us,hus,hm with
 |[x],us,hus,hm=>
  simp only[RL]at hus;obtain⟨v,vs',rfl,h1,rfl⟩:=hus;refine⟨v,?_,h1⟩;show((fn.results.mapM (λ| .tmp t=>pure (a.tmps.getD t undef)| .cell x t=>do loadVar t (<-asAddr (a.tmps.getD x undef)):aA->Sem av)) >>= λvs=>(pure (if h:vs.size=1 then vs[0]else .tuple vs):Sem av)).run P w=_;rw[aQ,hm];simp
 |[],us,hus,hm=>
  simp only[RL]at hus;subst hus;refine⟨.tuple #[],?_,by simp only[kk,R,RL];exact⟨[],rfl,rfl⟩⟩;show((fn.results.mapM (λ| .tmp t=>pure (a.tmps.getD t undef)| .cell x t=>do loadVar t (<-asAddr (a.tmps.getD x undef)):aA->Sem av)) >>= λvs=>(pure (if h:vs.size=1 then vs[0]else .tuple vs):Sem av)).run P w=_;rw[aQ,hm];simp
 |x::y::l,us,hus,hm=>
  have hlen:=hus.len;refine⟨.tuple us.toArray,?_,by simp only[kk,R];exact⟨us,rfl,hus⟩⟩;show((fn.results.mapM (λ| .tmp t=>pure (a.tmps.getD t undef)| .cell x t=>do loadVar t (<-asAddr (a.tmps.getD x undef)):aA->Sem av)) >>= λvs=>(pure (if h:vs.size=1 then vs[0]else .tuple vs):Sem av)).run P w=_;rw[aQ,hm];simp only[aP,aR];rw[dif_neg (by simp[hlen])]
def Ex.out:Ex->Prop
 | .exit _=>False
 |_=>True
def jZ(n:Nat)(args:List A)(bR:List Ob):St:=⟨args++br (n-args.length) (.cG []),bR⟩
theorem aos(n i:Nat)(x:A):bT (br n x) i=if i<n then x else .dU:=by
 induction n generalizing i with
 |zero=>simp[bT]
 |succ n ih=>
  cases i with
  |zero=>simp[bg,bT]
  |succ i=>simp[bg,bT,ih]
theorem aot{n:Nat}{args:List A}{vs:List av}(hp:Hp w0 X bR w ρ)(hargs:RL w (Ow X ρ) args ρ vs):
  Rel w0 X (jZ n args bR) { tmps:=vs.toArray++af (n-vs.toArray.size) undef,defers:=[] } w ρ:=by
 have hlen:=hargs.len;refine⟨by simp[jZ,hlen],λi=>?_,hp.obj,hp.dJ,hp.kept,hp.new,hp.fu,⟨[],rfl,bu,by simp⟩⟩;simp only[jZ,wJ];split
 .rename_i hi;have hv:vs[i]? =some (vs[i]'(by omega)):=bd (by omega);have hg:(vs.toArray++af (n-vs.toArray.size) undef).getD i undef=vs[i]'(by omega):=by
   rw[ab,Array.getElem?_append_left (by simp;omega)];simp[hv]
  rw[hg];exact hargs.get i _ hv
 rename_i hi;rw[aos];split
 .rename_i hi2;have hg:(vs.toArray++af (n-vs.toArray.size) undef).getD i undef=undef:=by
   rw[ab,Array.getElem?_append_right (by simp;omega)];simp only[List.size_toArray,Array.getElem?_replicate];split<;>rfl
  rw[hg];simp only[R,RL];exact⟨[],rfl,rfl⟩
 simp only[R]
theorem wQ{g:aB}{fn:aJ}{c:az}{args:List A}{vs:List av}{B':Nat}{Q:A->List Ob->Prop}(hp:Hp w0 X bR w ρ)(hargs:RL w (Ow X ρ) args ρ vs)(hf:E.P.funcs[g]? =some fn)(hb:fn.body=some c)(hv:∀ id,B'<=id->ρ id= .de)
  (h:W E B' false c (jZ fn.ntmps args bR) λe s=>e.out/\ ∃l,jr E.P s fn.results.toList=some l/\Q (kk l) s.bR):
  Calls E.P g vs.toArray w λe w'=>∃ v r objs' ρ',e= .returned v/\Q r objs'/\R w' (Ow X ρ') r ρ' v/\Hp w0 X objs' w' ρ'/\dz w w' (Ow X ρ) (Ow X ρ') ρ ρ':=by
 refine(rX (ro:=none) (n:=0)).1 (callsIn_of_wp_marks hf hb trivial (wpIn_mono (h none 0 w0 X _ w ρ (λ_=>rfl) (aot hp hargs)) ?_));rintro e a' w1 ⟨e0,cz,ρ',Ds,rfl,⟨hout,l,hres,hq⟩,hrel,hl,hd,hDs⟩;simp only[List.append_nil]at hd;have key:LeavesInM (fw none) 0 E.P fn a'.tmps (λe w'=>∃ v r objs' ρ',e= .returned v/\Q r objs'/\R w' (Ow X ρ') r ρ' v/\Hp w0 X objs' w' ρ'/\dz w w' (Ow X ρ) (Ow X ρ') ρ ρ') a'.defers .returning w1:=by
  rw[hd];obtain⟨Cp,fm,hn',wP⟩:=hrel.jM;have MP:Cp=Ds:=by
   have:bc mb Cp=bc mb Ds:=by rw[<-fm,hd]
   refine(bh ?_).1 this;intro x y hxy;simpa[mb]using hxy
  subst MP;have L2:∀ (Ds:List Nat) (w2:au),Ds.Nodup->(∀D∈Ds,w2.heap[D]? =some (.deferred (some []))/\w0.heap.size<=D/\w.heap.size<=D)->(Hp w0 X cz.bR w2 ρ'/\(∀i,R w2 (Ow X ρ') (bT cz.tmps i) ρ' (a'.tmps.getD i undef))/\dz w w2 (Ow X ρ) (Ow X ρ') ρ ρ')->
    LeavesInM (fw none) 0 E.P fn a'.tmps (λe w'=>∃ v r objs' ρ',e= .returned v/\Q r objs'/\R w' (Ow X ρ') r ρ' v/\Hp w0 X objs' w' ρ'/\dz w w' (Ow X ρ) (Ow X ρ') ρ ρ') (Ds.map mb) .returning w2:=by
   intro Ds
   induction Ds with
   |nil=>
    rintro w2 _ _ ⟨h1,h2,h3⟩;obtain⟨v,hrun,hr⟩:=aor h1 h2 hres;exact⟨v,hrun,v,_,_,ρ',rfl,hq,hr,h1,h3⟩
   |cons D Ds ih=>
    rintro w2 hn hD ⟨h1,h2,h3⟩;obtain⟨h4,h5,h6⟩:=hD D a6;obtain⟨Ca,MQ⟩:=bl.1 hn;refine⟨by simp,.inl ⟨D,_,rfl,run_takeDeferred h4,ih _ MQ (λD' wP=>?_) ⟨h1.putObj h4 h5 _,λi=>R.putObj h4 _ _ _ (h2 i),h3.putObj h6 _⟩⟩⟩;rw[aX (show D'≠D from λe=>Ca (e▸wP))];exact hD D' (a7 _ wP)
  exact L2 Cp w1 hn' (λD hm=>⟨(wP D hm).1,(wP D hm).2,hDs D hm⟩) ⟨hrel.hp,hrel.tmp,hl.later hv⟩
 cases e0 with
 |normal=>exact key
 |ret=>exact key
 |exit i=>exact hout.elim
end
end Go.Sy
namespace Go.Sy
open Go.RowKit
variable [fI]
section
variable {w0 w w':au} {X:Nat->Prop} {E:Env} {B:Nat} {fl:Bool} {st:St} {a:Act} {ρ ρ':Nat->Loc} {bR:List Ob}
theorem Gs:∀ (l:List Ob) (id:Nat),l.length<=id->bZ l id= .de
 |[],_,_=>rfl
 |a::l,0,h=>by simp at h
 |a::l,id+1,h=>by simp only[bZ];exact Gs l id (by simpa using h)
theorem wR(h:Rel w0 X st a w ρ){B':Nat}(hB:st.bR.length<=B'):∀ id,B'<=id->ρ id= .de:=λid cn=>h.de (Gs _ _ (bF hB cn))
theorem WO.inl{ops:Array ay}{i:Nat}{l:List Nat}{o:ay}{K:St->Prop}{g:aB}{fN args:List A}{fn:aJ}{c:az}{B':Nat}(ho:ops[i]? =some o)(hg:ft ops.toList st.tmps o=some true)(hc:oA o st.tmps (.fn g fN) args)
  (hent:jw E.P g=true) (hf:E.P.funcs[g]? =some fn) (hb:fn.body=some c) (hB:st.bR.length<=B')
  (h:W E B' false c (jZ fn.ntmps (args++fN) st.bR) λe s=>e.out/\ ∃r,jr E.P s fn.results.toList=some r/\WO E B fl ops l ⟨dm st.tmps o.dst (kk r),s.bR⟩ K):WO E B fl ops (i::l) st K:=by
 intro ro n w0 X a w ρ Q hro hr hq;simp only[wpOpsIn,ho];rw[qN hr hg,bS rfl];refine⟨λ_ _=>trivial,?_⟩;obtain⟨cx,as,oB,hop,lH,rfl⟩:=hc;have cW:=mE hr.tmp;have fA:=cW cx;rw[<-lH]at fA;simp only[R]at fA;obtain⟨pT,hfe,tw⟩:=fA;have hall:=aV (oY cW as.toList) tw;have hx:(execOp a.eval o).run E.P w= .ok (.enter g (as.toList.map a.eval++pT).toArray) w:=by
  simp only[execOp,hop,resolve,hfe,aL,aQ,aR,aP,invoke];rw[tu hent];congr 2;simp
 rw[aO _ _ _ (by rw[hop];intro c hc;cases hc),hx];refine aa (λh=>(by cases h)) ?_;rw[rX];refine(wQ (Q:=λr objs'=>WO E B fl ops l ⟨dm st.tmps o.dst r,objs'⟩ K) hr.hp hall hf hb (wR hr hB) ?_).mono ?_
 .exact h.mono λe s ⟨h1,r,h2,h3⟩=>⟨h1,r,h2,h3⟩
 rintro e w1 ⟨v,r,objs',ρ',rfl,wS,gR,hp,hl⟩;have fD:=(hr.after hl hp).iM o.dst gR;exact wS ro n w0 X _ w1 ρ' Q hro fD λcz a' w' ρ'' hk gb eB fm=>hq cz a' w' ρ'' hk gb (hl.trans eB) (fm.trans (put_defers _ _ _))
theorem WO.aou{ops:Array ay}{i:Nat}{l:List Nat}{o:ay}{K:St->Prop}{g:aB}{id off:Nat}{args:List A}{fn:aJ}{c:az}{B':Nat}(ho:ops[i]? =some o)(hg:ft ops.toList st.tmps o=some true)(hc:oA o st.tmps (.bm g id off) args)
  (hent:jw E.P g=true) (hf:E.P.funcs[g]? =some fn) (hb:fn.body=some c) (hB:st.bR.length<=B')
  (h:W E B' false c (jZ fn.ntmps (.ptr id off::args) st.bR) λe s=>e.out/\ ∃r,jr E.P s fn.results.toList=some r/\WO E B fl ops l ⟨dm st.tmps o.dst (kk r),s.bR⟩ K):WO E B fl ops (i::l) st K:=by
 intro ro n w0 X a w ρ Q hro hr hq;simp only[wpOpsIn,ho];rw[qN hr hg,bS rfl];refine⟨λ_ _=>trivial,?_⟩;obtain⟨cx,as,oB,hop,lH,rfl⟩:=hc;have cW:=mE hr.tmp;have fA:=cW cx;rw[<-lH]at fA;obtain⟨ad,hfe⟩:=fA.BX;have Cs:R w (Ow X ρ) (.ptr id off) ρ (.pointer (some ad)):=by
  rw[hfe]at fA;simp only[R]at fA⊢;split at fA
  .simp only[aW,Array.mk.injEq,bA,pz,pB]at fA;exact fA
  .exact⟨_,rfl⟩
  exact fA
 have hall:RL w (Ow X ρ) (.ptr id off::kX (cQ st.tmps) as.toList) ρ (.pointer (some ad)::as.toList.map a.eval):=by
  simp only[RL];exact⟨_,_,rfl,Cs,oY cW as.toList⟩
 have hx:(execOp a.eval o).run E.P w= .ok (.enter g (.pointer (some ad)::as.toList.map a.eval).toArray) w:=by
  simp only[execOp,hop,resolve,hfe,aL,aQ,aR,aP,invoke];rw[tu hent];congr 2;simp
 rw[aO _ _ _ (by rw[hop];intro c hc;cases hc),hx];refine aa (λh=>(by cases h)) ?_;rw[rX];refine(wQ (Q:=λr objs'=>WO E B fl ops l ⟨dm st.tmps o.dst r,objs'⟩ K) hr.hp hall hf hb (wR hr hB) ?_).mono ?_
 .exact h.mono λe s ⟨h1,r,h2,h3⟩=>⟨h1,r,h2,h3⟩
 rintro e w1 ⟨v,r,objs',ρ',rfl,wS,gR,hp,hl⟩;have fD:=(hr.after hl hp).iM o.dst gR;exact wS ro n w0 X _ w1 ρ' Q hro fD λcz a' w' ρ'' hk gb eB fm=>hq cz a' w' ρ'' hk gb (hl.trans eB) (fm.trans (put_defers _ _ _))
theorem WO.aov{ops:Array ay}{i:Nat}{l:List Nat}{o:ay}{K:St->Prop}{g:aB}{rl args:List A}{fn:aJ}{c:az}{B':Nat}(ho:ops[i]? =some o)(hg:ft ops.toList st.tmps o=some true)(hc:oA o st.tmps (.bv g rl) args)
  (hent:jw E.P g=true) (hf:E.P.funcs[g]? =some fn) (hb:fn.body=some c) (hB:st.bR.length<=B')
  (h:W E B' false c (jZ fn.ntmps (.agg rl::args) st.bR) λe s=>e.out/\ ∃r,jr E.P s fn.results.toList=some r/\WO E B fl ops l ⟨dm st.tmps o.dst (kk r),s.bR⟩ K):WO E B fl ops (i::l) st K:=by
 intro ro n w0 X a w ρ Q hro hr hq;simp only[wpOpsIn,ho];rw[qN hr hg,bS rfl];refine⟨λ_ _=>trivial,?_⟩;obtain⟨cx,as,oB,hop,lH,rfl⟩:=hc;have cW:=mE hr.tmp;have fA:=cW cx;rw[<-lH]at fA;simp only[R]at fA;obtain⟨us,hfe,hus⟩:=fA;have hall:RL w (Ow X ρ) (.agg rl::kX (cQ st.tmps) as.toList) ρ (.agg (a8 us)::as.toList.map a.eval):=by
  simp only[RL];exact⟨_,_,rfl,by simp only[R];exact⟨us,rfl,hus⟩,oY cW as.toList⟩
 have hx:(execOp a.eval o).run E.P w= .ok (.enter g (.agg (a8 us)::as.toList.map a.eval).toArray) w:=by
  simp only[execOp,hop,resolve,hfe,aL,aQ,aR,aP,invoke];rw[tu hent];congr 2;simp
 rw[aO _ _ _ (by rw[hop];intro c hc;cases hc),hx];refine aa (λh=>(by cases h)) ?_;rw[rX];refine(wQ (Q:=λr objs'=>WO E B fl ops l ⟨dm st.tmps o.dst r,objs'⟩ K) hr.hp hall hf hb (wR hr hB) ?_).mono ?_
 .exact h.mono λe s ⟨h1,r,h2,h3⟩=>⟨h1,r,h2,h3⟩
 rintro e w1 ⟨v,r,objs',ρ',rfl,wS,gR,hp,hl⟩;have fD:=(hr.after hl hp).iM o.dst gR;exact wS ro n w0 X _ w1 ρ' Q hro fD λcz a' w' ρ'' hk gb eB fm=>hq cz a' w' ρ'' hk gb (hl.trans eB) (fm.trans (put_defers _ _ _))
def jJ(st cz:St):Prop:=∀ (w0:au) (X:Nat->Prop) (a:Act) (w:au) (ρ:Nat->Loc),Rel w0 X st a w ρ-> ∃ρ1,Rel w0 X cz a w ρ1/\dz w w (Ow X ρ) (Ow X ρ1) ρ ρ1
structure pb(P:aF)(f:aB)(args:List A)(bR:List Ob)(B:Nat)(r:A)(objs':List Ob):Prop where
 lh:jw P f=true
 run:∀ (w0:au) (X:Nat->Prop) (w:au) (ρ:Nat->Loc) (vs:List av),Hp w0 X bR w ρ->RL w (Ow X ρ) args ρ vs->(∀id,B<=id->ρ id= .de)->
  Calls P f vs.toArray w λe w'=>∃ v ρ',e= .returned v/\R w' (Ow X ρ') r ρ' v/\Hp w0 X objs' w' ρ'/\dz w w' (Ow X ρ) (Ow X ρ') ρ ρ'
theorem WO.xo{ops:Array ay}{i:Nat}{l:List Nat}{o:ay}{K:St->Prop}{g:aB}{fN args vals:List A}{st1:St}{oC:List Ob}{r:A}{B':Nat}(ho:ops[i]? =some o)(hg:ft ops.toList st.tmps o=some true)(hc:oA o st.tmps (.fn g fN) args)
  (hw:jJ st st1) (hle:∀ w O ρ v,RL w O (args++fN) ρ v->RL w O vals ρ v) (hB:st1.bR.length<=B') (hf:pb E.P g vals st1.bR B' r oC)
  (h:WO E B fl ops l ⟨dm st1.tmps o.dst r,oC⟩ K):WO E B fl ops (i::l) st K:=by
 intro ro n w0 X a w ρ Q hro hr hq;simp only[wpOpsIn,ho];rw[qN hr hg,bS rfl];refine⟨λ_ _=>trivial,?_⟩;obtain⟨cx,as,oB,hop,lH,rfl⟩:=hc;have cW:=mE hr.tmp;have fA:=cW cx;rw[<-lH]at fA;simp only[R]at fA;obtain⟨pT,hfe,tw⟩:=fA;have hall:=aV (oY cW as.toList) tw;have hx:(execOp a.eval o).run E.P w= .ok (.enter g (as.toList.map a.eval++pT).toArray) w:=by
  simp only[execOp,hop,resolve,hfe,aL,aQ,aR,aP,invoke];rw[tu hf.lh];congr 2;simp
 rw[aO _ _ _ (by rw[hop];intro c hc;cases hc),hx];refine aa (λh=>(by cases h)) ?_;rw[rX];obtain⟨ρ1,fD,lg⟩:=hw w0 X a w ρ hr;refine(hf.run w0 X w ρ1 _ fD.hp (hle _ _ _ _ (aU _ _ _ _ lg hall)) (wR fD hB)).mono ?_;rintro e w1 ⟨v,ρ',rfl,gR,hp,hl⟩;have jO:=(fD.after hl hp).iM o.dst gR;exact h ro n w0 X _ w1 ρ' Q hro jO λcz a' w' ρ'' hk gb eB fm=>hq cz a' w' ρ'' hk gb (lg.trans (hl.trans eB)) (fm.trans (put_defers _ _ _))
theorem WO.aow{ops:Array ay}{i:Nat}{l:List Nat}{o:ay}{K:St->Prop}{g:aB}{id off:Nat}{args vals:List A}{st1:St}{oC:List Ob}{r:A}{B':Nat}(ho:ops[i]? =some o)(hg:ft ops.toList st.tmps o=some true)(hc:oA o st.tmps (.bm g id off) args)
  (hw:jJ st st1) (hle:∀ w O ρ v,RL w O (.ptr id off::args) ρ v->RL w O vals ρ v) (hB:st1.bR.length<=B') (hf:pb E.P g vals st1.bR B' r oC)
  (h:WO E B fl ops l ⟨dm st1.tmps o.dst r,oC⟩ K):WO E B fl ops (i::l) st K:=by
 intro ro n w0 X a w ρ Q hro hr hq;simp only[wpOpsIn,ho];rw[qN hr hg,bS rfl];refine⟨λ_ _=>trivial,?_⟩;obtain⟨cx,as,oB,hop,lH,rfl⟩:=hc;have cW:=mE hr.tmp;have fA:=cW cx;rw[<-lH]at fA;obtain⟨ad,hfe⟩:=fA.BX;have Cs:R w (Ow X ρ) (.ptr id off) ρ (.pointer (some ad)):=by
  rw[hfe]at fA;simp only[R]at fA⊢;split at fA
  .simp only[aW,Array.mk.injEq,bA,pz,pB]at fA;exact fA
  .exact⟨_,rfl⟩
  exact fA
 have hall:RL w (Ow X ρ) (.ptr id off::kX (cQ st.tmps) as.toList) ρ (.pointer (some ad)::as.toList.map a.eval):=by
  simp only[RL];exact⟨_,_,rfl,Cs,oY cW as.toList⟩
 have hx:(execOp a.eval o).run E.P w= .ok (.enter g (.pointer (some ad)::as.toList.map a.eval).toArray) w:=by
  simp only[execOp,hop,resolve,hfe,aL,aQ,aR,aP,invoke];rw[tu hf.lh];congr 2;simp
 rw[aO _ _ _ (by rw[hop];intro c hc;cases hc),hx];refine aa (λh=>(by cases h)) ?_;rw[rX];obtain⟨ρ1,fD,lg⟩:=hw w0 X a w ρ hr;refine(hf.run w0 X w ρ1 _ fD.hp (hle _ _ _ _ (aU _ _ _ _ lg hall)) (wR fD hB)).mono ?_;rintro e w1 ⟨v,ρ',rfl,gR,hp,hl⟩;have jO:=(fD.after hl hp).iM o.dst gR;exact h ro n w0 X _ w1 ρ' Q hro jO λcz a' w' ρ'' hk gb eB fm=>hq cz a' w' ρ'' hk gb (lg.trans (hl.trans eB)) (fm.trans (put_defers _ _ _))
theorem aox{id:Nat}{x x':A}{v:av}(h:Rel w0 X st a w ρ)(hr:R w (Ow X ρ) x ρ v)(he:KS id (cM st.bR id .dead) x=some x'):R w (λb=>(ρ id).has b) x' (dj b7 0 (ρ id)) v:=by
 have key:∀ x',eX (cM st.bR id .dead) 5 x=some x'->R w (λb=>(ρ id).has b) x' (dj b7 0 (ρ id)) v:=by
  intro x' he;have:=(Gf (O':=λb=>(ρ id).has b) (bR:=cM st.bR id .dead) (h.Gj [id]) (λb _ hb=>.inr ⟨id,hb⟩) (λj b hj hb=>⟨(h.new b ⟨j,hb⟩).2,λhi=>?_⟩) 5).1 x x' v hr he
  .exact aS _ b7 (dj b7 0 (ρ id)) v ⟨bB _,λ_ _ _=>rfl,λ_ _ h=>h,λ_=>.inr (.inl rfl)⟩ this
  have:=h.dJ j id b hb hi;subst this;rw[ef,bS rfl]at hj;exact hj rfl
 unfold KS at he;split at he
 .rename_i j;cases hj:Nat.beq j id with
  |true=>
   rw[hj]at he;simp only[cond_true,bJ]at he;subst he;have:=Nat.eq_of_beq_eq_true hj;subst this;simp only[R,dM]at hr⊢;exact hr
  |false=>rw[hj]at he;exact key x' he
 exact key x' he
theorem MR{id:Nat}(h:Rel w0 X st a w ρ):∀ {l l':List A} {vs:List av},RL w (Ow X ρ) l ρ vs->uz id (cM st.bR id .dead) l=some l'->RL w (λb=>(ρ id).has b) l' (dj b7 0 (ρ id)) vs
 |[],l',vs,hr,he=>by simp only[uz,bJ]at he;subst he;simpa only[RL]using hr
 |x::l,l',vs,hr,he=>by
  simp only[uz]at he;split at he
  .rename_i b m h1 h2;simp only[bJ]at he;subst he;simp only[RL]at hr⊢;obtain⟨v,vs',rfl,h3,h4⟩:=hr;exact⟨v,vs',rfl,aox h h3 h1,MR h h4 h2⟩
  cases he
theorem WO.mut{ops:Array ay}{i:Nat}{l:List Nat}{o:ay}{K:St->Prop}{g:aB}{fN args vals:List A}{post:Ob->A->Prop}(id:Nat){e:aD}{c n:Nat}{el:Nat->Nat->A}(ho:ops[i]? =some o)(hg:ft ops.toList st.tmps o=some true)(hc:oA o st.tmps (.fn g fN) args)
  (cy:bZ st.bR id= .row e c n el) (hv:uz id (cM st.bR id .dead) (args++fN)=some vals) (hf:mq E.P g vals (.row e c n el) post)
  (h:∀ gS r,post gS r->WO E B fl ops l ⟨dm st.tmps o.dst (eU 0 id 6 r),cM st.bR id gS⟩ K):WO E B fl ops (i::l) st K:=by
 intro ro n' w0 X a w ρ Q hro hr hq;simp only[wpOpsIn,ho];rw[qN hr hg,bS rfl];refine⟨λ_ _=>trivial,?_⟩;obtain⟨cx,as,oB,hop,lH,rfl⟩:=hc;have cW:=mE hr.tmp;have fA:=cW cx;rw[<-lH]at fA;simp only[R]at fA;obtain⟨pT,hfe,tw⟩:=fA;have hall:=aV (oY cW as.toList) tw;have hx:(execOp a.eval o).run E.P w= .ok (.enter g (as.toList.map a.eval++pT).toArray) w:=by
  simp only[execOp,hop,resolve,hfe,aL,aQ,aR,aP,invoke];rw[tu hf.lh];congr 2;simp
 rw[aO _ _ _ (by rw[hop];intro c hc;cases hc),hx];refine aa (λh=>(by cases h)) ?_;rw[rX];have hrow:=hr.obj id;rw[cy]at hrow;have MS:fR w (λb=>(ρ id).has b) b7 (.row e c n el) (ρ id):=by
  obtain⟨v,xs,h1,h2,h3,h4⟩:=hrow;refine⟨v,xs,h1,h2,h3,λi hi j hj=>?_⟩;obtain⟨u,h5,h6⟩:=h4 i hi j hj;exact⟨u,h5,aS _ b7 b7 u ⟨bB _,λ_ _ _=>rfl,λb _ hb=>.inr ⟨id,hb⟩,λ_=>.inl rfl⟩ h6⟩
 refine(hf.run w (ρ id) _ (λb hb=>(hr.new b ⟨id,hb⟩).2) MS (MR hr hall hv)).mono ?_;rintro e' w' ⟨v,gS,r,rfl,hp,dF,hsame,eZ,gx,gR⟩;have hL:dz w w' (Ow X ρ) (Ow X ρ) ρ ρ:=⟨dF.size,λb hb hn=>hsame b hb (λe=>hn (.inr ⟨id,e⟩)),λ_ _ h=>h,λ_=>.inl rfl⟩;have MT:fP w0.heap.size w0 w':=hr.kept.trans ⟨dF.os,dF.tape,dF.output,dF.size,λk hk=>hsame k (bD hk hr.size) (λe=>by have:=(hr.new k ⟨id,e⟩).1;omega),dF.drawn⟩;have hrel:Rel w0 X ⟨st.tmps,cM st.bR id gS⟩ a w' ρ:=by
  refine hr.next hL MT (λj=>?_) hr.dJ (λb hb=>⟨(hr.new b hb).1,bD (hr.new b hb).2 dF.size⟩);rw[ef];by_cases hj:j=id
  .subst hj;rw[bS rfl];exact fR.later (ρ:=b7) ⟨bB _,λ_ _ hn=>(hn bP).elim,λ_ _ _=>trivial,λ_=>.inr (.inl rfl)⟩ (λ_ _=>rfl) eZ
  rw[bQ hj];exact(hr.obj j).later hL λb hb=>hsame b (hr.new b ⟨j,hb⟩).2 (λe=>hj (hr.dJ j id b hb e))
 have fD:=hrel.iM o.dst (x:=eU 0 id 6 r) (v:=v) ((Ch (w':=w') (O:=Ow X ρ) (l:=ρ id) (ρ':=ρ) (d:=id) rfl 6).1 r v ((tr 5).1 _ _ gx gR));exact h gS r hp ro n' w0 X _ w' ρ Q hro fD λcz a' w'' ρ'' hk gb eB fm=>hq cz a' w'' ρ'' hk gb (hL.trans eB) (fm.trans (put_defers _ _ _))
theorem WO.aoy{ops:Array ay}{i:Nat}{l:List Nat}{o:ay}{K:St->Prop}{g:aB}{pid off:Nat}{args vals:List A}{post:Ob->A->Prop}(id:Nat){e:aD}{c n:Nat}{el:Nat->Nat->A}(ho:ops[i]? =some o)(hg:ft ops.toList st.tmps o=some true)(hc:oA o st.tmps (.bm g pid off) args)
  (cy:bZ st.bR id= .row e c n el) (hv:uz id (cM st.bR id .dead) (.ptr pid off::args)=some vals) (hf:mq E.P g vals (.row e c n el) post)
  (h:∀ gS r,post gS r->WO E B fl ops l ⟨dm st.tmps o.dst (eU 0 id 6 r),cM st.bR id gS⟩ K):WO E B fl ops (i::l) st K:=by
 intro ro n' w0 X a w ρ Q hro hr hq;simp only[wpOpsIn,ho];rw[qN hr hg,bS rfl];refine⟨λ_ _=>trivial,?_⟩;obtain⟨cx,as,oB,hop,lH,rfl⟩:=hc;have cW:=mE hr.tmp;have fA:=cW cx;rw[<-lH]at fA;obtain⟨ad,hfe⟩:=fA.BX;have Cs:R w (Ow X ρ) (.ptr pid off) ρ (.pointer (some ad)):=by
  rw[hfe]at fA;simp only[R]at fA⊢;split at fA
  .simp only[aW,Array.mk.injEq,bA,pz,pB]at fA;exact fA
  .exact⟨_,rfl⟩
  exact fA
 have hall:RL w (Ow X ρ) (.ptr pid off::kX (cQ st.tmps) as.toList) ρ (.pointer (some ad)::as.toList.map a.eval):=by
  simp only[RL];exact⟨_,_,rfl,Cs,oY cW as.toList⟩
 have hx:(execOp a.eval o).run E.P w= .ok (.enter g (.pointer (some ad)::as.toList.map a.eval).toArray) w:=by
  simp only[execOp,hop,resolve,hfe,aL,aQ,aR,aP,invoke];rw[tu hf.lh];congr 2;simp
 rw[aO _ _ _ (by rw[hop];intro c hc;cases hc),hx];refine aa (λh=>(by cases h)) ?_;rw[rX];have hrow:=hr.obj id;rw[cy]at hrow;have MS:fR w (λb=>(ρ id).has b) b7 (.row e c n el) (ρ id):=by
  obtain⟨v,xs,h1,h2,h3,h4⟩:=hrow;refine⟨v,xs,h1,h2,h3,λi hi j hj=>?_⟩;obtain⟨u,h5,h6⟩:=h4 i hi j hj;exact⟨u,h5,aS _ b7 b7 u ⟨bB _,λ_ _ _=>rfl,λb _ hb=>.inr ⟨id,hb⟩,λ_=>.inl rfl⟩ h6⟩
 refine(hf.run w (ρ id) _ (λb hb=>(hr.new b ⟨id,hb⟩).2) MS (MR hr hall hv)).mono ?_;rintro e' w' ⟨v,gS,r,rfl,hp,dF,hsame,eZ,gx,gR⟩;have hL:dz w w' (Ow X ρ) (Ow X ρ) ρ ρ:=⟨dF.size,λb hb hn=>hsame b hb (λe=>hn (.inr ⟨id,e⟩)),λ_ _ h=>h,λ_=>.inl rfl⟩;have MT:fP w0.heap.size w0 w':=hr.kept.trans ⟨dF.os,dF.tape,dF.output,dF.size,λk hk=>hsame k (bD hk hr.size) (λe=>by have:=(hr.new k ⟨id,e⟩).1;omega),dF.drawn⟩;have hrel:Rel w0 X ⟨st.tmps,cM st.bR id gS⟩ a w' ρ:=by
  refine hr.next hL MT (λj=>?_) hr.dJ (λb hb=>⟨(hr.new b hb).1,bD (hr.new b hb).2 dF.size⟩);rw[ef];by_cases hj:j=id
  .subst hj;rw[bS rfl];exact fR.later (ρ:=b7) ⟨bB _,λ_ _ hn=>(hn bP).elim,λ_ _ _=>trivial,λ_=>.inr (.inl rfl)⟩ (λ_ _=>rfl) eZ
  rw[bQ hj];exact(hr.obj j).later hL λb hb=>hsame b (hr.new b ⟨j,hb⟩).2 (λe=>hj (hr.dJ j id b hb e))
 have fD:=hrel.iM o.dst (x:=eU 0 id 6 r) (v:=v) ((Ch (w':=w') (O:=Ow X ρ) (l:=ρ id) (ρ':=ρ) (d:=id) rfl 6).1 r v ((tr 5).1 _ _ gx gR));exact h gS r hp ro n' w0 X _ w' ρ Q hro fD λcz a' w'' ρ'' hk gb eB fm=>hq cz a' w'' ρ'' hk gb (hL.trans eB) (fm.trans (put_defers _ _ _))
theorem Rel.kill(h:Rel w0 X st a w ρ)(L:Nat):Rel w0 X ⟨st.tmps,cM st.bR L .dead⟩ a w (dj ρ L .dead)/\dz w w (Ow X ρ) (Ow X (dj ρ L .dead)) ρ (dj ρ L .dead):=by
 have hblk:∀ id b,(dj ρ L .dead id).has b->(ρ id).has b/\id≠L:=by
  intro id b hb;by_cases cn:id=L
  .subst cn;rw[dM]at hb;cases hb
  rw[dX _ _ _ cn]at hb;exact⟨hb,cn⟩
 have how:∀ b,owned (dj ρ L .dead) b->owned ρ b:=λb ⟨id,cn⟩=>⟨id,(hblk id b cn).1⟩;have hL:dz w w (Ow X ρ) (Ow X (dj ρ L .dead)) ρ (dj ρ L .dead):=by
  refine⟨bB _,λ_ _ _=>rfl,λb _ ho=>?_,λid=>?_⟩
  .rcases ho with ho|ho
   .exact .inl ho
   exact .inr (how b ho)
  by_cases cn:id=L
  .subst cn;exact .inr (.inr (dM _ _ _))
  exact .inl (dX _ _ _ cn)
 refine⟨h.next hL h.kept (λid=>?_) (λi j b hi hj=>h.dJ i j b (hblk i b hi).1 (hblk j b hj).1) (λb hb=>h.new b (how b hb)),hL⟩;rw[ef];by_cases cn:id=L
 .subst cn;rw[bS rfl,dM];exact rfl
 rw[bQ cn,dX _ _ _ cn];exact(h.obj id).later hL λ_ _=>rfl
theorem Rel.MU(h:Rel w0 X st a w ρ){L b:Nat}{r:Loop}{ts:List A}{ps:List Nat}{gQ gL:az}{gZ:aH}{iK:Option az}(cy:bZ st.bR L= .lp ts ps gQ gL gZ iK)(hρ:ρ L= .loop b)(hg:w.heap[b]? =some (.loop r))(Gt:aH)(Gu:Option az):
  Rel w0 X ⟨st.tmps,cM st.bR L (.lp ts ps gQ gL Gt Gu)⟩ a (w.putObj b (.loop { r with state:=Gt,pending:=Gu })) ρ/\
   dz w (w.putObj b (.loop { r with state:=Gt,pending:=Gu })) (Ow X ρ) (Ow X ρ) ρ ρ:=by
 have dF:(ρ L).has b:=by rw[hρ];rfl
 have hL:dz w (w.putObj b (.loop { r with state:=Gt,pending:=Gu })) (Ow X ρ) (Ow X ρ) ρ ρ:=
  ⟨by simp,λb' _ hn=>aX (λe=>hn (by subst e;exact .inr ⟨L,dF⟩)),λ_ _ h=>h,λ_=>.inl rfl⟩
 refine⟨h.next hL (Xg h.kept (h.new b ⟨L,dF⟩).1 _) (λi=>?_) h.dJ (λb' hb'=>by have:=h.new b' hb';simpa using this),hL⟩;rw[ef];by_cases cn:i=L
 .subst cn;rw[bS rfl];have:=h.obj i;rw[cy]at this;obtain⟨b',r',vs,h1,h2,h3,h4,h5,h6,h7,h8,h9⟩:=this;rw[hρ]at h1;simp only[Loc.loop.injEq]at h1;subst h1;rw[hg]at h2;simp only[bJ,Obj.loop.injEq]at h2;subst h2;exact⟨b,_,vs,hρ,aY (ae.1 hg).1,h3,aU _ _ _ _ hL h4,h5,h6,h7,rfl,rfl⟩
 rw[bQ cn];exact(h.obj i).later hL λb' hb'=>aX (λe=>cn (h.dJ i L b (e▸hb') dF))
def wT:List A->List Nat->List A->List A
 |ts,p::ps,a::as=>wT (eS ts p a) ps as
 |ts,_,_=>ts
theorem Xh{O:Nat->Prop}:∀ (ps:List Nat) (args:List A) (vs:List av) (ts:List A) (tv:Array av),RL w O args ρ vs->tv.size=ts.length->(∀i,R w O (bT ts i) ρ (tv.getD i undef))->
  ((ps.zip vs).foldl (λt (p:Nat×av)=>t.setIfInBounds p.1 p.2) tv).size=(wT ts ps args).length/\ ∀i,R w O (bT (wT ts ps args) i) ρ (((ps.zip vs).foldl (λt (p:Nat×av)=>t.setIfInBounds p.1 p.2) tv).getD i undef)
 |[],args,vs,ts,tv,ha,hl,ht=>by cases args<;>exact⟨hl,ht⟩
 |p::ps,[],vs,ts,tv,ha,hl,ht=>by
  simp only[RL]at ha;subst ha;exact⟨hl,ht⟩
 |p::ps,x::args,vs,ts,tv,ha,hl,ht=>by
  simp only[RL]at ha;obtain⟨v,vs',rfl,h1,h2⟩:=ha;simp only[wT,List.zip_cons_cons,List.foldl_cons];refine Xh ps args vs' (eS ts p x) (tv.setIfInBounds p v) h2 (by simp[wI,hl]) λi=>?_;rw[th];by_cases hi:i=p/\p<ts.length
  .rw[bS hi];obtain⟨rfl,hp⟩:=hi;have:(tv.setIfInBounds i v).getD i undef=v:=by simp[ak,hl,hp]
   rw[this];exact h1
  rw[bQ hi];have:(tv.setIfInBounds p v).getD i undef=tv.getD i undef:=by
   by_cases cn:i=p
   .subst cn;have hge:tv.size<=i:=by rw[hl];exact bH λh'=>hi ⟨rfl,h'⟩
    rw[Array.setIfInBounds_eq_of_size_le hge]
   simp[ab,Ne.symm cn]
  rw[this];exact ht i
def Ex.jump:Ex->Option az
 | .normal=>none
 | .exit id=>some (.exit id)
 | .ret=>some .ret
def Ex.goes:Ex->Bool
 | .normal=>true
 |_=>false
def Ex.gZ:Ex->aH
 | .normal=>.ready
 |_=>.done
theorem WO.yield{ops:Array ay}{i:Nat}{l:List Nat}{o:ay}{K:St->Prop}{L:Nat}{args:List A}{ts:List A}{ps:List Nat}{gQ gL:az}{iK:Option az}{B':Nat}(ho:ops[i]? =some o)(hg:ft ops.toList st.tmps o=some true)(hc:oA o st.tmps (.dA L) args)
  (qQ:bZ st.bR L= .lp ts ps gQ gL .ready iK) (hlen:args.length=ps.length) (hB:st.bR.length<=B')
  (h:W E B' true gQ ⟨wT ts ps args,st.bR⟩ λe s1=>match e with
   | .normal=>∃ MV MW MX MY Cu,bZ s1.bR L= .lp MV MW MX MY .ready Cu/\
    W E B' true gL ⟨s1.tmps,cM s1.bR L (.lp MV MW MX MY .busy Cu)⟩ λe2 s2=>∃ Gv Gw Gx Gy Xi Xj,bZ s2.bR L= .lp Gv Gw Gx Gy Xi Xj/\
     WO E B fl ops l ⟨dm st.tmps o.dst (.kb e2.goes),cM s2.bR L (.lp Gv Gw Gx Gy e2.gZ e2.jump)⟩ K
   |_=>False):WO E B fl ops (i::l) st K:=by
 intro ro n w0 X a w ρ Q hro hr hq;simp only[wpOpsIn,ho];rw[qN hr hg,bS rfl];refine⟨λ_ _=>trivial,?_⟩;obtain⟨cx,as,oB,hop,lH,rfl⟩:=hc;have cW:=mE hr.tmp;have fA:=cW cx;rw[<-lH]at fA;have cy:=hr.obj L;rw[qQ]at cy;obtain⟨b,r,vs,hρ,hgb,tF,hts,hps,aoz,aoA,Xk,arS⟩:=cy;simp only[R,hρ]at fA;have hargs:=oY cW as.toList;have hsz:(as.map a.eval).size=r.params.size:=by
  have h1:r.params.size=ps.length:=by rw[<-hps];simp
  have h2:=hargs.len;simp only[List.length_map,aj]at h2;simp only[Array.size_map,h1,<- hlen];exact h2
 have hx:(execOp a.eval o).run E.P w= .ok (.round b r.fn ((r.params.zip (as.map a.eval)).foldl (λtmps (t,a)=>tmps.setIfInBounds t a) r.tmps) r.assign r.body) w:=by
  simp only[execOp,hop,resolve,fA,aL,aQ,aR,aP,invoke];simpa using run_yield (P:=E.P) hgb hsz
 rw[aO _ _ _ (by rw[hop];intro c hc;cases hc),hx];refine aa (λh=>(by cases h)) ?_;have hv:=wR hr hB;have MZ:((r.params.zip (as.map a.eval)).foldl (λtmps (t,a)=>tmps.setIfInBounds t a) r.tmps)=((ps.zip (as.toList.map a.eval)).foldl (λt (p:Nat×av)=>t.setIfInBounds p.1 p.2) (a8 vs)):=by
  rw[tF,<- hps];rw[<-Array.foldl_toList];congr 1;simp
 rw[MZ];have hput:=Xh (w:=w) (ρ:=ρ) (O:=Ow X ρ) ps _ _ ts (a8 vs) hargs (by simp[hts.len]) (λi=>by
  by_cases hi:i<vs.length
  .have:(a8 vs).getD i undef=vs[i]:=by simp[ak,hi]
   rw[this];exact hts.get i _ (bd hi)
  have hl:=hts.len;have:bT ts i= .dU:=by
   have:∀ (l:List A) (i:Nat),l.length<=i->bT l i= .dU:=by
    intro l
    induction l with
    |nil=>intro i _;rfl
    |cons x l ih=>intro i h;cases i with
     |zero=>simp at h
     |succ i=>exact ih i (by simpa using h)
   exact this ts i (by omega)
  rw[this];simp only[R])
 have aoB:Rel w0 X ⟨wT ts ps (kX (cQ st.tmps) as.toList),st.bR⟩ { tmps:=((ps.zip (as.toList.map a.eval)).foldl (λt (p:Nat×av)=>t.setIfInBounds p.1 p.2) (a8 vs)),defers:=[] } w ρ:=
  ⟨hput.1,hput.2,hr.obj,hr.dJ,hr.kept,hr.new,hr.fu,⟨[],rfl,bu,by simp⟩⟩
 refine roundIn_of_wpIn (F:=fw ro) trivial ?_;rw[aoz,aoA];refine wpIn_mono (h (some b) (n-1) w0 X _ w ρ (λh=>by cases h) aoB) ?_;rintro e a1 w1 ⟨e0,s1,ρ1,Ds,rfl,h1,h2,h3,h4,h5⟩;cases e0 with
 |exit id=>exact h1.elim
 |ret=>exact h1.elim
 |normal=>
  obtain⟨MV,MW,MX,MY,Cu,M0,hbody⟩:=h1;have lg:=h3.later hv;have hρL:∀ {ρ':Nat->Loc} {w':au} {s':St} {a':Act},Rel w0 X s' a' w' ρ'->dz w w' (Ow X ρ) (Ow X ρ') ρ ρ'-> ∀{t p q d t' p'},bZ s'.bR L= .lp t p q d t' p'->ρ' L= .loop b:=by
   intro ρ' w' s' a' gb eB t p q d t' p' aoC;rcases eB.loc L with e|e|e
   .rw[e,hρ]
   .rw[hρ]at e;cases e
   have:=gb.obj L;rw[aoC,e]at this;obtain⟨_,_,_,h,_⟩:=this;cases h
  have hρ1:=hρL h2 lg M0;have Xl:=h2.obj L;rw[M0]at Xl;obtain⟨b1,r1,Xm,e1,Cv,_,_,_,_,_,M1,Gz⟩:=Xl;rw[hρ1]at e1;simp only[Loc.loop.injEq]at e1;subst e1;refine⟨_,run_beginRound Cv M1,?_⟩;obtain⟨jO,hl2⟩:=h2.MU M0 hρ1 Cv .busy Cu;have uF:({ r1 with state:=.busy,pending:=Cu }:Loop)={ r1 with state:=.busy }:=by rw[<-Gz]
  rw[uF]at jO hl2;refine wpIn_mono (hbody (some b) (n-1) w0 X _ _ ρ1 (λh=>by cases h) jO) ?_;rintro e a2 w2 ⟨e2,s2,ρ2,Ds2,rfl,k1,k2,k3,k4,k5⟩;obtain⟨Gv,Gw,Gx,Gy,Xi,Xj,M3,wS⟩:=k1;have M4:dz w w2 (Ow X ρ) (Ow X ρ2) ρ ρ2:=((h3.trans hl2.r6).trans k3).later hv;have hρ2:=hρL k2 M4 M3;have uL:=k2.obj L;rw[M3]at uL;obtain⟨b2,r2,SD,e3,GA,_,_,_,_,_,arT,arU⟩:=uL;rw[hρ2]at e3;simp only[Loc.loop.injEq]at e3;subst e3;obtain⟨hr3,GC⟩:=k2.MU M3 hρ2 GA e2.gZ e2.jump;have iT:Rel w0 X ⟨dm st.tmps o.dst (.kb e2.goes),cM s2.bR L (.lp Gv Gw Gx Gy e2.gZ e2.jump)⟩ (a.put o.dst (.bool e2.goes)) (w2.putObj b (.loop { r2 with state:=e2.gZ,pending:=e2.jump })) ρ2:=
   (hr.after (M4.trans GC) hr3.hp).iM o.dst (by simp only[R])
  have hend:=wS ro n w0 X _ _ ρ2 Q hro iT λcz a' w' ρ'' hk gb eB fm=>hq cz a' w' ρ'' hk gb ((M4.trans GC).trans eB) (fm.trans (put_defers _ _ _));cases e2 with
  |normal=>exact⟨_,_,run_endRound none GA,hend⟩
  |exit id=>exact⟨_,_,run_endRound (some (.exit id)) GA,hend⟩
  |ret=>exact⟨_,_,run_endRound (some .ret) GA,hend⟩
def GD(Q:Ex->St->Prop)(st:St):Option az->Prop
 |none=>Q .normal st
 |some .ret=>Q .ret st
 |some (.exit id)=>Q (.exit id) st
 |_=>False
theorem W.range{Q:Ex->St->Prop}{g:aG}{ps:Array Tmp}{gQ gL:az}{gf:aB}{fN:List A}{fn:aJ}{c:az}{L B':Nat}(hg:cQ st.tmps g= .fn gf fN)(hent:jw E.P gf=true)(hf:E.P.funcs[gf]? =some fn)(hb:fn.body=some c)
  (hL:bZ st.bR L= .de) (hB:(cM st.bR L (.lp st.tmps ps.toList gQ gL .ready none)).length<=B')
  (h:W E B' false c (jZ fn.ntmps (.dA L::fN) (cM st.bR L (.lp st.tmps ps.toList gQ gL .ready none))) λe s=>e.out/\ ∃r,jr E.P s fn.results.toList=some r/\
   ∃ts ps' Cw Cy gZ iK,bZ s.bR L= .lp ts ps' Cw Cy gZ iK/\(match gZ with| .busy=>False|_=>True)/\GD Q ⟨st.tmps,cM s.bR L .dead⟩ iK):
  W E B false (.rangeFunc g ps gQ gL) st Q:=by
 intro ro n w0 X a w ρ hro hr;have hro:=hro rfl;subst hro;refine wpIn_rangeFunc λfnn _=>?_;have cW:=mE hr.tmp;have fA:=cW g;rw[hg]at fA;simp only[R]at fA;obtain⟨pT,hfe,tw⟩:=fA;obtain⟨rec,wU⟩:∃ rec:Loop,rec={ state:=.ready,pending:=none,fn:=fnn,tmps:=a.tmps,params:=ps,assign:=gQ,body:=gL,defers:=w.heap.size }:=⟨_,rfl⟩;have GF:dz w (w.alloc (.deferred (some []))) (Ow X ρ) (Ow X ρ) ρ ρ:=⟨by simp,λb hb _=>Below.heap_alloc _ _ _ hb,λ_ _ h=>h,λ_=>.inl rfl⟩;have M5:Rel w0 X st a (w.alloc (.deferred (some []))) ρ:=
  hr.next GF (hr.kept.alloc hr.size _) (λid=>(hr.obj id).later GF λb hb=>Below.heap_alloc _ _ _ (hr.new b ⟨id,hb⟩).2) hr.dJ (λb hb=>by have:=hr.new b hb;simp;omega)
 have hvL:=M5.de hL;have Xn:∀ b,(Loc.loop (w.heap.size+1)).has b->b=(w.alloc (.deferred (some []))).heap.size:=λb hb=>by simpa[Loc.has,iP]using hb
 have M6:=pP (X:=X) (w:=w.alloc (.deferred (some []))) (.loop rec) hvL Xn;have hal:∀ (w:au) (o:Obj),(w.alloc o).heap[w.heap.size]? =some o:=World.alloc_heap_new;have aoD:fR ((w.alloc (.deferred (some []))).alloc (.loop rec)) (Ow X (dj ρ L (.loop (w.heap.size+1)))) (dj ρ L (.loop (w.heap.size+1))) (.lp st.tmps ps.toList gQ gL .ready none) (.loop (w.heap.size+1)):=by
  refine⟨w.heap.size+1,rec,a.tmps.toList,rfl,?_,by rw[wU],?_,by rw[wU],by rw[wU],by rw[wU],by rw[wU],by rw[wU]⟩
  .have:=hal (w.alloc (.deferred (some []))) (.loop rec);rwa[World.size_alloc]at this
  refine aU _ ρ _ _ M6 (LL (by rw[aj,hr.len]) λi v hv=>?_);have:=M5.tmp i;have e:a.tmps.getD i undef=v:=by
   rw[ab];have:a.tmps[i]? =some v:=by simpa using hv
   rw[this];rfl
  rwa[e]at this
 have GG:=M5.make hL Xn aoD;have hyv:R ((w.alloc (.deferred (some []))).alloc (.loop rec)) (Ow X (dj ρ L (.loop (w.heap.size+1)))) (.dA L) (dj ρ L (.loop (w.heap.size+1))) (.func (.yield (w.heap.size+1)) #[] #[]):=by
  simp only[R,dM]
 have tE:=aU _ _ _ _ (GF.trans M6) tw;have hargs:RL ((w.alloc (.deferred (some []))).alloc (.loop rec)) (Ow X (dj ρ L (.loop (w.heap.size+1)))) (.dA L::fN) (dj ρ L (.loop (w.heap.size+1))) (.func (.yield (w.heap.size+1)) #[] #[]::pT):=by
  simp only[RL];exact⟨_,_,rfl,hyv,tE⟩
 refine⟨w.heap.size+1,[mb w.heap.size],(w.alloc (.deferred (some []))).alloc (.loop rec),{ target:=.fn (.func gf) (a8 pT),args:=#[.func (.yield (w.heap.size+1)) #[] #[]] },(w.alloc (.deferred (some []))).alloc (.loop rec),gf,
  (Value.func (.yield (w.heap.size+1)) #[] #[]::pT).toArray,(w.alloc (.deferred (some []))).alloc (.loop rec),?_,?_,λ_ _=>trivial,?_,(λh=>(by cases h)),?_⟩
 .rw[wU];exact run_enterLoop_outer _ _ _ _ _
 .simp only[resolve,hfe,aL,aQ,aR,aP];simp;rfl
 .simp only[invoke];rw[tu hent];congr 2;simp
 rw[rX];refine(wQ (Q:=λ_ objs'=>∃ ts ps' Cw Cy gZ iK,bZ objs' L= .lp ts ps' Cw Cy gZ iK/\(match gZ with| .busy=>False|_=>True)/\GD Q ⟨st.tmps,cM objs' L .dead⟩ iK) GG.hp hargs hf hb (wR GG hB) ?_).mono ?_
 .exact h.mono λe s ⟨h1,r,h2,h3⟩=>⟨h1,r,h2,h3⟩
 rintro e w3 ⟨v,r,objs',ρ',rfl,⟨ts,ps',Cw,Cy,gZ,iK,qQ,Xk,hend⟩,gR,hp,hl⟩;have GC:=(GF.trans M6).trans hl;have hrC:Rel w0 X ⟨st.tmps,objs'⟩ a w3 ρ':=GG.after hl hp;have hρL:ρ' L= .loop (w.heap.size+1):=by
  rcases hl.loc L with e|e|e
  .rw[e,dM]
  .rw[dM]at e;cases e
  have:=hp.obj L;rw[qQ,e]at this;obtain⟨_,_,_,h,_⟩:=this;cases h
 have cy:=hp.obj L;rw[qQ]at cy;obtain⟨b1,r1,Xm,e1,Cv,_,_,_,_,_,M1,Gz⟩:=cy;rw[hρL]at e1;simp only[Loc.loop.injEq]at e1;subst e1;refine⟨_,_,run_endLoop Cv (by rw[M1];cases gZ<;>first|exact Xk.elim|simp),?_⟩;obtain⟨Xo,Xp⟩:=hrC.MU qQ hρL Cv .exhausted iK;have uF:({ r1 with state:=.exhausted,pending:=iK }:Loop)={ r1 with state:=.exhausted }:=by rw[<-Gz]
 rw[uF]at Xo Xp;obtain⟨tG,hlE⟩:=Xo.kill L;have qu:cM (cM objs' L (.lp ts ps' Cw Cy .exhausted iK)) L .dead=cM objs' L .dead:=Gl _ _ _ _;simp only[qu]at tG;have hl5:=(GC.trans Xp).trans hlE;have Xq:((w.alloc (.deferred (some []))).alloc (.loop rec)).heap[w.heap.size]? =some (.deferred (some [])):=(Below.heap_alloc _ _ _ (by simp)).trans (hal w _);have hnO:¬ Ow X (dj ρ L (.loop (w.heap.size+1))) w.heap.size:=GG.VH Xq hr.size;have Cr:(w3.putObj (w.heap.size+1) (.loop { r1 with state:=.exhausted })).heap[w.heap.size]? =some (.deferred (some [])):=by
  rw[aX (by omega)];exact(hl.same _ (by simp;omega) hnO).trans Xq
 have hrF:Rel w0 X ⟨st.tmps,cM objs' L .dead⟩ { a with defers:=[mb w.heap.size]++a.defers } (w3.putObj (w.heap.size+1) (.loop { r1 with state:=.exhausted })) (dj ρ' L .dead):=by
  refine⟨tG.len,tG.tmp,tG.obj,tG.dJ,tG.kept,tG.new,tG.fu,?_⟩;obtain⟨Ds,d1,d2,d3⟩:=tG.jM;obtain⟨Xr,f1,f2,f3⟩:=hr.jM;have MP:Ds=Xr:=by
   have:bc mb Ds=bc mb Xr:=by rw[<-d1,<- f1]
   refine(bh ?_).1 this;intro x y hxy;simpa[mb]using hxy
  subst MP;refine⟨w.heap.size::Ds,by rw[d1];rfl,bl.2 ⟨λhm=>?_,d2⟩,λD hm=>?_⟩
  .have:=(ae.1 (f3 _ hm).1).1;omega
  rcases aZ.1 hm with rfl|hm
  .exact⟨Cr,hr.size⟩
  exact d3 D hm
 have GH:∀ e0,Q e0 ⟨st.tmps,cM objs' L .dead⟩->uP w0 X B a w ρ Q e0.of { a with defers:=[mb w.heap.size]++a.defers } (w3.putObj (w.heap.size+1) (.loop { r1 with state:=.exhausted })):=λe0 hq=>
  ⟨e0,_,_,[w.heap.size],rfl,hq,hrF,hl5.r6,rfl,by simp⟩
 simp only[Gz]at GH⊢;unfold GD at hend;split at hend
 .exact GH .normal hend
 .exact wpIn_ret (GH .ret hend)
 .exact wpIn_exit (GH (.exit _) hend)
 exact hend.elim
end
end Go.Sy
namespace Go.Sy
open Go.RowKit
variable [fI]
def mJ:Nat->A->A
 |0,a=>a
 |d+1,a=>match a with
  | .kb b=>.bool b
  | .agg l=>.agg (eP (mJ d) l)
  | .cG l=>.cG (eP (mJ d) l)
  |a=>a
theorem Cz{w:au}{O:Nat->Prop}{ρ:Nat->Loc}:∀ (d:Nat),(∀(x:A) (v:av),R w O x ρ v->R w O (mJ d x) ρ v)/\(∀(xs:List A) (vs:List av),RL w O xs ρ vs->RL w O (eP (mJ d) xs) ρ vs)
 |0=>⟨λx v h=>h,λxs=>by
   induction xs with
   |nil=>intro vs h;simpa only[eP,RL]using h
   |cons x xs ih=>
    intro vs h;simp only[RL]at h;obtain⟨v,vs',rfl,h1,h2⟩:=h;simp only[eP,RL];exact⟨v,vs',rfl,h1,ih vs' h2⟩⟩
 |d+1=>by
  obtain⟨_,ih2⟩:=Cz (w:=w) (O:=O) (ρ:=ρ) d;have H:∀ (x:A) (v:av),R w O x ρ v->R w O (mJ (d+1) x) ρ v:=by
   intro x v h;cases x with
   |kb b=>simpa only[mJ,R]using h
   |agg l=>
    simp only[mJ,R]at h⊢;obtain⟨vs,rfl,h⟩:=h;exact⟨vs,rfl,ih2 l vs h⟩
   |cG l=>
    simp only[mJ,R]at h⊢;obtain⟨vs,rfl,h⟩:=h;exact⟨vs,rfl,ih2 l vs h⟩
   |_=>exact h
  refine⟨H,λxs=>?_⟩
  induction xs with
  |nil=>intro vs h;simpa only[eP,RL]using h
  |cons x xs ih=>
   intro vs h;simp only[RL]at h;obtain⟨v,vs',rfl,h1,h2⟩:=h;simp only[eP,RL];exact⟨v,vs',rfl,H x v h1,ih vs' h2⟩
def M7:Ob->Prop
 | .row _ c n el=>∀ i,i<n-> ∀j,j<c->flat 3 (el i j)=true
 |_=>False
theorem M8{w':au}{O O':Nat->Prop}{ρ:Nat->Loc}{id:Nat}(hO:∀ b,O' b->O b):∀ (n:Nat),
  (∀(x:A) (v:av),R w' O x ρ v->R w' O' (eU id 0 n x) (dj b7 0 (ρ id)) v)/\(∀(xs:List A) (vs:List av),RL w' O xs ρ vs->RL w' O' (eP (eU id 0 n) xs) (dj b7 0 (ρ id)) vs)
 |0=>⟨λx v _=>by simp[eU,R],λxs=>by
   induction xs with
   |nil=>intro vs h;simpa only[eP,RL]using h
   |cons x xs ih=>
    intro vs h;simp only[RL]at h;obtain⟨v,vs',rfl,_,h2⟩:=h;simp only[eP,RL];exact⟨v,vs',rfl,by simp[eU,R],ih vs' h2⟩⟩
 |n+1=>by
  obtain⟨_,ih2⟩:=M8 (w':=w') (ρ:=ρ) (id:=id) hO n;have hL:dz w' w' O O' b7 b7:=⟨bB _,λ_ _ _=>rfl,λb _ h=>hO b h,λ_=>.inl rfl⟩;have H:∀ (x:A) (v:av),R w' O x ρ v->R w' O' (eU id 0 (n+1) x) (dj b7 0 (ρ id)) v:=by
   intro x v h;cases x with
   |own j=>
    simp only[eU];split
    .rename_i hj;subst hj;simp only[R,dM]at h⊢;exact h
    simp only[R]
   |ptr i off=>simp only[eU,R]
   |rp i c q off=>simp only[eU,R]
   |dA j=>
    simp only[eU];split
    .rename_i hj;subst hj;simp only[R,dM]at h⊢;exact h
    simp only[R]
   |ov i c lo n=>simp only[eU,R]
   |ap i j=>simp only[eU,R]
   |bm f i j=>simp only[eU,R]
   |fn f xs=>
    simp only[eU,R]at h⊢;obtain⟨vs,rfl,h⟩:=h;exact⟨vs,rfl,ih2 xs vs h⟩
   |agg xs=>
    simp only[eU,R]at h⊢;obtain⟨vs,rfl,h⟩:=h;exact⟨vs,rfl,ih2 xs vs h⟩
   |bv f xs=>
    simp only[eU,R]at h⊢;obtain⟨vs,rfl,h⟩:=h;exact⟨vs,rfl,ih2 xs vs h⟩
   |cG xs=>
    simp only[eU,R]at h⊢;obtain⟨vs,rfl,h⟩:=h;exact⟨vs,rfl,ih2 xs vs h⟩
   |dU=>simp only[eU,R]
   |sl c m el=>
    have h1:R w' O (.sl c m el) b7 v:=by simpa only[R]using h
    have:=aS _ b7 b7 v hL h1;simpa only[eU,R]using this
   |ip c el=>
    have h1:R w' O (.ip c el) b7 v:=by simpa only[R]using h
    have:=aS _ b7 b7 v hL h1;simpa only[eU,R]using this
   |im t ag m hh el=>
    have h1:R w' O (.im t ag m hh el) b7 v:=by simpa only[R]using h
    have:=aS _ b7 b7 v hL h1;simpa only[eU,R]using this
   |_=>first|(simp only[eU,R];done)|simpa only[eU,R]using h
  refine⟨H,λxs=>?_⟩
  induction xs with
  |nil=>intro vs h;simpa only[eP,RL]using h
  |cons x xs ih=>
   intro vs h;simp only[RL]at h;obtain⟨v,vs',rfl,h1,h2⟩:=h;simp only[eP,RL];exact⟨v,vs',rfl,H x v h1,ih vs' h2⟩
def bY(a b:A):Prop:=∀ (w:au) (O:Nat->Prop) (ρ:Nat->Loc) (v:av),R w O a ρ v->R w O b ρ v
def db(a b:List A):Prop:=∀ (w:au) (O:Nat->Prop) (ρ:Nat->Loc) (v:List av),RL w O a ρ v->RL w O b ρ v
theorem bY.refl(a:A):bY a a:=λ_ _ _ _ h=>h
theorem bY.of{a b:A}(h:a=b):bY a b:=by rw[h];exact bY.refl b
theorem bY.trans{a b c:A}(h:bY a b)(h':bY b c):bY a c:=λw O ρ v hr=>h' w O ρ v (h w O ρ v hr)
theorem bY.dU(a:A):bY a .dU:=λ_ _ _ _ _=>by simp only[R]
theorem bY.nil(c:Nat)(el:Nat->Nat->A):bY .bN (.sl c 0 el):=λw O ρ v h=>by
 simp only[R]at h⊢;exact⟨none,0,h,bB _,Nat.zero_le _,λh=>by simp at h⟩
theorem bY.CB{c n:Nat}{el:Nat->Nat->A}(hn:n=0):bY .bN (.sl c n el):=by subst hn;exact bY.nil c el
theorem bY.sl{c n n':Nat}{el el':Nat->Nat->A}(hn:n=n')(h:∀ i,i<n-> ∀j,j<c->el i j=el' i j):bY (.sl c n el) (.sl c n' el'):=λw O ρ v hr=>by
 subst hn;simp only[R]at hr⊢;obtain⟨a,cap,rfl,h1,h2,h3⟩:=hr;refine⟨a,cap,rfl,h1,h2,λhp=>?_⟩;obtain⟨ad,rfl,hi,hc⟩:=h3 hp;refine⟨ad,rfl,hi,λi hin j hj=>?_⟩;rw[<-h i hin j hj];exact hc i hin j hj
theorem db.nil:db [] []:=λ_ _ _ _ h=>h
theorem db.cons{a b:A}{l m:List A}(h:bY a b)(h':db l m):db (a::l) (b::m):=λw O ρ v hr=>by
 simp only[RL]at hr⊢;obtain⟨v,vs,rfl,h1,h2⟩:=hr;exact⟨v,vs,rfl,h _ _ _ _ h1,h' _ _ _ _ h2⟩
theorem db.refl(l:List A):db l l:=λ_ _ _ _ h=>h
theorem bY.agg{l m:List A}(h:db l m):bY (.agg l) (.agg m):=λw O ρ v hr=>by
 simp only[R]at hr⊢;obtain⟨vs,rfl,h1⟩:=hr;exact⟨vs,rfl,h _ _ _ _ h1⟩
theorem bY.cG{l m:List A}(h:db l m):bY (.cG l) (.cG m):=λw O ρ v hr=>by
 simp only[R]at hr⊢;obtain⟨vs,rfl,h1⟩:=hr;exact⟨vs,rfl,h _ _ _ _ h1⟩
theorem bY.M9{a b c d:A}(h:bY a c)(h':bY b d):bY (.cG [a,b]) (.cG [c,d]):=bY.cG (.cons h (.cons h' .nil))
def Na(a b:Ob):Prop:=match a,b with
 | .row e c n el,.row e' c' n' el'=>e=e'/\c=c'/\n=n'/\ ∀i,i<n-> ∀j,j<c->el i j=el' i j
 |_,_=>False
def CC(r:A×Option Ob)(x:A)(bR:List Ob):Prop:=
 match r.2 with
 |none=>∃ a,eX bR 6 x=some a/\bY (mJ 6 a) r.1
 |some ob=>(∃id,Na (bZ bR id) ob/\bY (mJ 6 (eU id 0 6 x)) r.1/\M7 ob)\/(x= .bN/\r.1= .own 0/\ ∃e c el,ob= .row e c 0 el)\/
   ∃id t ag n u h v,bZ bR id= .mp t ag n true u h v/\ob= .mp t ag n true u h v/\bY (mJ 6 (eU id 0 6 x)) r.1/\ ∀q a,eu h v u q=some a->flat 5 a=true
theorem Xs{E:Env}{f:aB}{fn:aJ}{c:az}{args:List A}{r:A×Option Ob}(hent:jw E.P f=true)(hf:E.P.funcs[f]? =some fn)(hb:fn.body=some c)
  (h:W E 0 false c (jZ fn.ntmps args []) λe s=>e.out/\ ∃l,jr E.P s fn.results.toList=some l/\CC r (kk l) s.bR):cJ E.P f args r:=by
 refine⟨hent,λw X vs hX hargs=>?_⟩;have hno:∀ b,¬ owned b7 b:=by rintro b ⟨id,cn⟩;cases cn
 have hp:Hp w X [] w b7:=⟨λid=>rfl,(λi j b hi=>by cases hi),fP.refl _ _,λb hb=>(hno b hb).elim,hX⟩;have Nb:RL w (Ow X b7) args b7 vs:=aU _ b7 b7 _ ⟨bB _,λ_ _ _=>rfl,λb _ ho=>by
  rcases ho with ho|ho
  .exact ho
  exact(hno b ho).elim,λ_=>.inl rfl⟩ hargs
 refine(wQ (Q:=CC r) hp Nb hf hb (λ_ _=>rfl) h).mono ?_;rintro e w' ⟨v,x,objs',ρ',rfl,hout,gR,hp',hl⟩;unfold CC at hout;cases jO:r.2 with
 |none=>
  rw[jO]at hout;simp only at hout;obtain⟨xa,hout,aoE⟩:=hout;refine⟨v,.de,rfl,hp'.kept,?_,rfl,λb hb=>by cases hb⟩;refine aoE _ _ _ _ ?_;refine(Cz 6).1 _ _ ?_;have h0:dj b7 0 Loc.de=b7:=by funext i;simp[dj,b7]
  rw[h0];refine(Gf (O':=λb=>X b\/(Loc.de).has b) (λid=>.inr (hp'.obj id)) (λb _ ho=>?_) (λid b _ hb=>?_) 6).1 _ _ _ gR hout
  .rcases ho with ho|ho
   .exact .inl ho
   cases ho
  have:=hp'.new b ⟨id,hb⟩;refine⟨this.2,?_⟩;rintro(ho|ho)
  .have:=hX b ho;omega
  cases ho
 |some ob=>
  rw[jO]at hout;simp only at hout;rcases hout with ⟨id,hle,fD,gx⟩|⟨rfl,fD,e,c,el,rfl⟩|⟨id,t,ag,n,u,hh,vv,hmp,rfl,fD,aoF⟩
  case inr.inr=>
   refine⟨v,ρ' id,rfl,hp'.kept,?_,?_,λb hb=>hp'.new b ⟨id,hb⟩⟩
   .refine fD _ _ _ _ ?_;refine(Cz 6).1 _ _ ?_;refine(M8 (λb ho=>?_) 6).1 _ _ gR;rcases ho with ho|ho
    .exact .inl ho
    exact .inr ⟨id,ho⟩
   have cy:=hp'.obj id;rw[hmp]at cy;obtain⟨b,es,clock,h1,h2,hm,hcl⟩:=cy;refine⟨b,es,clock,h1,h2,⟨hm.1,hm.2.1,λq hq=>?_⟩,hcl⟩;have Nc:=hm.2.2 q hq;split at Nc
   .rename_i a ha;obtain⟨e,h3,h4,h5⟩:=Nc;exact⟨e,h3,h4,(aT b7 5).1 _ _ (hcl rfl q a hq ha) ((tr 5).1 _ _ (aoF q a ha) h5)⟩
   exact Nc
  case inr.inl=>
   simp only[R]at gR;subst gR;refine⟨_,.row (.slice none 0 0),rfl,hp'.kept,?_,⟨_,[],rfl,⟨by simp,.inl ⟨rfl,_,rfl⟩⟩,by simp,λi hi=>by omega⟩,λb hb=>by cases hb⟩;rw[fD];simp only[R,dM];exact⟨bP,_,_,_,rfl⟩
  refine⟨v,ρ' id,rfl,hp'.kept,?_,?_,λb hb=>hp'.new b ⟨id,hb⟩⟩
  .refine fD _ _ _ _ ?_;refine(Cz 6).1 _ _ ?_;refine(M8 (λb ho=>?_) 6).1 _ _ gR;rcases ho with ho|ho
   .exact .inl ho
   exact .inr ⟨id,ho⟩
  have cy:=hp'.obj id
  revert hle cy
  cases bZ objs' id with
  |row e c n el=>
   cases ob with
   |row e' c' n' el'=>
    rintro⟨rfl,rfl,rfl,aoG⟩ cy;obtain⟨rv,xs,hρ,hown,hxs,hel⟩:=cy;refine⟨rv,xs,hρ,hown,hxs,λi hi j hj=>?_⟩;obtain⟨u,hu,ij⟩:=hel i hi j hj;rw[aoG i hi j hj]at ij;exact⟨u,hu,(tr 3).1 _ _ (gx i hi j hj) ij⟩
   |_=>intro hle;exact hle.elim
  |_=>intro hle;exact hle.elim
end Go.Sy
namespace Go.Sy
open Go.RowKit
variable [fI]
theorem eo.refl(B:Nat)(st:St):eo B st st:=λ_ _ _ _ ρ h=>⟨ρ,h,ju.refl _ _ _ _⟩
theorem eo.trans{B:Nat}{a b c:St}(h:eo B a b)(h':eo B b c):eo B a c:=λw0 X x w ρ hr=>by
 obtain⟨ρ1,h1,l1⟩:=h w0 X x w ρ hr;obtain⟨ρ2,h2,l2⟩:=h' w0 X x w ρ1 h1;exact⟨ρ2,h2,l1.trans l2⟩
def zc:List (Nat×A)->Nat->A
 |[],_=>.dU
 |(j,a)::l,i=>if i=j then a else zc l i
def uQ(ts:List (Nat×A))(i:Nat):Nat->List A
 |0=>[]
 |n+1=>zc ts i::uQ ts (i+1) n
def oK:Nat->List Ob->List Ob
 |0,_=>[]
 |_+1,[]=>[]
 |n+1,a::l=>a::oK n l
def ra:List Ob->List (Nat×Ob)->List Ob
 |l,[]=>l
 |l,(i,o)::os=>cM (ra l os) i o
def hd(B:Nat)(ik:List Ob)(n:Nat)(ts:List (Nat×A))(os:List (Nat×Ob)):St:=⟨uQ ts 0 n,ra (oK B ik) os⟩
def qR:List (Nat×Nat)->Nat->Nat
 |[],i=>i
 |(j,k)::l,i=>if i=j then k else qR l i
def jb(σ:Nat->Nat):A->A->Prop
 | .own j,b=>b= .own (σ j)
 | .ptr j o,b=>b= .ptr (σ j) o
 | .rp j c i o,b=>b= .rp (σ j) c i o
 | .ov j c lo n,b=>b= .ov (σ j) c lo n
 | .ap j i,b=>b= .ap (σ j) i
 | .bm f j i,b=>b= .bm f (σ j) i
 | .rv j n,b=>b= .rv (σ j) n
 | .dA j,b=>b= .dA (σ j)
 | .dU,_=>True
 | .bool x,b=>b= .bool x\/b= .kb x
 |a,b=>b=a
def qx(σ:Nat->Nat):List A->List A->Prop
 |[],b=>b=[]
 |a::l,b=>∃ x m,b=x::m/\jb σ a x/\qx σ l m
def wV(σ:Nat->Nat):Ob->Ob->Prop
 | .box cs,b=>∃ cs',b= .box cs'/\qx σ cs cs'
 | .row e c n el,b=>∃ el',b= .row e c n el'/\ ∀i,i<n-> ∀j,j<c->el' i j=el i j
 | .lp ts ps gQ gL gZ iK,b=>b= .lp ts ps gQ gL gZ iK
 | .it t ag n h v s,b=>b= .it t ag n h v s
 | .mp t ag n cl u h v,b=>∃ u' h' v',b= .mp t ag n true u' h' v'/\cl=true/\ ∀q,q.length=n->eu h' v' u' q=eu h v u q
 | .rr te e c n len el h,b=>∃ len' el' h',b= .rr te e c n len' el' h'/\(∀i,i<n->len' i=len i/\ ∀q,q<len i-> ∀j,j<c->el' i q j=el i q j)/\(match h,h' with|none,none=>True|some (i,a),some (i',a')=>i'=i/\yG a=true/\jb σ a a'|_,_=>False)
 | .dead,b=>b= .dead
 |_,_=>False
def refs(top good:Nat->Bool):Nat->A->Bool
 |0,_=>false
 |d+1,a=>match a with
  | .own j=>top j
  | .ptr j _=>top j
  | .rp j _ _ _=>top j
  | .dA j=>top j
  | .ov j _ _ _=>top j
  | .ap j _=>top j
  | .bm _ j _=>top j
  | .rv j _=>top j
  | .fn _ l=>gC (refs good good d) l
  | .agg l=>gC (refs good good d) l
  | .bv _ l=>gC (refs good good d) l
  | .cG l=>gC (refs good good d) l
  |_=>true
def CD(top good:Nat->Bool):Ob->Bool
 | .box cs=>gC (refs top good 5) cs
 | .lp ts _ _ _ _ _=>gC (refs good good 5) ts
 | .mp _ _ _ cl _ _ _=>cl
 | .rr _ _ _ _ _ _ (some (_,a))=>refs top good 5 a
 |_=>true
def CE(σ:Nat->Nat)(CF:List A):List (Nat×A)->Prop
 |[]=>True
 |(i,a)::l=>jb σ a (bT CF i)/\CE σ CF l
def CG(σ:Nat->Nat)(bR:List Ob):List (Nat×Ob)->Prop
 |[]=>True
 |(i,a)::l=>wV σ a (bZ bR (σ i))/\CG σ bR l
def uR(keys:List Nat)(bR:List Ob):Nat->Nat->List Ob->Prop
 |0,_,_=>True
 |B+1,i,[]=>(keys.contains i=true\/bZ bR i= .de)/\uR keys bR B (i+1) []
 |B+1,i,o::l=>(keys.contains i=true\/bZ bR i=o)/\uR keys bR B (i+1) l
def iD:List (Nat×Ob)->List Nat
 |[]=>[]
 |(i,_)::l=>i::iD l
def nodupB:List Nat->Bool
 |[]=>true
 |a::l=>!l.contains a&&nodupB l
def GI(f:A->Bool):List (Nat×A)->Bool
 |[]=>true
 |(_,a)::l=>f a&&GI f l
def GJ(f:Ob->Bool):List (Nat×Ob)->Bool
 |[]=>true
 |(_,a)::l=>f a&&GJ f l
def zd(σ:Nat->Nat):List Nat->List Nat
 |[]=>[]
 |a::l=>σ a::zd σ l
def GK(f:Nat->Bool):List Nat->Bool
 |[]=>true
 |a::l=>f a&&GK f l
def preB(keys:List Nat)(good:Nat->Bool):Nat->Nat->List Ob->Bool
 |0,_,_=>true
 |_+1,_,[]=>true
 |B+1,i,o::l=>(keys.contains i||CD good good o)&&preB keys good B (i+1) l
def CH(B:Nat)(keys:List Nat)(σ:Nat->Nat)(j:Nat):Bool:=(keys.contains j&&σ j==j)||(!keys.contains j&&decide (j<B))
def GL(B:Nat)(keys:List Nat)(σ:Nat->Nat)(j:Nat):Bool:=keys.contains j||(decide (j<B)&&σ j==j)
def GM(B:Nat)(ik:List Ob)(σ:Nat->Nat)(ts:List (Nat×A))(os:List (Nat×Ob)):Bool:=
 GI (refs (GL B (iD os) σ) (CH B (iD os) σ) 5) ts&&GJ (CD (GL B (iD os) σ) (CH B (iD os) σ)) os&&nodupB (iD os)&&nodupB (zd σ (iD os))&&
  GK (λj=>(!decide (j<B)||σ j==j)&&(!decide (σ j<B)||(iD os).contains (σ j))) (iD os)&&preB (iD os) (CH B (iD os) σ) B 0 ik
theorem Xt(ts:List (Nat×A)):∀ (n i j:Nat),bT (uQ ts i n) j=if j<n then zc ts (i+j)else .dU
 |0,i,j=>by simp[uQ,bT]
 |n+1,i,0=>by simp[uQ,bT]
 |n+1,i,j+1=>by simp[uQ,bT,Xt ts n (i+1) j,bE,bG 1 j]
theorem Xu(ts:List (Nat×A)):∀ (n i:Nat),(uQ ts i n).length=n
 |0,i=>rfl
 |n+1,i=>by simp[uQ,Xu ts n]
theorem Xv:∀ (B:Nat) (l:List Ob) (i:Nat),bZ (oK B l) i=if i<B then bZ l i else .de
 |0,l,i=>by simp[oK,bZ]
 |B+1,[],i=>by simp[oK,bZ]
 |B+1,a::l,0=>by simp[oK,bZ]
 |B+1,a::l,i+1=>by simp[oK,bZ,Xv B l i]
theorem Xw(l:List Ob):∀ (os:List (Nat×Ob)) (i:Nat),(i∉iD os/\bZ (ra l os) i=bZ l i)\/(i∈iD os/\(i,bZ (ra l os) i)∈os)
 |[],i=>.inl ⟨by simp[iD],rfl⟩
 |(j,o)::os,i=>by
  simp only[ra,iD,ef];by_cases hij:i=j
  .subst hij;rw[bS rfl];exact .inr ⟨a6,a6⟩
  rw[bQ hij];rcases Xw l os i with ⟨h1,h2⟩|⟨h1,h2⟩
  .exact .inl ⟨by simp[hij,h1],h2⟩
  exact .inr ⟨a7 _ h1,a7 _ h2⟩
theorem aoH{ts:List (Nat×A)}{i:Nat}:zc ts i= .dU\/(i,zc ts i)∈ts:=by
 induction ts with
 |nil=>exact .inl rfl
 |cons p l ih=>
  obtain⟨j,a⟩:=p;simp only[zc];split
  .rename_i h;subst h;exact .inr a6
  rcases ih with h|h
  .exact .inl h
  exact .inr (a7 _ h)
theorem Xx{σ:Nat->Nat}{CF:List A}:∀ {l:List (Nat×A)} {i:Nat} {a:A},CE σ CF l->(i,a)∈l->jb σ a (bT CF i)
 |(j,b)::l,i,a,h,hm=>by
  rcases aZ.1 hm with e|hm
  .cases e;exact h.1
  exact Xx h.2 hm
theorem Xy{σ:Nat->Nat}{bR:List Ob}:∀ {l:List (Nat×Ob)} {i:Nat} {a:Ob},CG σ bR l->(i,a)∈l->wV σ a (bZ bR (σ i))
 |(j,b)::l,i,a,h,hm=>by
  rcases aZ.1 hm with e|hm
  .cases e;exact h.1
  exact Xy h.2 hm
theorem Xz{f:A->Bool}:∀ {l:List (Nat×A)} {i:Nat} {a:A},GI f l=true->(i,a)∈l->f a=true
 |(j,b)::l,i,a,h,hm=>by
  simp only[GI,al]at h;rcases aZ.1 hm with e|hm
  .cases e;exact h.1
  exact Xz h.2 hm
theorem XB{f:Ob->Bool}:∀ {l:List (Nat×Ob)} {i:Nat} {a:Ob},GJ f l=true->(i,a)∈l->f a=true
 |(j,b)::l,i,a,h,hm=>by
  simp only[GJ,al]at h;rcases aZ.1 hm with e|hm
  .cases e;exact h.1
  exact XB h.2 hm
theorem XC{f:Nat->Bool}:∀ {l:List Nat} {i:Nat},GK f l=true->i∈l->f i=true
 |j::l,i,h,hm=>by
  simp only[GK,al]at h;rcases aZ.1 hm with e|hm
  .cases e;exact h.1
  exact XC h.2 hm
theorem XD{σ:Nat->Nat}:∀ {l:List Nat} {i j:Nat},nodupB (zd σ l)=true->i∈l->j∈l->σ i=σ j->i=j
 |a::l,i,j,h,hi,hj,he=>by
  simp only[zd,nodupB,al,ar]at h;have hm:∀ {m:List Nat} {x:Nat},x∈m->σ x∈zd σ m:=by
   intro m
   induction m with
   |nil=>intro x hx;cases hx
   |cons y m ih=>
    intro x hx;rcases aZ.1 hx with rfl|hx
    .exact a6
    exact a7 _ (ih hx)
  have hn:σ a∉zd σ l:=by simpa using h.1
  rcases aZ.1 hi with e1|h1<;>rcases aZ.1 hj with e2|h2
  .rw[e1,e2]
  .have:=hm h2;rw[<-he,e1]at this;exact(hn this).elim
  .have:=hm h1;rw[he,e2]at this;exact(hn this).elim
  exact XD h.2 h1 h2 he
theorem Nf{keys:List Nat}{bR:List Ob}:∀ (B i:Nat) (l:List Ob),uR keys bR B i l-> ∀k,k<B->keys.contains (i+k)=true\/bZ bR (i+k)=bZ l k
 |0,_,_,_,k,hk=>by omega
 |B+1,i,[],h,k,hk=>by
  cases k with
  |zero=>exact h.1
  |succ k=>
   have:=Nf B (i+1) [] h.2 k (by omega);simpa[bZ,bE,bG 1 k]using this
 |B+1,i,o::l,h,k,hk=>by
  cases k with
  |zero=>exact h.1
  |succ k=>
   have:=Nf B (i+1) l h.2 k (by omega);simpa[bZ,bE,bG 1 k]using this
theorem XE{keys:List Nat}{good:Nat->Bool}:∀ (B i:Nat) (l:List Ob),preB keys good B i l=true-> ∀k,k<B->keys.contains (i+k)=true\/CD good good (bZ l k)=true
 |0,_,_,_,k,hk=>by omega
 |B+1,i,[],h,k,hk=>.inr rfl
 |B+1,i,o::l,h,k,hk=>by
  simp only[preB,al,aq]at h;cases k with
  |zero=>exact h.1
  |succ k=>
   have:=XE B (i+1) l h.2 k (by omega);simpa[bZ,bE,bG 1 k]using this
section
variable {w:au} {O O':Nat->Prop} {ρ ρ':Nat->Loc} {top good:Nat->Bool} {σ:Nat->Nat}
theorem pV(hL:dz w w O O' b7 b7)(hρ:∀ j,good j=true->ρ' j=ρ j):∀ (d:Nat),
  (∀(a:A) (v:av),refs good good d a=true->R w O a ρ v->R w O' a ρ' v)/\(∀(l:List A) (vs:List av),gC (refs good good d) l=true->RL w O l ρ vs->RL w O' l ρ' vs)
 |0=>⟨λa v h=>by simp[refs]at h,λl vs h hr=>by
   cases l with
   |nil=>simpa only[RL]using hr
   |cons a l=>simp[gC,refs]at h⟩
 |d+1=>by
  obtain⟨_,ih2⟩:=pV hL hρ d;have H:∀ (a:A) (v:av),refs good good (d+1) a=true->R w O a ρ v->R w O' a ρ' v:=by
   intro a v hc hr;cases a with
   |own j=>simp only[refs]at hc;simp only[R,hρ j hc]at hr ⊢;exact hr
   |ptr j o=>simp only[refs]at hc;simp only[R,hρ j hc]at hr ⊢;exact hr
   |rp j c i o=>simp only[refs]at hc;simp only[R,hρ j hc]at hr ⊢;exact hr
   |dA j=>simp only[refs]at hc;simp only[R,hρ j hc]at hr ⊢;exact hr
   |ov j c lo n=>simp only[refs]at hc;simp only[R,hρ j hc]at hr ⊢;exact hr
   |ap j i=>simp only[refs]at hc;simp only[R,hρ j hc]at hr ⊢;exact hr
   |bm f j i=>simp only[refs]at hc;simp only[R,hρ j hc]at hr ⊢;exact hr
   |rv j n=>simp only[refs]at hc;simp only[R,hρ j hc]at hr ⊢;exact hr
   |fn f l=>
    simp only[R]at hr⊢;obtain⟨vs,rfl,h⟩:=hr;exact⟨vs,rfl,ih2 l vs hc h⟩
   |agg l=>
    simp only[R]at hr⊢;obtain⟨vs,rfl,h⟩:=hr;exact⟨vs,rfl,ih2 l vs hc h⟩
   |bv f l=>
    simp only[R]at hr⊢;obtain⟨vs,rfl,h⟩:=hr;exact⟨vs,rfl,ih2 l vs hc h⟩
   |cG l=>
    simp only[R]at hr⊢;obtain⟨vs,rfl,h⟩:=hr;exact⟨vs,rfl,ih2 l vs hc h⟩
   |dU=>simp only[R]
   |sl c m el=>
    have h1:R w O (.sl c m el) b7 v:=by simpa only[R]using hr
    have:=aS _ b7 b7 v hL h1;simpa only[R]using this
   |ip c el=>
    have h1:R w O (.ip c el) b7 v:=by simpa only[R]using hr
    have:=aS _ b7 b7 v hL h1;simpa only[R]using this
   |im t ag m hh el=>
    have h1:R w O (.im t ag m hh el) b7 v:=by simpa only[R]using hr
    have:=aS _ b7 b7 v hL h1;simpa only[R]using this
   |_=>simpa only[R]using hr
  refine⟨H,λl=>?_⟩
  induction l with
  |nil=>intro vs _ h;simpa only[RL]using h
  |cons a l ih=>
   intro vs hc h;simp only[gC,al]at hc;simp only[RL]at h⊢;obtain⟨v,vs',rfl,h1,h2⟩:=h;exact⟨v,vs',rfl,H a v hc.1 h1,ih vs' hc.2 h2⟩
theorem Ng(hL:dz w w O O' b7 b7)(hρ:∀ j,top j=true->ρ' j=ρ (σ j))(hg:∀ j,good j=true->ρ' j=ρ j){a b:A}{v:av}(hk:refs top good 5 a=true)(hab:jb σ a b)(hr:R w O b ρ v):R w O' a ρ' v:=by
 cases a with
 |own j=>simp only[jb]at hab;subst hab;simp only[refs]at hk;simp only[R,hρ j hk]at hr ⊢;exact hr
 |ptr j o=>simp only[jb]at hab;subst hab;simp only[refs]at hk;simp only[R,hρ j hk]at hr ⊢;exact hr
 |rp j c i o=>simp only[jb]at hab;subst hab;simp only[refs]at hk;simp only[R,hρ j hk]at hr ⊢;exact hr
 |dA j=>simp only[jb]at hab;subst hab;simp only[refs]at hk;simp only[R,hρ j hk]at hr ⊢;exact hr
 |ov j c lo n=>simp only[jb]at hab;subst hab;simp only[refs]at hk;simp only[R,hρ j hk]at hr ⊢;exact hr
 |ap j i=>simp only[jb]at hab;subst hab;simp only[refs]at hk;simp only[R,hρ j hk]at hr ⊢;exact hr
 |bm f j i=>simp only[jb]at hab;subst hab;simp only[refs]at hk;simp only[R,hρ j hk]at hr ⊢;exact hr
 |rv j n=>simp only[jb]at hab;subst hab;simp only[refs]at hk;simp only[R,hρ j hk]at hr ⊢;exact hr
 |dU=>simp only[R]
 |bool x=>
  simp only[jb]at hab;rcases hab with rfl|rfl<;>simpa only[R]using hr
 |fn f l=>simp only[jb]at hab;subst hab;exact(pV hL hg 5).1 _ _ (by simpa only[refs]using hk) hr
 |agg l=>simp only[jb]at hab;subst hab;exact(pV hL hg 5).1 _ _ (by simpa only[refs]using hk) hr
 |bv f l=>simp only[jb]at hab;subst hab;exact(pV hL hg 5).1 _ _ (by simpa only[refs]using hk) hr
 |cG l=>simp only[jb]at hab;subst hab;exact(pV hL hg 5).1 _ _ (by simpa only[refs]using hk) hr
 |sl c m el=>simp only[jb]at hab;subst hab;exact(pV hL hg 5).1 _ _ (by rfl) hr
 |ip c el=>simp only[jb]at hab;subst hab;exact(pV hL hg 5).1 _ _ (by rfl) hr
 |im t ag m hh el=>simp only[jb]at hab;subst hab;exact(pV hL hg 5).1 _ _ (by rfl) hr
 |_=>simp only[jb]at hab;subst hab;simpa only[R]using hr
theorem XF(hL:dz w w O O' b7 b7)(hρ:∀ j,top j=true->ρ' j=ρ (σ j))(hg:∀ j,good j=true->ρ' j=ρ j):∀ {l m:List A} {vs:List av},gC (refs top good 5) l=true->qx σ l m->RL w O m ρ vs->RL w O' l ρ' vs
 |[],m,vs,_,h,hr=>by simp only[qx]at h;subst h;simpa only[RL]using hr
 |a::l,m,vs,hk,h,hr=>by
  simp only[qx]at h;obtain⟨x,m',rfl,h1,h2⟩:=h;simp only[gC,al]at hk;simp only[RL]at hr⊢;obtain⟨v,vs',rfl,h3,h4⟩:=hr;exact⟨v,vs',rfl,Ng hL hρ hg hk.1 h1 h3,XF hL hρ hg hk.2 h2 h4⟩
theorem ou.Nh{w w':au}{O O':Nat->Prop}{ρ ρ':Nat->Loc}{ag:Bool}{n:Nat}{f g:List Int->Option A}{es:List aI}{ck:Nat}(hcl:∀ q a,q.length=n->f q=some a->closed 5 a=true)(hfg:∀ q,q.length=n->f q=g q)(h:∀ a v,closed 5 a=true->R w O a ρ v->R w' O' a ρ' v)(hm:ou w O ρ ag n f es ck):ou w' O' ρ' ag n g es ck:=by
 refine⟨hm.1,hm.2.1,λq hq=>?_⟩;have:=hm.2.2 q hq;rw[<-hfg q hq];split at this
 .rename_i a ha;obtain⟨e,h1,h2,h3⟩:=this;exact⟨e,h1,h2,h _ _ (hcl q a hq ha) h3⟩
 exact this
theorem GN(hL:dz w w O O' b7 b7){a:A}{v:av}(hc:closed 5 a=true)(h:R w O a ρ v):R w O' a ρ' v:=
 (aT ρ' 5).1 a v hc (aS a b7 b7 v hL ((aT b7 5).1 a v hc h))
theorem rU.same{te e:aD}{c n:Nat}{len:Nat->Nat}{el:Nat->Nat->Nat->A}{hi:Option Nat}{v:av}{us vs:List av}(hL:dz w w O O' b7 b7)(h:rU w O te e c n len el hi v us vs):rU w O' te e c n len el hi v us vs:=by
 obtain⟨h1,h3,h4,h5⟩:=h;refine⟨h1,h3,λi u hu hne=>?_,h5⟩;obtain⟨xs,h6,h7,h8⟩:=h4 i u hu hne;refine⟨xs,h6,h7,λq hq j hj=>?_⟩;obtain⟨x,hx,hr⟩:=h8 q hq j hj;exact⟨x,hx,aS _ b7 b7 x hL hr⟩
theorem rU.alike{te e:aD}{c n:Nat}{len len':Nat->Nat}{el el':Nat->Nat->Nat->A}{hi:Option Nat}{v:av}{us vs:List av}(hle:∀ i,i<n->len' i=len i/\ ∀q,q<len i-> ∀j,j<c->el' i q j=el i q j)(h:rU w O te e c n len' el' hi v us vs):rU w O te e c n len el hi v us vs:=by
 obtain⟨h1,h3,h4,h5⟩:=h;refine⟨h1,h3,λi u hu hne=>?_,h5⟩;have hi':i<n:=by
  have:=(List.getElem?_eq_some_iff.1 hu).1;have h6:=h1.1.1;omega
 obtain⟨e1,e2⟩:=hle i hi';obtain⟨xs,h6,h7,h8⟩:=h4 i u hu hne;rw[e1]at h6;refine⟨xs,h6,h7,λq hq j hj=>?_⟩;obtain⟨x,hx,hr⟩:=h8 q (by omega) j hj;exact⟨x,hx,by rw[<-e2 q hq j hj];exact hr⟩
theorem aoI(hL:dz w w O O' b7 b7)(hg:∀ j,good j=true->ρ' j=ρ j){o:Ob}{l:Loc}(hk:CD good good o=true)(h:fR w O ρ o l):fR w O' ρ' o l:=by
 cases o with
 |de=>exact h
 |dead=>exact h
 |box cs=>
  obtain⟨b,vs,t,h1,h2,h3⟩:=h;exact⟨b,vs,t,h1,h2,(pV hL hg 5).2 _ _ hk h3⟩
 |row e c m el=>
  obtain⟨v,xs,h1,h2,h3,h4⟩:=h;refine⟨v,xs,h1,h2,h3,λi hi j hj=>?_⟩;obtain⟨u,hu,hr⟩:=h4 i hi j hj;exact⟨u,hu,aS _ b7 b7 u hL hr⟩
 |lp ts ps gQ gL gZ iK=>
  obtain⟨b,r,vs,h1,h2,h3,h4,h5⟩:=h;exact⟨b,r,vs,h1,h2,h3,(pV hL hg 5).2 _ _ hk h4,h5⟩
 |mp t ag n cl u hh v=>
  obtain⟨b,es,clock,h1,h2,hm,hcl⟩:=h;simp only[CD]at hk;exact⟨b,es,clock,h1,h2,hm.Nh (hcl hk) (λ_ _=>rfl) λa v hc h=>GN hL hc h,hcl⟩
 |it t ag n hh v seen=>
  obtain⟨b,bm,es,clock,sn,h1,hg,hi,mG,hm,hs⟩:=h;exact⟨b,bm,es,clock,sn,h1,hg,hL.tc hi,mG,hm.mono λa v h=>aS a b7 b7 v hL h,hs⟩
 |rr te e c n len el hole=>
  obtain⟨v,us,vs,h1,hR,hh⟩:=h;refine⟨v,us,vs,h1,hR.same hL,λi a q=>?_⟩;subst q;obtain⟨h2,u,h3,h4⟩:=hh i a rfl;exact⟨h2,u,h3,(pV hL hg 5).1 _ _ hk h4⟩
end
theorem ph{B n:Nat}{st:St}{ik:List Ob}(sg:List (Nat×Nat)){ts:List (Nat×A)}{os:List (Nat×Ob)}(hlen:st.tmps.length=n)(ht:CE (qR sg) st.tmps ts)(ho:CG (qR sg) st.bR os)(hp:uR (iD os) st.bR B 0 ik)(hc:GM B ik (qR sg) ts os=true):
  eo B st (hd B ik n ts os):=by
 generalize qR sg=σ at ht ho hc;intro w0 X a w ρ h;simp only[GM,al]at hc;obtain⟨⟨⟨⟨⟨CI,hco⟩,hnd⟩,aoJ⟩,hkk⟩,hpb⟩:=hc;have CJ:∀ j∈iD os,(j<B->σ j=j)/\(σ j<B->σ j∈iD os):=by
  intro j hj;have:=XC hkk hj;simp only[al,aq,ar,gU,gH,ba,dN]at this;refine⟨λhb=>?_,λhb=>?_⟩
  .rcases this.1 with h|h
   .exact(h hb).elim
   exact h
  rcases this.2 with h|h
  .exact(h hb).elim
  exact h
 let ρ':Nat->Loc:=λid=>if id∈iD os then ρ (σ id)else if id<B then ρ id else .de
 have hρk:∀ j∈iD os,ρ' j=ρ (σ j):=λj hj=>by simp only[ρ'];rw[bS hj]
 have hρb:∀ j,j∉iD os->j<B->ρ' j=ρ j:=λj hj hb=>by simp only[ρ'];rw[bQ hj,bS hb]
 have CL:∀ j,CH B (iD os) σ j=true->ρ' j=ρ j:=by
  intro j hj;simp only[CH,aq,al,ba,dN,gH,ar,gU]at hj;rcases hj with ⟨h1,h2⟩|⟨h1,h2⟩
  .rw[hρk j h1,h2]
  exact hρb j h1 h2
 have Ni:∀ j,GL B (iD os) σ j=true->ρ' j=ρ (σ j):=by
  intro j hj;simp only[GL,aq,al,ba,dN,gH]at hj;by_cases hk:j∈iD os
  .exact hρk j hk
  rcases hj with h1|⟨h1,h2⟩
  .exact(hk h1).elim
  rw[hρb j hk h1,h2]
 have hblk:∀ id b,(ρ' id).has b->(id∈iD os/\(ρ (σ id)).has b)\/(id∉iD os/\id<B/\(ρ id).has b):=by
  intro id b hb;simp only[ρ']at hb;split at hb
  .rename_i hk;exact .inl ⟨hk,hb⟩
  rename_i hk;split at hb
  .rename_i hlt;exact .inr ⟨hk,hlt,hb⟩
  cases hb
 have how:∀ b,owned ρ' b->owned ρ b:=by
  rintro b ⟨id,cn⟩;rcases hblk id b cn with ⟨_,h⟩|⟨_,_,h⟩
  .exact⟨_,h⟩
  exact⟨_,h⟩
 have hO:∀ b,b<w.heap.size->Ow X ρ' b->Ow X ρ b:=λb _ hb=>by
  rcases hb with hb|hb
  .exact .inl hb
  exact .inr (how b hb)
 have hL:dz w w (Ow X ρ) (Ow X ρ') b7 b7:=⟨bB _,λ_ _ _=>rfl,hO,λ_=>.inl rfl⟩;refine⟨ρ',⟨by rw[h.len,hlen];simp[hd,Xu],λi=>?_,λid=>?_,λi j b hi hj=>?_,h.kept,λb hb=>h.new b (how b hb),h.fu,h.jM⟩,⟨bB _,λ_ _ _=>rfl,hO,λid cn=>?_⟩⟩
 .simp only[hd,Xt];split
  .rw[bI];rcases aoH (ts:=ts) (i:=i)with e|hm
   .rw[e];simp only[R]
   exact Ng hL Ni CL (Xz CI hm) (Xx ht hm) (h.tmp i)
  simp only[R]
 .simp only[hd];rcases Xw (oK B ik) os id with ⟨hn,e⟩|⟨hk,hm⟩
  .rw[e,Xv];split
   .rename_i hlt;rw[hρb id hn hlt];have h1:=Nf B 0 ik hp id hlt;have h2:=XE B 0 ik hpb id hlt;simp only[bI,ba,dN]at h1 h2;rcases h1 with h1|h1
    .exact(hn h1).elim
    rcases h2 with h2|h2
    .exact(hn h2).elim
    rw[<-h1]at h2⊢;exact aoI hL CL h2 (h.obj id)
   rename_i hlt;show ρ' id= .de;simp only[ρ'];rw[bQ hn,bQ hlt]
  have nE:=Xy ho hm;have cy:=h.obj (σ id);rw[hρk id hk];generalize hlo:bZ (ra (oK B ik) os) id=ob at nE hm;have hrf:=XB hco hm;cases ob with
  |de=>simp[wV]at nE
  |dead=>
   have nE:bZ st.bR (σ id)= .dead:=nE;rw[nE]at cy;exact cy
  |box cs=>
   obtain⟨cs',hb,hcs⟩:=nE;rw[hb]at cy;obtain⟨b,vs,t,h1,h2,h3⟩:=cy;exact⟨b,vs,t,h1,h2,XF hL Ni CL hrf hcs h3⟩
  |row e c m el=>
   obtain⟨el',hb,hel⟩:=nE;rw[hb]at cy;obtain⟨v,xs,h1,h2,h3,h4⟩:=cy;refine⟨v,xs,h1,h2,h3,λi hi j hj=>?_⟩;obtain⟨u,hu,hr⟩:=h4 i hi j hj;rw[hel i hi j hj]at hr;exact⟨u,hu,aS _ b7 b7 u hL hr⟩
  |lp ts' ps gQ gL gZ iK=>
   simp only[wV]at nE;rw[nE]at cy;obtain⟨b,r,vs,h1,h2,h3,h4,h5⟩:=cy;exact⟨b,r,vs,h1,h2,h3,(pV hL CL 5).2 _ _ hrf h4,h5⟩
  |mp t ag n cl u hh v=>
   obtain⟨u',h',v',hb,rfl,hfg⟩:=nE;rw[hb]at cy;obtain⟨b,es,clock,h1,h2,hm,hcl⟩:=cy;exact⟨b,es,clock,h1,h2,hm.Nh (hcl rfl) hfg λa v hc h=>GN hL hc h,λ_ q a hq ha=>hcl rfl q a hq (by rw[hfg q hq];exact ha)⟩
  |it t ag n hh v seen=>
   simp only[wV]at nE;rw[nE]at cy;obtain⟨b,bm,es,clock,sn,h1,hg,hi,mG,hm,hs⟩:=cy;exact⟨b,bm,es,clock,sn,h1,hg,hL.tc hi,mG,hm.mono λa v h=>aS a b7 b7 v hL h,hs⟩
  |rr te e c n len el hole=>
   obtain⟨len',el',h',hb,hle,CO⟩:=nE;rw[hb]at cy;obtain⟨v,us,vs,h1,hR,hh⟩:=cy;have hhi:uE h'=uE hole:=by
    cases hole with
    |none=>cases h' with
     |none=>rfl
     |some p=>exact CO.elim
    |some p=>cases h' with
     |none=>exact CO.elim
     |some p'=>obtain⟨i,a⟩:=p;obtain⟨i',a'⟩:=p';obtain⟨rfl,_⟩:=CO;rfl
   rw[hhi]at h1 hR;refine⟨v,us,vs,h1,(hR.same hL).alike hle,λi a q=>?_⟩;subst q;cases h' with
   |none=>exact CO.elim
   |some p'=>
    obtain⟨i',a'⟩:=p';obtain⟨rfl,hca,hra⟩:=CO;obtain⟨_,u,h3,h4⟩:=hh i' a' rfl;exact⟨hca,u,h3,Ng hL Ni CL hrf hra h4⟩
 .rcases hblk i b hi with ⟨GO,hi⟩|⟨GO,hli,hi⟩<;>rcases hblk j b hj with ⟨yB,hj⟩|⟨yB,hlj,hj⟩
  .exact XD aoJ GO yB (h.dJ _ _ b hi hj)
  .have:=h.dJ _ _ b hi hj;have h2:=(CJ i GO).2 (by omega);rw[this]at h2;exact(yB h2).elim
  .have:=h.dJ _ _ b hi hj;have h2:=(CJ j yB).2 (by omega);rw[<-this]at h2;exact(GO h2).elim
  exact h.dJ _ _ b hi hj
 by_cases hk:id∈iD os
 .rw[hρk id hk,(CJ id hk).1 cn];exact .inl rfl
 exact .inl (hρb id hk cn)
theorem cB{B n:Nat}{st:St}{ik:List Ob}(sg:List (Nat×Nat)){ts:List (Nat×A)}{os:List (Nat×Ob)}(ht:CE (qR sg) st.tmps ts)(ho:CG (qR sg) st.bR os)(hp:uR (iD os) st.bR B 0 ik:=by exact bP)(hlen:st.tmps.length=n:=by rfl)(hc:GM B ik (qR sg) ts os=true:=by kernel_rfl):eo B st (hd B ik n ts os):=ph sg hlen ht ho hp hc
theorem bV{p:Prop}(h:p:=by refine⟨_,rfl,?_⟩;repeat (first|exact rfl|refine⟨_,_,rfl,rfl,?_⟩)):p:=h
theorem rj{B:Nat}{st:St}(t d:Nat)(e c:Nat)(el:Nat->Nat->A)(ht:bT st.tmps t= .bN)(hd:bZ st.bR d= .de):eo B st ⟨eS st.tmps t (.own d),cM st.bR d (.row e c 0 el)⟩:=by
 intro w0 X a w ρ h;have hv:=h.de hd;have po:=h.tmp t;rw[ht]at po;simp only[R]at po
 let ρ':=dj ρ d (.row (.slice none 0 0))
 have hblk:∀ id b,(ρ' id).has b->(ρ id).has b:=by
  intro id b hb;by_cases cn:id=d
  .subst cn;simp only[ρ',dM]at hb;cases hb
  simp only[ρ',dX _ _ _ cn]at hb;exact hb
 have how:∀ b,owned ρ' b->owned ρ b:=by rintro b ⟨id,cn⟩;exact⟨id,hblk id b cn⟩
 have hL:dz w w (Ow X ρ) (Ow X ρ') ρ ρ':=⟨bB _,λ_ _ _=>rfl,λb _ hb=>by
  rcases hb with hb|hb
  .exact .inl hb
  .exact .inr (how b hb),λid=>by
  by_cases cn:id=d
  .subst cn;exact .inr (.inl hv)
  exact .inl (dX _ _ _ cn)⟩
 refine⟨ρ',⟨by simp[wI,h.len],λi=>?_,λid=>?_,λi j b hi hj=>h.dJ i j b (hblk i b hi) (hblk j b hj),h.kept,λb hb=>h.new b (how b hb),h.fu,h.jM⟩,hL.r6⟩
 .simp only[th];split
  .rename_i hi;obtain⟨rfl,_⟩:=hi;simp only[R,ρ',dM];exact⟨po,_,_,_,po⟩
  exact aS _ ρ ρ' _ hL (h.tmp i)
 simp only[ef];by_cases cn:id=d
 .subst cn;rw[bS rfl];refine⟨.slice none 0 0,[],by simp only[ρ',dM],⟨by simp,.inl ⟨rfl,_,rfl⟩⟩,by simp,λi hi=>by omega⟩
 rw[bQ cn];simp only[ρ'];rw[dX _ _ _ cn];exact(h.obj id).later hL λ_ _=>rfl
theorem ze{w:au}{O:Nat->Prop}{ρ:Nat->Loc}{x:A}:∀ {l:List A} {vs:List av} (i:Nat),RL w O l ρ vs->(∀v,vs[i]? =some v->R w O x ρ v)->RL w O (eS l i x) ρ vs
 |[],vs,i,h,_=>by simpa only[eS]using h
 |a::l,vs,0,h,hx=>by
  simp only[RL]at h;obtain⟨v,vs',rfl,h1,h2⟩:=h;simp only[eS,RL];exact⟨v,vs',rfl,hx v rfl,h2⟩
 |a::l,vs,i+1,h,hx=>by
  simp only[RL]at h;obtain⟨v,vs',rfl,h1,h2⟩:=h;simp only[eS,RL];exact⟨v,vs',rfl,h1,ze i h2 λu hu=>hx u (by simpa using hu)⟩
theorem oM{B:Nat}{st:St}(b i d:Nat)(e c:Nat)(el:Nat->Nat->A){cells:List A}(hb:bZ st.bR b= .box cells)(hi:bT cells i= .bN)(hd:bZ st.bR d= .de):eo B st ⟨st.tmps,cM (cM st.bR b (.box (eS cells i (.own d)))) d (.row e c 0 el)⟩:=by
 intro w0 X a w ρ h;have hv:=h.de hd;have hbd:b≠d:=by rintro rfl;rw[hb]at hd;cases hd
 let ρ':=dj ρ d (.row (.slice none 0 0))
 have hblk:∀ id b,(ρ' id).has b->(ρ id).has b:=by
  intro id b hb;by_cases cn:id=d
  .subst cn;simp only[ρ',dM]at hb;cases hb
  simp only[ρ',dX _ _ _ cn]at hb;exact hb
 have how:∀ b,owned ρ' b->owned ρ b:=by rintro b ⟨id,cn⟩;exact⟨id,hblk id b cn⟩
 have hL:dz w w (Ow X ρ) (Ow X ρ') ρ ρ':=⟨bB _,λ_ _ _=>rfl,λb _ hb=>by
  rcases hb with hb|hb
  .exact .inl hb
  .exact .inr (how b hb),λid=>by
  by_cases cn:id=d
  .subst cn;exact .inr (.inl hv)
  exact .inl (dX _ _ _ cn)⟩
 refine⟨ρ',⟨h.len,λi=>aS _ ρ ρ' _ hL (h.tmp i),λid=>?_,λi j b hi hj=>h.dJ i j b (hblk i b hi) (hblk j b hj),h.kept,λb hb=>h.new b (how b hb),h.fu,h.jM⟩,hL.r6⟩;simp only[ef];by_cases cn:id=d
 .subst cn;rw[bS rfl];refine⟨.slice none 0 0,[],by simp only[ρ',dM],⟨by simp,.inl ⟨rfl,_,rfl⟩⟩,by simp,λi hi=>by omega⟩
 rw[bQ cn];simp only[ρ'];rw[dX _ _ _ cn];by_cases hib:id=b
 .subst hib;rw[bS rfl];have cy:=h.obj id;rw[hb]at cy;obtain⟨bb,vs,t,h1,h2,h3⟩:=cy;refine⟨bb,vs,t,h1,h2,ze i (aU _ _ _ _ hL h3) λv hv'=>?_⟩;have:=h3.get i v hv';rw[hi]at this;simp only[R]at this;subst this;simp only[R,dM];exact⟨bP,_,_,_,rfl⟩
 rw[bQ hib];exact(h.obj id).later hL λ_ _=>rfl
end Go.Sy
namespace Go.Sy
open Go.RowKit
open Go.ChangeMaps (setBlock)
variable [fI]
def qS:Bool->List Int->A
 |true,q=>.agg (q.map (A.int .i64))
 |false,q=>.int .i64 (q.headD 0)
theorem XG{w:au}{O:Nat->Prop}{ρ:Nat->Loc}:∀ (ag:Bool) (q:List Int),R w O (qS ag q) ρ (ep ag q)
 |false,q=>by simp only[qS,ep,R]
 |true,q=>by
  have h:∀ q:List Int,RL w O (q.map (A.int .i64)) ρ (q.map (Value.int .i64)):=λq=>by
   induction q with
   |nil=>simp only[List.map_nil,RL]
   |cons x q ih=>simp only[bx,RL];exact⟨_,_,rfl,by simp only[R],ih⟩
  simp only[qS,ep,R];exact⟨_,rfl,h q⟩
theorem aoK{es:List aI}{ck:Nat}(hp:Lt es ck){e f:aI}(he:e∈es)(hf:f∈es)(hk:e.born=f.born):e=f:=by
 obtain⟨hp,hq⟩:=hp;clear hq
 induction hp with
 |nil=>cases he
 |cons hx _ ih=>
  rcases aZ.1 he with h1|h1<;>rcases aZ.1 hf with h2|h2
  .rw[h1,h2]
  .subst h1;exact dP hk (hx _ h2)
  .subst h2;exact dP hk.symm (hx _ h1)
  exact ih h1 h2
section
variable {E:Env} {B:Nat} {fl:Bool} {st:St} {ops:Array ay} {i:Nat} {l:List Nat} {o:ay} {K:St->Prop} {t:aD} {x:aG} {d:Nat} {ag:Bool} {n:Nat} {h:List Int->Bool} {v:List Int->A}
theorem Nj{w0 w:au}{X:Nat->Prop}{a:Act}{ρ:Nat->Loc}(hr:Rel w0 X st a w ρ)(hg:o.guard=none):Region.wanted o (yielded ops a.tmps)=true:=qN hr (show ft ops.toList st.tmps o=some true by unfold ft;rw[hg])
theorem WO.c7(hE:ib E)(ho:ops[i]? =some o)(hg:o.guard=none)(hd:o.dst=some d)(hop:o.op= .range t x)(hx:cQ st.tmps x= .im t ag n h v)(hm:E.nO t=some (ag,n))(hv:bZ st.bR (B+d)= .de)
  (hK:WO E B fl ops l ⟨eS st.tmps d (.ptr (B+d) 0),cM st.bR (B+d) (.it t ag n h v [])⟩ K):WO E B fl ops (i::l) st K:=by
 intro ro n' w0 X a w ρ Q hro hr hq;simp only[wpOpsIn,ho];rw[Nj hr hg,bS rfl];refine⟨λ_ _=>trivial,?_⟩;have cW:=mE hr.tmp x;rw[hx]at cW;simp only[R]at cW;obtain⟨b,es,clock,zf,hi,mG,h1,h2,h3⟩:=cW;obtain⟨k,e,hu,L⟩:=hE.2 _ _ _ hm;have hrun:(execOp a.eval o).run E.P w= .ok (.value (.pointer (some ⟨w.heap.size,0,none⟩))) (w.alloc (.mapIter (some b) clock #[] clock)):=by
  simp[execOp,hop,zf,run_range_map w t k e b es clock hu mG]
 rw[aO _ _ _ (by rw[hop];intro c hc;cases hc),hrun];have dF:∀ c,(Loc.blk w.heap.size).has c->c=w.heap.size:=λc hc=>by simpa[Loc.has,iP]using hc
 have hL:=pP (X:=X) (w:=w) (.mapIter (some b) clock #[] clock) (hr.de hv) dF;have cy:fR (w.alloc (.mapIter (some b) clock #[] clock)) (Ow X (dj ρ (B+d) (.blk w.heap.size))) (dj ρ (B+d) (.blk w.heap.size)) (.it t ag n h v []) (.blk w.heap.size):=by
  refine⟨w.heap.size,b,es,clock,#[],rfl,by rw[heap_alloc_new],hL.tc hi,(hL.same b hi.1 hi.2).trans mG,⟨h1,h2,λq hq=>?_⟩,L.one,λ_=>0,rfl,λq hq=>by cases hq⟩;simp only[eu];cases hc:h q with
  |false=>exact(h3 q hq).1 hc
  |true=>
   obtain⟨e',he,hk,hv'⟩:=(h3 q hq).2 hc;exact⟨e',he,hk,aS _ b7 b7 _ hL.b7 hv'⟩
 have hrel:Rel w0 X ⟨eS st.tmps d (.ptr (B+d) 0),cM st.bR (B+d) (.it t ag n h v [])⟩ (a.put (some d) (.pointer (some ⟨w.heap.size,0,none⟩))) _ _:=(hr.make hv dF cy).iM (some d) (x:=.ptr (B+d) 0) (v:=.pointer (some ⟨w.heap.size,0,none⟩)) (by simp only[R,dM]);rw[<-hd]at hrel;exact hK ro n' w0 X _ _ _ Q hro hrel λcz a' w'' ρ'' hk gb eB fm=>hq cz a' w'' ρ'' hk gb (hL.trans eB) (fm.trans (put_defers _ _ _))
theorem XH{w0 w:au}{X:Nat->Prop}{a:Act}{ρ:Nat->Loc}(hr:Rel w0 X st a w ρ){id:Nat}{S:List (List Int)}(hx:cQ st.tmps x= .ptr id 0)(cy:bZ st.bR id= .it t ag n h v S):
  ∃b bm es clock sn,a.eval x= .pointer (some ⟨b,0,none⟩)/\ρ id= .blk b/\w.heap[b]? =some (.mapIter (some bm) clock sn clock)/\uD w (Ow X ρ) bm/\w.heap[bm]? =some (.map es clock)/\ou w (Ow X ρ) b7 ag n (eu h v []) es.toList clock/\
   (ag=false->n=1)/\ ∃bo:List Int->Nat,sn.toList=(S.map bo).reverse/\ ∀q∈S,q.length=n/\h q=true/\ ∃e∈es.toList,e.key=ep ag q/\e.born=bo q:=by
 have cW:=mE hr.tmp x;have hO:=hr.obj id;rw[cy]at hO;obtain⟨b,bm,es,clock,sn,h1,h2⟩:=hO;rw[hx]at cW;simp only[R,h1]at cW;exact⟨b,bm,es,clock,sn,cW,h1,h2⟩
theorem WO.lh(ho:ops[i]? =some o)(hg:o.guard=none)(hd:o.dst=some d)(hop:o.op= .entry x){id:Nat}{q:List Int}{S:List (List Int)}(hx:cQ st.tmps x= .ptr id 0)(cy:bZ st.bR id= .it t ag n h v (q::S))
  (hK:WO E B fl ops l ⟨eS st.tmps d (.cG [qS ag q,v q]),st.bR⟩ K):WO E B fl ops (i::l) st K:=by
 intro ro n' w0 X a w ρ Q hro hr hq;simp only[wpOpsIn,ho];rw[Nj hr hg,bS rfl];refine⟨λ_ _=>trivial,?_⟩;obtain⟨b,bm,es,clock,sn,zf,hρ,hit,hi,mG,⟨h1,⟨h2,hb2⟩,h3⟩,hone,bo,hsn,hS⟩:=XH hr hx cy;obtain⟨tH,oU,e,he,r7,heb⟩:=hS q a6;have aoL:sn=(S.map bo).reverse.toArray.push e.born:=by
  apply Array.toList_inj.1;rw[hsn,heb];simp
 rw[aoL]at hit;have hrun:(execOp a.eval o).run E.P w= .ok (.value (.tuple #[e.key,e.val])) w:=by
  simp[execOp,hop,zf,run_entry_at w b bm clock _ es clock e hit mG he (List.pairwise_map.2 hb2.1)]
 rw[aO _ _ _ (by rw[hop];intro c hc;cases hc),hrun];have h4:=h3 q tH;simp only[eu,oU]at h4;obtain⟨e',he',Nk,hv'⟩:=h4;obtain rfl:e'=e:=Ce h2 he' he (Nk.trans r7.symm);have hrel:Rel w0 X ⟨eS st.tmps d (.cG [qS ag q,v q]),st.bR⟩ (a.put (some d) (.tuple #[e'.key,e'.val])) _ _:=hr.iM (some d) (x:=.cG [qS ag q,v q]) (v:=.tuple #[e'.key,e'.val]) (by
  simp only[R,RL];exact⟨[e'.key,e'.val],rfl,_,_,rfl,by rw[r7];exact XG _ _,_,_,rfl,aS _ b7 ρ _ ⟨bB _,λ_ _ _=>rfl,λ_ _ h=>h,λ_=>.inr (.inl rfl)⟩ hv',rfl⟩)
 rw[<-hd]at hrel;exact hK ro n' w0 X _ _ _ Q hro hrel λcz a' w'' ρ'' hk gb eB fm=>hq cz a' w'' ρ'' hk gb eB (fm.trans (put_defers _ _ _))
theorem WO.sD(ho:ops[i]? =some o)(hg:o.guard=none)(hd:o.dst=some d)(hop:o.op= .next x false){id:Nat}{S:List (List Int)}(hx:cQ st.tmps x= .ptr id 0)(cy:bZ st.bR id= .it t ag n h v S)
  (CJ:∀ q,q.length=n->h q=true->q∉S->WO E B fl ops l ⟨eS st.tmps d (.cG [.kb true,qS ag q,v q]),cM st.bR id (.it t ag n h v (q::S))⟩ K)
  (hK2:(∀q,q.length=n->h q=true->q∈S)->WO E B fl ops l ⟨eS st.tmps d (.cG [.kb false]),st.bR⟩ K):WO E B fl ops (i::l) st K:=by
 intro ro n' w0 X a w ρ Q hro hr hq;simp only[wpOpsIn,ho];rw[Nj hr hg,bS rfl];refine⟨λ_ _=>trivial,?_⟩;obtain⟨b,bm,es,clock,sn,zf,hρ,hit,hi,mG,hmr,hone,bo,hsn,hS⟩:=XH hr hx cy;obtain⟨h1,⟨h2,hb2⟩,h3⟩:=hmr;rcases run_next_at (P:=E.P) w o.type b bm clock clock sn es clock hit mG hb2.2 (bB _)with ⟨hz,Nl⟩|⟨e,he,w1,hw1,Nl⟩
 .have hrun:(execOp a.eval o).run E.P w= .ok (.value (.tuple #[.bool false])) w:=by simp[execOp,hop,zf,Nl]
  rw[aO _ _ _ (by rw[hop];intro c hc;cases hc),hrun];have hrel:Rel w0 X ⟨eS st.tmps d (.cG [.kb false]),st.bR⟩ (a.put (some d) (.tuple #[.bool false])) _ _:=hr.iM (some d) (x:=.cG [.kb false]) (v:=.tuple #[.bool false]) (by simp only[R,RL];exact⟨[.bool false],rfl,_,_,rfl,rfl,rfl⟩);rw[<-hd]at hrel;refine hK2 (λq tH oU=>?_) ro n' w0 X _ _ _ Q hro hrel λcz a' w'' ρ'' hk gb eB fm=>hq cz a' w'' ρ'' hk gb eB (fm.trans (put_defers _ _ _));have h4:=h3 q tH;simp only[eu,oU]at h4;obtain⟨e,he,r7,_⟩:=h4;have hno:e∉(leftOf es sn).toList:=by
   have:leftOf es sn= #[]:=Array.eq_empty_of_size_eq_zero hz;rw[this];simp
  have hc:e.born∈sn.toList:=by
   refine Decidable.byContradiction λhc=>hno ?_;unfold leftOf;simp only[ai,bn];exact⟨he,by simpa using hc⟩
  rw[hsn,bk,bz]at hc;obtain⟨p,hp,hpb⟩:=hc;obtain⟨nU,_,f,hf,sv,CP⟩:=hS p hp;obtain rfl:=aoK hb2 hf he (CP.trans hpb);rw[Cd hone tH nU (r7.symm.trans sv)];exact hp
 have hrun:(execOp a.eval o).run E.P w= .ok (.value (.tuple #[.bool true,e.key,e.val])) (w1.putObj b (.mapIter (some bm) clock (sn.push e.born) clock)):=by simp[execOp,hop,zf,Nl];rfl
 rw[aO _ _ _ (by rw[hop];intro c hc;cases hc),hrun];obtain⟨hee,hec⟩:e∈es.toList/\e.born∉sn.toList:=by
  unfold leftOf at he;simp only[ai,bn]at he;exact⟨he.1,by simpa using he.2⟩
 obtain⟨q,tH,r7⟩:=h1 e hee;have oU:h q=true:=by
  have h4:=h3 q tH;cases hc:h q with
  |true=>rfl
  |false=>
   simp only[eu,hc]at h4;exact dP r7 (h4 e hee)
 have CQ:q∉S:=λhs=>by
  obtain⟨_,_,f,hf,sv,CP⟩:=hS q hs;obtain rfl:=Ce h2 hf hee (sv.trans r7.symm);exact hec (by rw[hsn,bk];exact bz.2 ⟨q,hs,CP.symm⟩)
 have h4:=h3 q tH;simp only[eu,oU]at h4;obtain⟨e',he',Nk,hv'⟩:=h4;obtain rfl:e'=e:=Ce h2 he' hee (Nk.trans r7.symm);have fD:Rel w0 X st a w1 ρ:=by rcases hw1 with rfl|rfl<;>first|exact hr|exact hr.drew
 have Nn:w1.heap=w.heap:=by rcases hw1 with rfl|rfl<;>rfl
 have dF:(ρ id).has b:=by rw[hρ];rfl
 have hL:dz w (w1.putObj b (.mapIter (some bm) clock (sn.push e'.born) clock)) (Ow X ρ) (Ow X ρ) ρ ρ:=
  ⟨by simp[Nn],λb' _ hn=>by rw[aX (λe=>hn (by subst e;exact .inr ⟨id,dF⟩)),Nn],λ_ _ h=>h,λ_=>.inl rfl⟩
 have qq:dz w1 (w1.putObj b (.mapIter (some bm) clock (sn.push e'.born) clock)) (Ow X ρ) (Ow X ρ) ρ ρ:=⟨by simp,λb' _ hn=>aX (λe=>hn (by subst e;exact .inr ⟨id,dF⟩)),λ_ _ h=>h,λ_=>.inl rfl⟩;have hrel:Rel w0 X ⟨st.tmps,cM st.bR id (.it t ag n h v (q::S))⟩ a (w1.putObj b (.mapIter (some bm) clock (sn.push e'.born) clock)) ρ:=by
  refine fD.next qq (V5 fD.kept (fD.new b ⟨id,dF⟩).1 _) (λj=>?_) fD.dJ (λb' hb'=>by have:=fD.new b' hb';simpa using this);rw[ef];by_cases cn:j=id
  .subst cn;rw[bS rfl];refine⟨b,bm,es,clock,sn.push e'.born,hρ,aY (by rw[Nn];exact(ae.1 hit).1),hL.tc hi,(hL.same bm hi.1 hi.2).trans mG,?_,hone,λp=>if p=q then e'.born else bo p,?_,λp hp=>?_⟩
   .exact ou.mono (λa v hx=>aS a b7 b7 v hL.b7 hx) ⟨h1,⟨h2,hb2⟩,h3⟩
   .rw[Array.toList_push,hsn,bx,bS rfl,List.reverse_cons];congr 2;exact List.map_congr_left λp hp=>by rw[bQ (λe=>CQ (by subst e;exact hp))]
   rcases aZ.1 hp with rfl|hp'
   .exact⟨tH,oU,e',hee,r7,(bS rfl).symm⟩
   obtain⟨a1,a2,f,hf,sv,CP⟩:=hS p hp';exact⟨a1,a2,f,hf,sv,CP.trans (bQ (λe:p=q=>CQ (e▸hp'))).symm⟩
  rw[bQ cn];exact(fD.obj j).later qq λb' hb'=>aX (λe=>cn (fD.dJ j id b (e▸hb') dF))
 have Gk:Rel w0 X ⟨eS st.tmps d (.cG [.kb true,qS ag q,v q]),cM st.bR id (.it t ag n h v (q::S))⟩ (a.put (some d) (.tuple #[.bool true,e'.key,e'.val])) _ _:=hrel.iM (some d) (x:=.cG [.kb true,qS ag q,v q]) (v:=.tuple #[.bool true,e'.key,e'.val]) (by
  simp only[R,RL];exact⟨[.bool true,e'.key,e'.val],rfl,_,_,rfl,rfl,_,_,rfl,by rw[r7];exact XG _ _,_,_,rfl,aS _ b7 ρ _ ⟨hL.size,hL.same,hL.own,λ_=>.inr (.inl rfl)⟩ hv',rfl⟩)
 rw[<-hd]at Gk;exact CJ q tH oU CQ ro n' w0 X _ _ _ Q hro Gk λcz a' w'' ρ'' hk gb eB fm=>hq cz a' w'' ρ'' hk gb (hL.trans eB) (fm.trans (put_defers _ _ _))
end
end Go.Sy
