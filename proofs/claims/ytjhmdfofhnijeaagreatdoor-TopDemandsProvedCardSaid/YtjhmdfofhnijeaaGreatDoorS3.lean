import Derived.Test.YtjhmdfofhnijeaaGreatDoorS2
open Array renaming getD_eq_getD_getElem?->aa, replicate->ab, all_eq_true_iff_forall_mem->ae, getElem?_eq_none->af, getElem?_eq_getElem->ai, getElem?_setIfInBounds_ne->aj, getElem?_replicate->ak, getD->al
open Bool renaming and_eq_true->aq, not_eq_true'->ar, or_eq_true->au
open Classical renaming byContradiction->av
open Go renaming Oper->ay, TypeId->az, Operand->aA, Program->aB
open Go.Call renaming operands->aC
open Go.Op renaming operands->aD
open Go.Region renaming linearise->aF, schedule->aG, Mode->aH
open Go.Region.linearise renaming go->aI
open Go.Sy.T renaming eval->aJ, dW->aK
open List renaming mem_append_left->aL, mem_cons_of_mem->aM, mem_cons_self->aN, mem_cons->aO, mem_append_right->aP, mem_range->aQ, nodup_cons->aR, all_eq_true->aS, append_of_mem->aT, mem_append->aU, range->aV, nodup_append->aW, contains_eq_mem->aX, length_append->aY, length_cons->aZ, getElem?_take_of_lt->a6, reverse_nil->a7, mem_flatMap->a8, any_eq_true->ba, nil_append->bc, mem_filter->bd, length_nil->bg, range'->bh
open Nat renaming add_left_cancel->bj, lt_or_ge->bk, eq_of_beq_eq_true->bl, min_eq_left->bn, zero_add->bp, beq_refl->bq, blt_eq->br
open Option renaming isSome_iff_exists->bu, getD_some->bw, map_some->bx
open Option.some renaming injEq->bz
set_option linter.all false
namespace Go.Sy
variable [fI]
section
variable {E:Env} {B:Nat} {F:List Nat}
theorem Mf{α:Type}:∀ (l:List α) (i j:Nat) (x y:α),i≠j->eS (eS l i x) j y=eS (eS l j y) i x
 |[],i,j,x,y,h=>rfl
 |a::l,0,0,x,y,h=>(h rfl).elim
 |a::l,0,j+1,x,y,h=>rfl
 |a::l,i+1,0,x,y,h=>rfl
 |a::l,i+1,j+1,x,y,h=>by simp only[eS];rw[Mf l i j x y (by omega)]
theorem Gl:∀ (l:List Ob) (i:Nat) (x y:Ob),cM (cM l i x) i y=cM l i y
 |[],0,x,y=>rfl
 |[],i+1,x,y=>by simp only[cM];rw[Gl [] i x y]
 |a::l,0,x,y=>rfl
 |a::l,i+1,x,y=>by simp only[cM];rw[Gl l i x y]
theorem oZ:∀ (l:List Ob) (i j:Nat) (x y:Ob),i≠j->cM (cM l i x) j y=cM (cM l j y) i x
 |[],0,0,x,y,h=>(h rfl).elim
 |[],0,j+1,x,y,h=>rfl
 |[],i+1,0,x,y,h=>rfl
 |[],i+1,j+1,x,y,h=>by simp only[cM];rw[oZ [] i j x y (by omega)]
 |a::l,0,0,x,y,h=>(h rfl).elim
 |a::l,0,j+1,x,y,h=>rfl
 |a::l,i+1,0,x,y,h=>rfl
 |a::l,i+1,j+1,x,y,h=>by simp only[cM];rw[oZ l i j x y (by omega)]
theorem y0:∀ (F:List Nat) (os:List Ob) (d:Nat) (x:Ob),d∈F->ei F (cM os d x)=ei F os
 |[],os,d,x,h=>by cases h
 |f::F,os,d,x,h=>by
  simp only[ei];by_cases hf:d∈F
  .rw[y0 F os d x hf]
  have hd:d=f:=by
   rcases aO.1 h with h|h
   .exact h
   exact(hf h).elim
  subst hd;have key:∀ (F:List Nat) (os:List Ob),d∉F->cM (ei F (cM os d x)) d .dead=cM (ei F os) d .dead:=by
   intro F
   induction F with
   |nil=>intro os _;simp only[ei,Gl]
   |cons g F ih=>
    intro os hn;simp only[ei];have hg:g≠d:=λe=>hn (by rw[e];exact aN);rw[oZ _ g d _ _ hg,ih os (λh=>hn (aM _ h)),oZ _ d g _ _ (Ne.symm hg)]
  exact key F os hf
theorem Wp:∀ {l:List aA} {t:Nat},Operand.tmp t∈l->t∈tmpsOf l
 |x::l,t,h=>by
  rcases aO.1 h with h|h
  .subst h;exact aN
  have:=Wp h;cases x<;>simp only[tmpsOf]<;>first|exact this|exact aM _ this
theorem uM{ts ts':List A}{l:List aA}(h:∀ t∈tmpsOf l,bT ts t=bT ts' t){x:aA}(hx:x∈l):cQ ts x=cQ ts' x:=by
 cases x with
 |tmp t=>exact h t (Wp hx)
 |_=>rfl
theorem Cj{ev ev':aA->A}:∀ {l:List aA},(∀x∈l,ev x=ev' x)->kX ev l=kX ev' l
 |[],_=>rfl
 |x::l,h=>by simp only[kX];rw[h x aN,Cj λy hy=>h y (aM _ hy)]
theorem Mg{ev ev':aA->A}:∀ {l:List (Nat×aA)},(∀x∈l.map (·.2),ev x=ev' x)->qF ev l=qF ev' l
 |[],_=>rfl
 |(i,x)::l,h=>by simp only[qF];rw[h x (by simp),Mg λy hy=>h y (by simp only[List.map_cons];exact aM _ hy)]
theorem Mh{ev ev':aA->A}{x:Option aA}(h:∀ y,x=some y->ev y=ev' y):pK ev x=pK ev' x:=by
 cases x with
 |none=>rfl
 |some x=>simp only[pK];rw[h x rfl]
theorem anw{bR:List Ob}{op:Op}{ev ev':aA->A}(h:∀ x∈op.operands.toList,ev x=ev' x):dZ E bR op ev=dZ E bR op ev':=by
 cases op with
 |lookup t m q ok=>simp only[dZ];rw[h m (by simp[aD]),h q (by simp[aD])]
 |move x=>simp only[dZ];rw[h x (by simp[aD])]
 |assign x=>simp only[dZ];rw[h x (by simp[aD])]
 |pick c a b=>simp only[dZ];rw[h c (by simp[aD]),h a (by simp[aD]),h b (by simp[aD])]
 |build t parts=>simp only[dZ];rw[Mg (ev':=ev') λx hx=>h x (by simpa[aD]using hx)]
 |load t a=>simp only[dZ];rw[h a (by simp[aD])]
 |binOp op t x y yt=>simp only[dZ];rw[h x (by simp[aD]),h y (by simp[aD])]
 |unOp op t x=>simp only[dZ];rw[h x (by simp[aD])]
 |convert s d x=>simp only[dZ];rw[h x (by simp[aD])]
 |makeFunc fn first fN=>
  cases fn with
  |func f=>
   obtain⟨first⟩:=first
   cases first with
   |nil=>simp only[dZ];rw[Cj (ev':=ev') λx hx=>h x (by simpa[aD]using hx)]
   |cons x l=>
    cases l with
    |cons y l=>rfl
    |nil=>
     obtain⟨fN⟩:=fN;cases fN with
     |cons y l=>rfl
     |nil=>simp only[dZ];rw[h x (by simp[aD])]
  |_=>rfl
 |slice t x lo hi mx=>
  cases mx with
  |none=>
   simp only[dZ];rw[h x (by simp[aD]),Mh (ev':=ev') λy hy=>h y (by subst hy;simp[aD]),Mh (ev':=ev') (x:=hi) λy hy=>h y (by subst hy;simp[aD])]
  |some m=>
   cases lo with
   |some l=>rfl
   |none=>
    cases hi with
    |none=>rfl
    |some hh=>simp only[dZ];rw[h x (by simp[aD]),h hh (by simp[aD]),h m (by simp[aD])]
 |fieldAddr s x f=>simp only[dZ];rw[h x (by simp[aD])]
 |indexAddr t x i=>simp only[dZ];rw[h x (by simp[aD]),h i (by simp[aD])]
 |index t x i=>simp only[dZ];rw[h x (by simp[aD]),h i (by simp[aD])]
 |field t x f=>simp only[dZ];rw[h x (by simp[aD])]
 |extract x i=>simp only[dZ];rw[h x (by simp[aD])]
 |nilCheck x=>simp only[dZ];rw[h x (by simp[aD])]
 |call c=>
  obtain⟨callee,⟨args⟩,⟨ts⟩⟩:=c;cases callee with
  |value f=>rfl
  |invoke r m=>rfl
  |builtin b=>
   have hl:∀ x∈args,ev x=ev' x:=λx hx=>h x (by simp[aD,aC,hx]);cases b with
   |len=>
    match args,ts,hl with
    |[x],[t],hl=>simp only[dZ];rw[hl x (by simp)]
    |[],_,_=>rfl
    |_::_::_,_,_=>rfl
    |[_],[],_=>rfl
    |[_],_::_::_,_=>rfl
   |min=>simp only[dZ];rw[Cj hl]
   |max=>simp only[dZ];rw[Cj hl]
   |_=>rfl
 |_=>rfl
theorem anx{bR objs':List Ob}{op:Op}{ev:aA->A}(h:cls op=0):dZ E bR op ev=dZ E objs' op ev:=by
 cases op with
 |call c=>
  obtain⟨callee,args,ts⟩:=c;cases callee with
  |value f=>simp[cls]at h
  |invoke r m=>simp[cls]at h
  |builtin b=>cases b<;>simp[cls]at h
 |makeFunc fn first fN=>
  obtain⟨first⟩:=first
  obtain⟨fN⟩:=fN;cases fn<;>rcases first with _|⟨x,_|⟨y,first⟩⟩<;>cases fN<;>rfl
 |slice t x lo hi mx=>simp[cls]at h
 |convert s d x=>simp[cls]at h
 |load t a=>simp[cls]at h
 |lookup t m q ok=>simp[cls]at h
 |indexAddr t x i=>simp[cls]at h
 |_=>rfl
theorem anz{op:Op}{ev ev':aA->A}(h:∀ x∈op.operands.toList,ev x=ev' x):nz E op ev=nz E op ev':=by
 cases op with
 |box t x=>simp only[nz];rw[h x (by simp[aD])]
 |buildSlice t len parts=>
  cases len with
  |zero=>rfl
  |succ len=>simp only[nz];rw[Mg (ev':=ev') λx hx=>h x (by simpa[aD]using hx)]
 |makeSlice t l c=>simp only[nz];rw[h l (by simp[aD]),h c (by simp[aD])]
 |_=>rfl
theorem anA{o:ay}{ts ts':List A}{mo:List Ob}{v:A}{ob:Option Ob}(h:∀ t∈tmpsOf o.op.operands.toList,bT ts t=bT ts' t)(hs:gD E B o ts mo v ob):gD E B o ts' mo v ob:=by
 have cW:∀ x∈o.op.operands.toList,cQ ts x=cQ ts' x:=λx hx=>uM h hx;have hV:=anw (E:=E) (bR:=mo) cW;have hO:=anz (E:=E) cW;obtain⟨dst,op,type,pos,after,guard⟩:=o;simp only at cW hV hO;cases op with
 |call c=>
  obtain⟨callee,args,oB⟩:=c;cases callee with
  |value f=>
   obtain⟨g,vals,cl,r,fh,d,h1,h2⟩:=hs;refine⟨g,vals,cl,r,fh,d,?_,h2⟩;have hf:cQ ts f=cQ ts' f:=cW f (by simp[aD,aC]);have ha:kX (cQ ts) args.toList=kX (cQ ts') args.toList:=Cj λx hx=>cW x (by simp[aD,aC];exact .inr (by simpa using hx));rw[<-hf,<- ha];exact h1
  |invoke r m=>exact⟨hV▸hs.1,hs.2⟩
  |builtin b=>exact⟨hV▸hs.1,hs.2⟩
 |box t x=>obtain⟨d,nh,x,h1,h2,h3⟩:=hs;exact⟨d,nh,x,h1,hO▸h2,h3⟩
 |alloc t=>obtain⟨d,nh,x,h1,h2,h3⟩:=hs;exact⟨d,nh,x,h1,hO▸h2,h3⟩
 |buildSlice t len parts=>obtain⟨d,nh,x,h1,h2,h3⟩:=hs;exact⟨d,nh,x,h1,hO▸h2,h3⟩
 |makeSlice t l c=>obtain⟨d,nh,x,h1,h2,h3⟩:=hs;exact⟨d,nh,x,h1,hO▸h2,h3⟩
 |convert s t x=>
  unfold gD at hs⊢;simp only[kG]at hs⊢;cases hsb:mC E.P (.convert s t x)with
  |true=>
   rw[hsb]at hs;simp only at hs⊢;obtain⟨d,r,h1,h2,h3⟩:=hs;refine⟨d,r,h1,?_,h3⟩;simp only[sY]at h2⊢;rw[<-cW x (by simp[aD])];exact h2
  |false=>
   rw[hsb]at hs;simp only at hs⊢;exact⟨hV▸hs.1,hs.2⟩
 |_=>exact⟨hV▸hs.1,hs.2⟩
theorem Mi{o:ay}{ts:List A}{mo mo':List Ob}{v:A}{ob:Option Ob}(h:cls o.op=0)(hs:gD E B o ts mo v ob):gD E B o ts mo' v ob/\ob=none:=by
 have hV:=anx (E:=E) (bR:=mo) (objs':=mo') (ev:=cQ ts) h;obtain⟨dst,op,type,pos,after,guard⟩:=o;simp only at h hV;cases op with
 |call c=>
  obtain⟨callee,args,oB⟩:=c;cases callee with
  |value f=>simp[cls]at h
  |invoke r m=>simp[cls]at h
  |builtin b=>exact⟨⟨hV▸hs.1,hs.2⟩,hs.2⟩
 |box t x=>simp[cls]at h
 |alloc t=>simp[cls]at h
 |buildSlice t len parts=>simp[cls]at h
 |makeSlice t l c=>simp[cls]at h
 |convert s d x=>simp[cls]at h
 |_=>exact⟨⟨hV▸hs.1,hs.2⟩,hs.2⟩
theorem anB{o:ay}{ts:List A}{mo:List Ob}{v:A}{x:Ob}(hs:gD E B o ts mo v (some x)):cls o.op=1:=by
 obtain⟨dst,op,type,pos,after,guard⟩:=o;cases op with
 |call c=>
  obtain⟨callee,args,oB⟩:=c;cases callee with
  |value f=>rfl
  |invoke r m=>cases hs.2
  |builtin b=>cases hs.2
 |box t x=>rfl
 |alloc t=>rfl
 |buildSlice t len parts=>rfl
 |makeSlice t l c=>rfl
 |convert s d x=>rfl
 |_=>cases hs.2
def S2(E:Env)(B:Nat)(o:ay)(ts:List A)(os:List Ob)(y:A)(os':List Ob):Prop:=
 match o.op with
 | .store t a x=>∃ r,(l9 E.P os t (cQ ts a) (cQ ts x)).eval=some r/\y= .cG []/\os'=cM os r.1 r.2
 | .call ⟨.builtin .clear,⟨[x]⟩,⟨[t]⟩⟩=>∃ r,(BI E.P os t (cQ ts x)).eval=some r/\y= .cG []/\os'=cM os r.1 r.2
 | .call ⟨.builtin .copy,⟨[x,z]⟩,⟨[t,t']⟩⟩=>∃ r,(BK E.P os t t' (cQ ts x) (cQ ts z)).eval=some r/\y= .int .i64 (r.2.2:Nat)/\os'=cM os r.1 r.2.1
 | .call ⟨.builtin .append,⟨[x,z]⟩,⟨[t,t']⟩⟩=>∃ r d,o.dst=some d/\(nB E.P os t t' (cQ ts x) (cQ ts z)).eval=some r/\bZ (gI os r.1) (B+d)= .de/\y= .own (B+d)/\os'=cM (gI os r.1) (B+d) r.2
 | .call ⟨.builtin .delete,⟨[m,q]⟩,⟨[t,_]⟩⟩=>∃ r,(oX E os t (cQ ts m) (cQ ts q) none).eval=some r/\y= .cG []/\os'=cM os r.1 r.2
 | .mapUpdate t m q x=>∃ r,(oX E os t (cQ ts m) (cQ ts q) (some (cQ ts x))).eval=some r/\y= .cG []/\os'=cM os r.1 r.2
 | .insert t m q x=>∃ r,(oX E os t (cQ ts m) (cQ ts q) (some (cQ ts x))).eval=some r/\y= .cG []/\os'=cM os r.1 r.2
 | .makeMap t r=>∃ ob d,o.dst=some d/\BG E t (pK (cQ ts) r)=some ob/\bZ os (B+d)= .de/\y= .dA (B+d)/\os'=cM os (B+d) ob
 |_=>False
theorem anC{o:ay}{st cz:St}:oy E B o st cz↔ ∃y os',S2 E B o st.tmps st.bR y os'/\cz=⟨dm st.tmps o.dst y,os'⟩:=by
 obtain⟨dst,op,type,pos,after,guard⟩:=o;simp only[oy,S2];split
 .constructor
  .rintro⟨r,h,rfl⟩;exact⟨_,_,⟨r,h,rfl,rfl⟩,rfl⟩
  rintro⟨y,os',⟨r,h,rfl,rfl⟩,rfl⟩;exact⟨r,h,rfl⟩
 .constructor
  .rintro⟨r,h,rfl⟩;exact⟨_,_,⟨r,h,rfl,rfl⟩,rfl⟩
  rintro⟨y,os',⟨r,h,rfl,rfl⟩,rfl⟩;exact⟨r,h,rfl⟩
 .constructor
  .rintro⟨r,h,rfl⟩;exact⟨_,_,⟨r,h,rfl,rfl⟩,rfl⟩
  rintro⟨y,os',⟨r,h,rfl,rfl⟩,rfl⟩;exact⟨r,h,rfl⟩
 .constructor
  .rintro⟨r,d,rfl,h3,h4,rfl⟩;exact⟨_,_,⟨r,d,rfl,h3,h4,rfl,rfl⟩,rfl⟩
  rintro⟨y,os',⟨r,d,rfl,h3,h4,rfl,rfl⟩,rfl⟩;exact⟨r,d,rfl,h3,h4,rfl⟩
 .constructor
  .rintro⟨r,h,rfl⟩;exact⟨_,_,⟨r,h,rfl,rfl⟩,rfl⟩
  rintro⟨y,os',⟨r,h,rfl,rfl⟩,rfl⟩;exact⟨r,h,rfl⟩
 .constructor
  .rintro⟨r,h,rfl⟩;exact⟨_,_,⟨r,h,rfl,rfl⟩,rfl⟩
  rintro⟨y,os',⟨r,h,rfl,rfl⟩,rfl⟩;exact⟨r,h,rfl⟩
 .constructor
  .rintro⟨r,h,rfl⟩;exact⟨_,_,⟨r,h,rfl,rfl⟩,rfl⟩
  rintro⟨y,os',⟨r,h,rfl,rfl⟩,rfl⟩;exact⟨r,h,rfl⟩
 .constructor
  .rintro⟨ob,d,rfl,h3,h4,rfl⟩;exact⟨_,_,⟨ob,d,rfl,h3,h4,rfl,rfl⟩,rfl⟩
  rintro⟨y,os',⟨ob,d,rfl,h3,h4,rfl,rfl⟩,rfl⟩;exact⟨ob,d,rfl,h3,h4,rfl⟩
 rename_i h1 Wm h1c h2 g1 g2 g3 g5;constructor
 .intro h;exact h.elim
 rintro⟨_,_,h,_⟩;split at h
 .exact h1 _ _ _ rfl
 .exact Wm _ _ rfl
 .exact h1c _ _ _ _ rfl
 .exact h2 _ _ _ _ rfl
 .exact g1 _ _ _ _ rfl
 .exact g2 _ _ _ _ rfl
 .exact g3 _ _ _ _ rfl
 .exact g5 _ _ rfl
 exact h.elim
theorem kZ{o:ay}{ts ts':List A}{os os':List Ob}{y:A}(h:∀ t∈tmpsOf o.op.operands.toList,bT ts t=bT ts' t)(hs:S2 E B o ts os y os'):S2 E B o ts' os y os':=by
 have cW:∀ x∈o.op.operands.toList,cQ ts x=cQ ts' x:=λx hx=>uM h hx;unfold S2 at hs⊢;split at hs
 .rename_i t a x hop;rw[hop]at cW;rw[<-cW a (by simp[aD]),<- cW x (by simp[aD])];exact hs
 .rename_i x t hop;rw[hop]at cW;rw[<-cW x (by simp[aD,aC])];exact hs
 .rename_i x z t t' hop;rw[hop]at cW;rw[<-cW x (by simp[aD,aC]),<- cW z (by simp[aD,aC])];exact hs
 .rename_i x z t t' hop;rw[hop]at cW;rw[<-cW x (by simp[aD,aC]),<- cW z (by simp[aD,aC])];exact hs
 .rename_i m q t tk hop;rw[hop]at cW;rw[<-cW m (by simp[aD,aC]),<- cW q (by simp[aD,aC])];exact hs
 .rename_i t m q x hop;rw[hop]at cW;rw[<-cW m (by simp[aD]),<- cW q (by simp[aD]),<- cW x (by simp[aD])];exact hs
 .rename_i t m q x hop;rw[hop]at cW;rw[<-cW m (by simp[aD]),<- cW q (by simp[aD]),<- cW x (by simp[aD])];exact hs
 .rename_i t r hop;rw[hop]at cW;rw[<-Mh (λy hy=>cW y (by subst hy;simp[aD]))];exact hs
 exact hs.elim
theorem kH{ops:List ay}{o:ay}{ts ts':List A}(h:∀ t∈dK ops o,bT ts t=bT ts' t):ft ops ts o=ft ops ts' o:=by
 unfold ft;split
 .rfl
 rename_i j want hg;have:rQ ops ts j=rQ ops ts' j:=by
  unfold rQ;cases hd:jE j ops with
  |nil=>rfl
  |cons g rest=>
   cases gj:g.dst with
   |none=>simp only[gj]
   |some d=>
    have hm:d∈dK ops o:=by
     unfold dK;rw[hg];simp only[hd,gj];simp
    simp only[gj,h d hm]
 rw[this]
def kI(E:Env)(B:Nat)(F:List Nat)(ops:List ay)(o:ay)(ts:List A)(mo:List Ob)(v:A)(ob:Option Ob):Prop:=
 (ft ops ts o=some false/\v= .cG []/\ob=none)\/(ft ops ts o=some true/\mD F ops ts o=true/\gD E B o ts mo v ob)
def gl(B:Nat)(o:ay)(st:St)(v:A)(ob:Option Ob)(cz:St):Prop:=
 match ob with
 |none=>cz=⟨dm st.tmps o.dst v,st.bR⟩
 |some x=>∃ d,o.dst=some d/\bZ st.bR (B+d)= .de/\cz=⟨eS st.tmps d v,cM st.bR (B+d) x⟩
theorem Wq{B:Nat}:∀ {ts:List Nat} {d:Nat},d∉ts->FM B ts (B+d)=false
 |[],d,_=>rfl
 |t::ts,d,h=>by
  simp only[aO,not_or]at h;simp only[FM,Bool.or_eq_false_iff];refine⟨?_,Wq h.2⟩;rw[<-Bool.not_eq_true,Nat.beq_eq];omega
theorem Mj{B:Nat}{ts:List Nat}{d:Nat}(hd:d∉ts):∀ {F:List Nat},B+d∈F->B+d∈BQ B F ts
 |[],h=>by cases h
 |s::F,h=>by
  unfold BQ;rcases aO.1 h with rfl|h
  .rw[Wq hd];exact aN ..
  split
  .exact Mj hd h
  exact aM _ (Mj hd h)
theorem Ck{B:Nat}{F:List Nat}{ops:List ay}{o:ay}{d:Nat}(h:B+d∈F)(hd:d∉dK ops o):B+d∈ga B F o:=by
 unfold ga;cases F with
 |nil=>cases h
 |cons s F=>exact Mj (λe=>hd (by unfold dK;exact aL _ e)) h
theorem e6{ops:List ay}{o:ay}{st cz:St}(hc:cls o.op≠2):Step E B F ops o st cz↔ ∃v ob,kI E B F ops o st.tmps (ei (ga B F o) st.bR) v ob/\gl B o st v ob cz:=by
 unfold Step;cases hg:ft ops st.tmps o with
 |none=>
  constructor
  .intro h;exact h.elim
  rintro⟨v,ob,h|h,_⟩<;>rw[hg]at h<;>cases h.1
 |some b=>
  cases b with
  |false=>
   constructor
   .intro h;exact⟨_,none,.inl ⟨hg,rfl,rfl⟩,h⟩
   rintro⟨v,ob,h|h,hp⟩
   .obtain⟨_,rfl,rfl⟩:=h;exact hp
   rw[hg]at h;cases h.1
  |true=>
   simp only;constructor
   .rintro⟨h0,v,ob,h1,h2⟩;exact⟨v,ob,.inr ⟨hg,h0,h1⟩,h2⟩
   rintro⟨v,ob,h|h,hp⟩
   .rw[hg]at h;cases h.1
   exact⟨h.2.1,v,ob,h.2.2,hp⟩
theorem fy{ops:List ay}{o:ay}{st cz:St}(hc:cls o.op=2):Step E B F ops o st cz↔
  ∃y os',((ft ops st.tmps o=some false/\y= .cG []/\os'=st.bR)\/(ft ops st.tmps o=some true/\jo B F ops st.tmps o=true/\S2 E B o st.tmps st.bR y os'))/\cz=⟨dm st.tmps o.dst y,os'⟩:=by
 unfold Step;cases hg:ft ops st.tmps o with
 |none=>
  constructor
  .intro h;exact h.elim
  rintro⟨v,ob,h|h,_⟩<;>cases h.1
 |some b=>
  cases b with
  |false=>
   constructor
   .intro h;exact⟨_,_,.inl ⟨rfl,rfl,rfl⟩,h⟩
   rintro⟨v,ob,h|h,hp⟩
   .obtain⟨_,rfl,rfl⟩:=h;exact hp
   cases h.1
  |true=>
   simp only[hc,anC];constructor
   .rintro⟨hf,y,os',h1,h2⟩;exact⟨y,os',.inr ⟨bP,hf,h1⟩,h2⟩
   rintro⟨y,os',h|h,hp⟩
   .cases h.1
   exact⟨h.2.1,y,os',h.2.2,hp⟩
theorem Mk{ops:List ay}{o:ay}{t:Nat}(h:rT ops o=some t):(∃ty x,o.op= .store ty (.tmp t) x)/\BS ops t=true:=by
 unfold rT at h;split at h
 .rename_i ty u x hop;split at h
  .rename_i hf;cases h;exact⟨⟨ty,x,hop⟩,hf⟩
  cases h
 cases h
theorem Wr:∀ {ops:List ay} {t:Nat},BS ops t=true-> ∃o∈ops,o.dst=some t/\cls o.op=1
 |o::l,t,h=>by
  simp only[BS,au]at h;rcases h with h|h
  .refine⟨o,aN ..,?_⟩;split at h
   .rename_i d hd;simp only[aq]at h;obtain⟨h1,h2⟩:=h;have:=bl h1;subst this;refine⟨hd,?_⟩
    revert h2
    cases o.op<;>simp[Vn,cls]
   cases h
  obtain⟨o',h1,h2⟩:=Wr h;exact⟨o',aM _ h1,h2⟩
theorem anD{ops:List ay}{o:ay}{ts ts':List A}(h:∀ t∈dK ops o,bT ts t=bT ts' t):yP B F ops ts o=yP B F ops ts' o:=by
 unfold yP;split
 .rfl
 cases hf:rT ops o with
 |none=>rfl
 |some t=>
  obtain⟨⟨ty,x,hop⟩,_⟩:=Mk hf;have:t∈dK ops o:=by
   unfold dK;rw[hop];simp[aD,tmpsOf]
  simp only[h t this]
theorem anE{ops:List ay}{o:ay}{ts ts':List A}(h:∀ t∈dK ops o,bT ts t=bT ts' t):wD F ops ts o=wD F ops ts' o:=by
 unfold wD;split
 .rfl
 split
 .rename_i t b x hop;have e:cQ ts b=cQ ts' b:=uM (l:=o.op.operands.toList) (ts:=ts) (ts':=ts') (λt ht=>h t (by unfold dK;exact aL _ ht)) (x:=b) (by rw[hop];simp[aD]);unfold stM;cases hr:hQ ops b with
  |none=>rfl
  |some q=>simp only;rw[e,h q (by unfold dK FO;rw[hop];simp only[hr];exact aP _ (aP _ aN))]
 rfl
theorem anF{ops:List ay}{o:ay}{ts ts':List A}(h:∀ t∈dK ops o,bT ts t=bT ts' t):yQ F ops ts o=yQ F ops ts' o:=by
 unfold yQ;split
 .rfl
 split
 .rename_i t b x hop;have e:cQ ts b=cQ ts' b:=uM (l:=o.op.operands.toList) (ts:=ts) (ts':=ts') (λt ht=>h t (by unfold dK;exact aL _ ht)) (x:=b) (by rw[hop];simp[aD]);rw[e]
 rfl
theorem anG{ops:List ay}{o:ay}{ts ts':List A}(h:∀ t∈dK ops o,bT ts t=bT ts' t):yR B F ops ts o=yR B F ops ts' o:=by
 unfold yR;split
 .rfl
 split
 .rename_i x z oB hop;have hm:∀ y∈o.op.operands.toList,cQ ts y=cQ ts' y:=λy hy=>uM (l:=o.op.operands.toList) (ts:=ts) (ts':=ts') (λt ht=>h t (by unfold dK;exact aL _ ht)) hy;rw[hm x (by rw[hop];simp[aD,aC]),hm z (by rw[hop];simp[aD,aC])]
 rfl
theorem kj{ops:List ay}{o:ay}{ts ts':List A}(h:∀ t∈dK ops o,bT ts t=bT ts' t):jo B F ops ts o=jo B F ops ts' o:=by
 unfold jo;rw[anD h,anE h,anF h,anG h]
theorem anH{ops:List ay}{o:ay}{ts:List A}(h:jo B F ops ts o=true):yP B F ops ts o=true:=by
 unfold jo at h;rw[aq,aq,aq]at h;exact h.1.1.1
theorem Gm{ops:List ay}{o:ay}{ts:List A}(h:jo B F ops ts o=true):wD F ops ts o=true:=by
 unfold jo at h;rw[aq,aq,aq]at h;exact h.1.1.2
theorem anI{ops:List ay}{o:ay}{ts:List A}(h:jo B F ops ts o=true):yQ F ops ts o=true:=by
 unfold jo at h;rw[aq,aq]at h;exact h.1.2
theorem anJ{ops:List ay}{o:ay}{ts:List A}(h:jo B F ops ts o=true):yR B F ops ts o=true:=by
 unfold jo at h;rw[aq]at h;exact h.2
theorem Ml{P:aB}{os os':List Ob}{ty:az}{id off:Nat}{x:A}{r:Nat×Ob}(h:(l9 P os ty (.ptr id off) x).eval=some r):r.1=id/\(bZ os' id=bZ os id->(l9 P os' ty (.ptr id off) x).eval=some r):=by
 unfold l9 at h⊢;split at h
 .rename_i s cs hs hcs;split at h
  .rename_i hc;simp only at h;split at h
   .rename_i cells hcell;split at h
    .rename_i cells' qu;simp only[aJ,bz]at h;subst h;refine⟨rfl,λe=>?_⟩;simp only[bS hc,e,hcell,qu,aJ]
    cases h
   cases h
  cases h
 cases h
theorem Gn{ops:List ay}{o:ay}{ts:List A}{os os':List Ob}{y:A}{t:Nat}(hne:F≠[])(hf:rT ops o=some t)(hok:jo B F ops ts o=true)(hs:S2 E B o ts os y os'):
  y= .cG []/\ ∃x,os'=cM os (B+t) x/\ ∀Gp,bZ Gp (B+t)=bZ os (B+t)->S2 E B o ts Gp (.cG []) (cM Gp (B+t) x):=by
 obtain⟨⟨ty,x,hop⟩,_⟩:=Mk hf
 replace hok:=anH hok
 unfold yP at hok;split at hok
 .exact(hne rfl).elim
 rw[hf]at hok;simp only at hok;split at hok
 .rename_i id off cn;have e:=bl hok;subst e;unfold S2 at hs;rw[hop]at hs;simp only at hs;obtain⟨r,h1,rfl,rfl⟩:=hs;simp only[cQ]at h1;rw[cn]at h1;refine⟨rfl,r.2,by rw[(Ml (os':=os) h1).1],λGp he=>?_⟩;unfold S2;rw[hop];simp only;refine⟨r,?_,bP,by rw[(Ml (os':=os) h1).1]⟩;simp only[cQ];rw[cn];exact(Ml h1).2 he
 cases hok
theorem Mm{f g:Nat->Bool}:∀ {l:List Nat},(∀q∈l,f q=g q)->rS f l=rS g l
 |[],_=>rfl
 |q::l,h=>by simp only[rS];rw[h q aN,Mm λp hp=>h p (aM _ hp)]
theorem Mn{f:Nat->Bool}:∀ {l:List Nat} {q:Nat},rS f l=true->q∈l->f q=true
 |p::l,q,h,hq=>by
  simp only[rS,aq]at h;rcases aO.1 hq with rfl|hq
  .exact h.1
  exact Mn h.2 hq
theorem anK{ops:List ay}{o c:ay}{q:Nat}(l:List ay)(hc:c∈l)(hp:pM ops o c=some q):q∈wC ops o l:=by
 induction l with
 |nil=>cases hc
 |cons a l ih=>
  show q∈(match pM ops o a with|some q=>q::wC ops o l|none=>wC ops o l);rcases aO.1 hc with e|hc
  .rw[<-e,hp];exact aN
  cases pM ops o a with
  |none=>exact ih hc
  |some p=>exact aM _ (ih hc)
theorem anL{ops:List ay}{o:ay}{ts ts':List A}(h:∀ t∈dK ops o,bT ts t=bT ts' t):mD F ops ts o=mD F ops ts' o:=by
 have cW:∀ x∈o.op.operands.toList,cQ ts x=cQ ts' x:=λx hx=>uM (λt ht=>h t (by unfold dK;exact aL _ ht)) hx;unfold mD;cases F with
 |nil=>rfl
 |cons a F=>
  simp only;cases hop:o.op with
  |slice t x lo hi mx=>
   simp only;rw[cW x (by rw[hop];simp[aD])]
  |load t x=>
   simp only;have e:cQ ts x=cQ ts' x:=cW x (by rw[hop];simp[aD]);have e2:FP ops ts o x=FP ops ts' o x:=by
    unfold FP;rw[e];refine Mm λq hq=>?_;rw[h q (by unfold dK FO;rw[hop];exact aP _ (aP _ hq))]
   rw[e,e2]
  |convert s d x=>
   simp only;have e:cQ ts x=cQ ts' x:=cW x (by rw[hop];simp[aD]);unfold Lf;rw[e];have e2:rS (λq=>FQ (bT ts q)) (rR ops o ops)=rS (λq=>FQ (bT ts' q)) (rR ops o ops):=Mm λq hq=>by
    rw[h q (by unfold dK FO;rw[hop];exact aP _ (aP _ hq))]
   rw[e2]
  |indexAddr t x i=>
   simp only;rw[cW x (by rw[hop];simp[aD])]
  |_=>rfl
theorem iB{ops:List ay}{o:ay}{ts ts':List A}{mo:List Ob}{v:A}{ob:Option Ob}(h:∀ t∈dK ops o,bT ts t=bT ts' t)(hg:kI E B F ops o ts mo v ob):kI E B F ops o ts' mo v ob:=by
 have tl:=kH (ops:=ops) (o:=o) h;rcases hg with ⟨h1,h2⟩|⟨h1,h0,h2⟩
 .exact .inl ⟨tl▸h1,h2⟩
 exact .inr ⟨tl▸h1,(anL h)▸h0,anA (λt ht=>h t (by unfold dK;exact aL _ ht)) h2⟩
theorem me{ts:List A}{dst:Option Nat}{x:A}{t:Nat}(h:dst≠some t):bT (dm ts dst x) t=bT ts t:=by
 cases dst with
 |none=>rfl
 |some d=>
  simp only[dm,th];rw[bQ];rintro⟨rfl,_⟩;exact h rfl
theorem gJ{ts:List A}{d d':Option Nat}{x y:A}(h:∀ n,d=some n->d'≠some n):dm (dm ts d x) d' y=dm (dm ts d' y) d x:=by
 cases d with
 |none=>rfl
 |some d=>
  cases d' with
  |none=>rfl
  |some d'=>
   simp only[dm];exact Mf _ _ _ _ _ (λe=>h d rfl (by rw[e]))
theorem anM{o:ay}{ts:List A}{os:List Ob}{v:A}{ob:Option Ob}{cz:St}{t:Nat}{x:Ob}(hd:∀ d,o.dst=some d->d≠t)(h:gl B o ⟨ts,cM os (B+t) x⟩ v ob cz):
  ∃st1,gl B o ⟨ts,os⟩ v ob st1/\st1.tmps=dm ts o.dst v/\bZ st1.bR (B+t)=bZ os (B+t)/\cz=⟨dm ts o.dst v,cM st1.bR (B+t) x⟩:=by
 cases ob with
 |none=>
  simp only[gl]at h;subst h;exact⟨_,rfl,rfl,rfl,rfl⟩
 |some y=>
  obtain⟨d,h1,h2,h3⟩:=h;have hne:=hd d h1;have hb:B+t≠B+d:=λe=>hne (bj e).symm;simp only[ef]at h2;rw[bQ (λe=>hb e.symm)]at h2;refine⟨_,⟨d,h1,h2,rfl⟩,by rw[h1];rfl,?_,?_⟩
  .simp only[ef];rw[bQ hb]
  rw[h3,h1];simp only[dm];rw[oZ _ _ _ _ _ hb]
theorem anN{o:ay}{ts:List A}{os:List Ob}{v:A}{ob:Option Ob}{st1:St}{t:Nat}{x:Ob}(hd:∀ d,o.dst=some d->d≠t)(h:gl B o ⟨ts,os⟩ v ob st1):
  st1.tmps=dm ts o.dst v/\bZ st1.bR (B+t)=bZ os (B+t)/\ ∀ts',gl B o ⟨ts',cM os (B+t) x⟩ v ob ⟨dm ts' o.dst v,cM st1.bR (B+t) x⟩:=by
 cases ob with
 |none=>
  simp only[gl]at h;subst h;exact⟨rfl,rfl,λts'=>rfl⟩
 |some y=>
  obtain⟨d,h1,h2,h3⟩:=h;have hne:=hd d h1;have hb:B+t≠B+d:=λe=>hne (bj e).symm;subst h3;refine⟨by rw[h1];rfl,?_,λts'=>⟨d,h1,?_,?_⟩⟩
  .simp only[ef];rw[bQ hb]
  .simp only[ef];rw[bQ (λe=>hb e.symm)];exact h2
  rw[h1];simp only[dm];rw[oZ _ _ _ _ _ hb]
theorem rZ{o:ay}{ts ts':List A}{os:List Ob}{v:A}{ob:Option Ob}{st1:St}(h:gl B o ⟨ts,os⟩ v ob st1):st1.tmps=dm ts o.dst v/\gl B o ⟨ts',os⟩ v ob ⟨dm ts' o.dst v,st1.bR⟩:=by
 cases ob with
 |none=>
  simp only[gl]at h;subst h;exact⟨rfl,rfl⟩
 |some y=>
  obtain⟨d,h1,h2,h3⟩:=h;subst h3;exact⟨by rw[h1];rfl,d,h1,h2,by rw[h1];rfl⟩
theorem anO{ops:List ay}{h x:ay}{st s1 s2:St}(hi:Ll ops h x=true)(hF:∀ o:ay,o∈ops->cls o.op=1-> ∀d,o.dst=some d->B+d∈F)
  (rx:∀ d,h.dst=some d->d∉dK ops x/\x.dst≠some d) (rh:∀ d,x.dst=some d->d∉dK ops h)
  (h1:Step E B F ops h st s1) (h2:Step E B F ops x s1 s2):∃ s1',Step E B F ops x st s1'/\Step E B F ops h s1' s2:=by
 have ax:∀ (ts:List A) (v:A),∀ t∈dK ops x,bT (dm ts h.dst v) t=bT ts t:=λts v t ht=>me (λe=>(rx t e).1 ht);have ah:∀ (ts:List A) (v:A),∀ t∈dK ops h,bT (dm ts x.dst v) t=bT ts t:=λts v t ht=>me (λe=>rh t e ht);have hne:∀ n,h.dst=some n->x.dst≠some n:=λn hn=>(rx n hn).2;have tail:∀ (o:ay),∀ t∈tmpsOf o.op.operands.toList,t∈dK ops o:=λo t ht=>by unfold dK;exact aL _ ht
 have site:∀ {o:ay} {t:Nat},rT ops o=some t->B+t∈F/\t∈dK ops o:=by
  intro o t hf;obtain⟨⟨ty,z,hop⟩,hft⟩:=Mk hf;obtain⟨o',hm,hd,hc⟩:=Wr hft;exact⟨hF o' hm hc t hd,tail o t (by rw[hop];simp[aD,tmpsOf])⟩
 unfold Ll at hi;split at hi
 ·
  rename_i ch cx;split at hi
  .rename_i t hf;simp only[ar,aX,gU]at hi;obtain⟨hs,hr⟩:=site hf;have iC:F≠[]:=by rintro rfl;cases hs
   rw[fy ch]at h1;obtain⟨y,os',hy,rfl⟩:=h1;rw[e6 (by omega)]at h2;obtain⟨v,ob,hg,hp⟩:=h2;have uN:∀ d,x.dst=some d->d≠t:=by rintro d hd rfl;exact rh d hd hr
   have hg':=iB (E:=E) (ts':=st.tmps) (ax st.tmps y) hg;have eg:∀ v,ft ops (dm st.tmps x.dst v) h=ft ops st.tmps h:=λv=>kH (ah st.tmps v);rcases hy with ⟨g1,rfl,rfl⟩|⟨g1,g2,g3⟩
   .obtain⟨e1,e2⟩:=rZ (ts':=st.tmps) hp;refine⟨_,(e6 (by omega)).2 ⟨v,ob,hg',e2⟩,(fy ch).2 ⟨.cG [],_,.inl ⟨(eg v).trans g1,rfl,rfl⟩,?_⟩⟩;simp only;rw[<-gJ hne,<- e1]
   obtain⟨rfl,z,rfl,hz⟩:=Gn iC hf g2 g3;rw[y0 (ga B F x) st.bR (B+t) z (Ck hs hi)]at hg';obtain⟨st1,e1,e2,e3,rfl⟩:=anM uN hp;obtain⟨e4,e5⟩:=rZ (ts':=st.tmps) e1;refine⟨_,(e6 (by omega)).2 ⟨v,ob,hg',e5⟩,(fy ch).2 ⟨.cG [],cM st1.bR (B+t) z,.inr ⟨(eg v).trans g1,?_,?_⟩,?_⟩⟩
   .rw[<-g2];exact kj (ah st.tmps v)
   .exact kZ (λu hu=>(ah st.tmps v u (tail h u hu)).symm) (hz _ e3)
   simp only;rw[gJ hne]
  cases hi
 ·
  rename_i ch cx;split at hi
  .rename_i t hf;simp only[ar,aX,gU]at hi;obtain⟨hs,hr⟩:=site hf;have iC:F≠[]:=by rintro rfl;cases hs
   rw[e6 (by omega)]at h1;obtain⟨v,ob,hg,hp⟩:=h1;have Cl:∀ d,h.dst=some d->d≠t:=by rintro d hd rfl;exact(rx d hd).1 hr
   rw[fy cx]at h2;obtain⟨y,os',hy,rfl⟩:=h2;obtain⟨e1,_⟩:=rZ (ts':=st.tmps) hp;have eg:ft ops s1.tmps x=ft ops st.tmps x:=by rw[e1];exact kH (ax st.tmps v)
   rcases hy with ⟨g1,rfl,rfl⟩|⟨g1,g2,g3⟩
   .obtain⟨_,e2⟩:=rZ (ts':=dm st.tmps x.dst (.cG [])) hp;refine⟨_,(fy cx).2 ⟨.cG [],_,.inl ⟨eg▸g1,rfl,rfl⟩,rfl⟩,(e6 (by omega)).2 ⟨v,ob,iB (λu hu=>(ah st.tmps _ u hu).symm) hg,?_⟩⟩;rw[e1,gJ hne];exact e2
   have tC:jo B F ops st.tmps x=true:=by rw[<-g2,e1];exact(kj (ax st.tmps v)).symm
   have qO:S2 E B x st.tmps s1.bR y os':=kZ (λu hu=>by rw[e1];exact ax st.tmps v u (tail x u hu)) g3;obtain⟨rfl,z,rfl,hz⟩:=Gn iC hf tC qO;obtain⟨_,e3,e4⟩:=anN (x:=z) Cl hp;refine⟨_,(fy cx).2 ⟨.cG [],cM st.bR (B+t) z,.inr ⟨eg▸g1,tC,hz _ e3.symm⟩,rfl⟩,(e6 (by omega)).2 ⟨v,ob,?_,?_⟩⟩
   .simp only;rw[y0 (ga B F h) st.bR (B+t) z (Ck hs hi)];exact iB (λu hu=>(ah st.tmps _ u hu).symm) hg
   rw[e1,gJ hne];exact e4 _
  cases hi
 ·
  rename_i ch cx;split at hi
  .rename_i t u hft Ws;simp only[mX,ne_eq]at hi;obtain⟨hs,hr⟩:=site hft;obtain⟨hs',gb⟩:=site Ws;have iC:F≠[]:=by rintro rfl;cases hs
   have hb:B+t≠B+u:=λe=>hi (bj e);rw[fy ch]at h1;obtain⟨y,os',hy,rfl⟩:=h1;rw[fy cx]at h2;obtain⟨y2,Mo,Cb,rfl⟩:=h2;simp only at Cb;have egx:ft ops (dm st.tmps h.dst y) x=ft ops st.tmps x:=kH (ax st.tmps y);have Mp:ft ops (dm st.tmps x.dst y2) h=ft ops st.tmps h:=kH (ah st.tmps y2);have efx:jo B F ops (dm st.tmps h.dst y) x=jo B F ops st.tmps x:=kj (ax st.tmps y);have Wt:jo B F ops (dm st.tmps x.dst y2) h=jo B F ops st.tmps h:=kj (ah st.tmps y2);have Wu:∀ {os os' y'},S2 E B x (dm st.tmps h.dst y) os y' os'->S2 E B x st.tmps os y' os':=λhh=>kZ (λu hu=>ax st.tmps y u (tail x u hu)) hh;have Wv:∀ {os os' y'},S2 E B h st.tmps os y' os'->S2 E B h (dm st.tmps x.dst y2) os y' os':=λhh=>kZ (λu hu=>(ah st.tmps y2 u (tail h u hu)).symm) hh;rw[egx,efx]at Cb;rcases hy with ⟨g1,rfl,rfl⟩|⟨g1,g2,g3⟩
   .refine⟨⟨dm st.tmps x.dst y2,Mo⟩,(fy cx).2 ⟨y2,Mo,?_,rfl⟩,(fy ch).2 ⟨.cG [],Mo,.inl ⟨Mp.trans g1,rfl,rfl⟩,by simp only;rw[gJ hne]⟩⟩;rcases Cb with k|⟨k1,k2,k3⟩
    .exact .inl k
    exact .inr ⟨k1,k2,Wu k3⟩
   obtain⟨rfl,z,rfl,hz⟩:=Gn iC hft g2 g3;rcases Cb with ⟨k1,rfl,rfl⟩|⟨k1,k2,k3⟩
   .exact⟨_,(fy cx).2 ⟨.cG [],st.bR,.inl ⟨k1,rfl,rfl⟩,rfl⟩,(fy ch).2 ⟨.cG [],_,.inr ⟨Mp.trans g1,Wt.trans g2,Wv g3⟩,by simp only;rw[gJ hne]⟩⟩
   obtain⟨rfl,z2,rfl,hz2⟩:=Gn iC Ws k2 (Wu k3);have q1:=hz2 st.bR (by rw[ef,bQ (λe=>hb e.symm)]);have q2:=hz (cM st.bR (B+u) z2) (by rw[ef,bQ hb]);exact⟨_,(fy cx).2 ⟨.cG [],_,.inr ⟨k1,k2,q1⟩,rfl⟩,(fy ch).2 ⟨.cG [],_,.inr ⟨Mp.trans g1,Wt.trans g2,Wv q2⟩,by simp only;rw[gJ hne,oZ _ _ _ _ _ hb]⟩⟩
  cases hi
 cases hi
theorem Mq{ops:List ay}{o:ay}(h:BU ops o=true):(∃t x lo hi mx,o.op= .slice t x lo hi mx)/\FU ops o=true/\ ∃d,o.dst=some d:=by
 unfold BU at h;split at h
 .rename_i t x lo hi mx hop;refine⟨⟨t,x,lo,hi,mx,hop⟩,h,?_⟩;unfold FU at h;split at h
  .rename_i d hd;exact⟨d,hd⟩
  cases h
 cases h
theorem anP{P:aB}{mo mo':List Ob}{t:az}{a:A}{lo hi:Option A}(h:FT a=true):yJ P mo t a lo hi=yJ P mo' t a lo hi:=by
 unfold yJ;generalize P.underlying t=u;cases u with
 |none=>cases a<;>rfl
 |some d=>cases d<;>cases a<;>first|rfl|(simp[FT]at h)
theorem Mr{ops:List ay}{o:ay}{ts:List A}{mo mo':List Ob}{v:A}{ob:Option Ob}(hF:F≠[])(h:BU ops o=true)(hs:mD F ops ts o=true)(h1:gD E B o ts mo v ob):gD E B o ts mo' v ob/\ob=none:=by
 obtain⟨⟨t,x,lo,hi,mx,hop⟩,hw,_⟩:=Mq h;have y4:FT (cQ ts x)=true:=by
  unfold mD at hs;split at hs
  .exact(hF rfl).elim
  rw[hop,hw]at hs;exact hs
 unfold gD at h1⊢;rw[hop]at h1⊢;simp only[kG,mC]at h1⊢;refine⟨⟨?_,h1.2⟩,h1.2⟩;have:dZ E mo (.slice t x lo hi mx) (cQ ts)=dZ E mo' (.slice t x lo hi mx) (cQ ts):=by
  generalize hx:cQ ts x=a at y4;cases mx with
  |none=>
   simp only[dZ,hx];exact anP y4
  |some m=>
   cases lo with
   |none=>cases hi<;>rfl
   |some l=>cases hi<;>rfl
 rw[<-this];exact h1.1
theorem anQ{ops:List ay}{h x:ay}{st s1 s2:St}(hi:Lm ops h x=true)(hF:∀ o:ay,(o=h\/o=x)->cls o.op=1-> ∀d,o.dst=some d->B+d∈F)
  (rx:∀ d,h.dst=some d->d∉dK ops x/\x.dst≠some d) (rh:∀ d,x.dst=some d->d∉dK ops h)
  (h1:Step E B F ops h st s1) (h2:Step E B F ops x s1 s2):∃ s1',Step E B F ops x st s1'/\Step E B F ops h s1' s2:=by
 have ax:∀ (ts:List A) (v:A),∀ t∈dK ops x,bT (dm ts h.dst v) t=bT ts t:=λts v t ht=>me (λe=>(rx t e).1 ht);have ah:∀ (ts:List A) (v:A),∀ t∈dK ops h,bT (dm ts x.dst v) t=bT ts t:=λts v t ht=>me (λe=>rh t e ht);have hne:∀ n,h.dst=some n->x.dst≠some n:=λn hn=>(rx n hn).2;have tail:∀ (o:ay),∀ t∈tmpsOf o.op.operands.toList,t∈dK ops o:=λo t ht=>by unfold dK;exact aL _ ht
 unfold Lm at hi;split at hi
 .rename_i ch cx;obtain⟨_,_,d,hd⟩:=Mq hi;have iC:F≠[]:=by rintro rfl;cases hF x (.inr rfl) cx d hd
  rw[fy ch]at h1;obtain⟨y,os',hy,rfl⟩:=h1;rw[e6 (by omega)]at h2;obtain⟨v,ob,hg,hp⟩:=h2;have hg':=iB (E:=E) (ts':=st.tmps) (ax st.tmps y) hg;have cy:ob=none/\kI E B F ops x st.tmps (ei (ga B F x) st.bR) v none:=by
   rcases hg' with ⟨h1,h2,h3⟩|⟨h1,h0,h2⟩
   .exact⟨h3,.inl ⟨h1,h2,rfl⟩⟩
   obtain⟨h3,h4⟩:=Mr (mo':=ei (ga B F x) st.bR) iC hi h0 h2;subst h4;exact⟨rfl,.inr ⟨h1,h0,h3⟩⟩
  obtain⟨rfl,qP⟩:=cy;simp only[gl]at hp;subst hp;refine⟨⟨dm st.tmps x.dst v,st.bR⟩,(e6 (by omega)).2 ⟨v,none,qP,rfl⟩,(fy ch).2 ⟨y,os',?_,?_⟩⟩
  .have e:=kH (ops:=ops) (o:=h) (ts:=dm st.tmps x.dst v) (ts':=st.tmps) (ah st.tmps v);rcases hy with ⟨h1,h2⟩|⟨h1,h2⟩
   .exact .inl ⟨e.trans h1,h2⟩
   exact .inr ⟨e.trans h1,(kj (ah st.tmps v)).trans h2.1,kZ (λt ht=>(ah st.tmps v t (tail h t ht)).symm) h2.2⟩
  simp only;rw[gJ hne]
 .rename_i ch cx;obtain⟨_,_,d,hd⟩:=Mq hi;have iC:F≠[]:=by rintro rfl;cases hF h (.inl rfl) ch d hd
  rw[e6 (show cls h.op≠2 by omega)]at h1;obtain⟨v,ob,hg,hp⟩:=h1;have cy:ob=none/\ ∀mo,kI E B F ops h st.tmps mo v none:=by
   rcases hg with ⟨h1,h2,h3⟩|⟨h1,h0,h2⟩
   .exact⟨h3,λmo=>.inl ⟨h1,h2,rfl⟩⟩
   have:=(Mr (mo':=[]) iC hi h0 h2).2;subst this;exact⟨rfl,λmo=>.inr ⟨h1,h0,(Mr (mo':=mo) iC hi h0 h2).1⟩⟩
  obtain⟨rfl,hg'⟩:=cy;simp only[gl]at hp;subst hp;rw[fy cx]at h2;obtain⟨y,os',hy,rfl⟩:=h2;refine⟨⟨dm st.tmps x.dst y,os'⟩,(fy cx).2 ⟨y,os',?_,rfl⟩,(e6 (show cls h.op≠2 by omega)).2 ⟨v,none,?_,?_⟩⟩
  .have e:=kH (ops:=ops) (o:=x) (ts:=dm st.tmps h.dst v) (ts':=st.tmps) (ax st.tmps v);rcases hy with ⟨h1,h2⟩|⟨h1,h2⟩
   .exact .inl ⟨e▸h1,h2⟩
   exact .inr ⟨e▸h1,(kj (ax st.tmps v)).symm.trans h2.1,kZ (λt ht=>ax st.tmps v t (tail x t ht)) h2.2⟩
  .exact iB (λt ht=>(ah st.tmps y t ht).symm) (hg' _)
  simp only[gl];rw[gJ hne]
 cases hi
theorem Ww{ops:List ay}{o:ay}(h:wF ops o=true):∃ d,o.dst=some d:=by
 unfold wF at h;split at h
 .rename_i d hd;exact⟨d,hd⟩
 cases h
theorem Ms{ops:List ay}{o:ay}(h:BV ops o=true):((∃t x,o.op= .load t x)\/(Li ops=true/\ ∃t x i,o.op= .indexAddr t x i))/\wF ops o=true/\ ∃d,o.dst=some d:=by
 unfold BV at h;split at h
 .rename_i t x hop;exact⟨.inl ⟨t,x,hop⟩,h,Ww h⟩
 .rename_i t x i hop;rw[aq]at h;exact⟨.inr ⟨h.1,t,x,i,hop⟩,h.2,Ww h.2⟩
 cases h
def o0:Ob->Bool
 | .box _=>true
 | .rr _ _ _ _ _ _ _=>true
 |_=>false
theorem y5:∀ (F:List Nat) {a b:List Ob} {id:Nat},bZ a id=bZ b id->bZ (ei F a) id=bZ (ei F b) id
 |[],a,b,id,h=>h
 |d::F,a,b,id,h=>by
  simp only[ei,ef];split
  .rfl
  exact y5 F h
theorem y6{α:Type}{b:Bool}{t e:T α}{r:α}(h:(T.ite b t e).eval=some r):t.eval=some r\/e.eval=some r:=by
 cases b
 .exact .inr h
 exact .inl h
theorem anR{P:aB}{os:List Ob}{t t':az}{x y:A}{r:Option Nat×Ob}(h:(nB P os t t' x y).eval=some r):(∃e c n el,r.2= .row e c n el)/\ ∀id,r.1=some id-> ∃e c n el,bZ os id= .row e c n el:=by
 unfold nB at h;split at h
 .cases h
 split at h
 .split at h
  .split at h
   .split at h
    .split at h
     .rw[oV]at h;unfold aK at h;rcases y6 h with h|h
      .simp only[aJ,bz]at h;subst h;exact⟨⟨_,_,_,_,rfl⟩,λid cn=>by cases cn⟩
      cases h
     .split at h
      .rename_i hg;split at h
       .rw[oV]at h;unfold aK at h;rcases y6 h with h|h
        .simp only[aJ,bz]at h;subst h;exact⟨⟨_,_,_,_,rfl⟩,λid cn=>by cases cn;exact⟨_,_,_,_,hg⟩⟩
        cases h
       cases h
      cases h
     .split at h
      .rename_i hg;split at h
       .rw[oV]at h;unfold aK at h;rcases y6 h with h|h
        .simp only[aJ,bz]at h;subst h;exact⟨⟨_,_,_,_,rfl⟩,λid cn=>by cases cn;exact⟨_,_,_,_,hg⟩⟩
        cases h
       cases h
      cases h
     cases h
    cases h
   cases h
  cases h
 cases h
theorem Wx{o:ay}{ts:List A}{os os':List Ob}{y:A}(hap:isApp o.op=true)(hs:S2 E B o ts os y os')(id:Nat):(o0 (bZ os id)=true->bZ os' id=bZ os id)/\(o0 (bZ os' id)=true->bZ os id=bZ os' id):=by
 unfold S2 at hs;split at hs
 .rename_i hop;rw[hop]at hap;cases hap
 .rename_i hop;rw[hop]at hap;cases hap
 .rename_i hop;rw[hop]at hap;cases hap
 .obtain⟨r,d,hd,h1,h2,_,rfl⟩:=hs;obtain⟨⟨e,c,n,el,hr⟩,hk⟩:=anR h1;have Wy:∀ i,o0 (bZ os i)=true->bZ (gI os r.1) i=bZ os i:=by
   intro i hc;cases fD:r.1 with
   |none=>rfl
   |some j=>
    simp only[gI,ef];split
    .rename_i hij;obtain⟨_,_,_,_,h3⟩:=hk j fD;rw[hij,h3]at hc;cases hc
    rfl
  constructor
  .intro hc;rw[ef];split
   .rename_i cn;have:=Wy id hc;rw[cn,h2]at this;rw[cn,<- this]at hc;cases hc
   exact Wy id hc
  intro hc;rw[ef]at hc⊢;split at hc
  .rw[hr]at hc;cases hc
  rename_i cn;rw[bQ cn];cases fD:r.1 with
  |none=>rfl
  |some j=>
   rw[fD]at hc;simp only[gI,ef]at hc⊢;split at hc
   .cases hc
   rename_i hne;rw[bQ hne]
 .rename_i hop;rw[hop]at hap;cases hap
 .rename_i hop;rw[hop]at hap;cases hap
 .rename_i hop;rw[hop]at hap;cases hap
 .rename_i hop;rw[hop]at hap;cases hap
 exact hs.elim
theorem anS{P:aB}{mo mo':List Ob}{t:az}{a:A}{v:A}(h:Lh a=true)(hb:∀ id,o0 (bZ mo id)=true->bZ mo' id=bZ mo id)(hv:(lG P mo t a).eval=some v):(lG P mo' t a).eval=some v:=by
 unfold lG at hv⊢;generalize jn P t=u at hv⊢;generalize gY P t=z at hv⊢;cases u with
 |none=>cases hv
 |some ag=>
  cases z with
  |none=>cases hv
  |some s=>
   cases a with
   |ptr id off=>
    simp only at hv⊢;cases hg:bZ mo id with
    |box cells=>rw[hb id (by rw[hg];rfl),hg];rw[hg]at hv;exact hv
    |de=>rw[hg]at hv;cases hv
    |dead=>rw[hg]at hv;cases hv
    |row _ _ _ _=>rw[hg]at hv;cases hv
    |lp _ _ _ _ _ _=>rw[hg]at hv;cases hv
    |mp _ _ _ _ _ _ _=>rw[hg]at hv;cases hv
    |it _ _ _ _ _ _=>rw[hg]at hv;cases hv
    |rr _ _ _ _ _ _ _=>rw[hg]at hv;cases hv
   |ap id off=>
    simp only at hv⊢;cases hg:bZ mo id with
    |box cells=>rw[hb id (by rw[hg];rfl),hg];rw[hg]at hv;exact hv
    |rr _ _ _ _ _ _ _=>rw[hb id (by rw[hg];rfl),hg];rw[hg]at hv;exact hv
    |de=>rw[hg]at hv;cases hv
    |dead=>rw[hg]at hv;cases hv
    |row _ _ _ _=>rw[hg]at hv;cases hv
    |lp _ _ _ _ _ _=>rw[hg]at hv;cases hv
    |mp _ _ _ _ _ _ _=>rw[hg]at hv;cases hv
    |it _ _ _ _ _ _=>rw[hg]at hv;cases hv
   |ip c el=>exact hv
   |_=>cases h
theorem anT{P:aB}{mo mo':List Ob}{t:az}{x i:A}(h:Lj x=true):sX P mo t x i=sX P mo' t x i:=by
 unfold sX;cases i with
 |int k n=>
  simp only;cases hu:P.underlying t with
  |none=>rfl
  |some d=>
   cases d with
   |slice e=>
    simp only;cases hz:gY P e with
    |none=>cases x<;>first|(cases h;done)|rfl
    |some z=>cases x<;>first|(cases h;done)|rfl
   |_=>rfl
 |_=>rfl
theorem Mt{ops:List ay}{o:ay}{ts:List A}{os os':List Ob}{G:List Nat}{v:A}{ob:Option Ob}(hF:F≠[])(h:BV ops o=true)(hs:mD F ops ts o=true)(hb:∀ id,o0 (bZ os id)=true->bZ os' id=bZ os id)(h1:gD E B o ts (ei G os) v ob):gD E B o ts (ei G os') v ob/\ob=none:=by
 obtain⟨hop,hw,_⟩:=Ms h;rcases hop with ⟨t,x,hop⟩|⟨ha2,t,x,i,hop⟩
 .have y4:Lh (cQ ts x)=true:=by
   unfold mD at hs;split at hs
   .exact(hF rfl).elim
   rw[hop,hw]at hs;simp only[aq]at hs
   replace hs:=hs.1
   split at hs
   .rename_i h;exact h
   cases hs
  unfold gD at h1⊢;rw[hop]at h1⊢;simp only[kG,mC]at h1⊢;refine⟨⟨?_,h1.2⟩,h1.2⟩;simp only[dZ]at h1⊢;refine anS y4 (λid hc=>?_) h1.1;rcases Cg G os id with e|e
  .rw[e]at hc⊢;have h2:=hb id hc;have:=y5 G (a:=os) (b:=os') (id:=id) h2.symm;rw[<-this,e]
  rw[e]at hc;cases hc
 have y4:Lj (cQ ts x)=true:=by
  unfold mD at hs;split at hs
  .exact(hF rfl).elim
  rw[hop,hw,ha2]at hs;simp only at hs;split at hs
  .rename_i h;exact h
  cases hs
 unfold gD at h1⊢;rw[hop]at h1⊢;simp only[kG,mC]at h1⊢;refine⟨⟨?_,h1.2⟩,h1.2⟩;simp only[dZ]at h1⊢;rw[<-anT y4 (mo:=ei G os)];exact h1.1
theorem anU{ops:List ay}{h x:ay}{st s1 s2:St}(hi:Ln ops h x=true)(hF:∀ o:ay,(o=h\/o=x)->cls o.op=1-> ∀d,o.dst=some d->B+d∈F)
  (rx:∀ d,h.dst=some d->d∉dK ops x/\x.dst≠some d) (rh:∀ d,x.dst=some d->d∉dK ops h)
  (h1:Step E B F ops h st s1) (h2:Step E B F ops x s1 s2):∃ s1',Step E B F ops x st s1'/\Step E B F ops h s1' s2:=by
 have ax:∀ (ts:List A) (v:A),∀ t∈dK ops x,bT (dm ts h.dst v) t=bT ts t:=λts v t ht=>me (λe=>(rx t e).1 ht);have ah:∀ (ts:List A) (v:A),∀ t∈dK ops h,bT (dm ts x.dst v) t=bT ts t:=λts v t ht=>me (λe=>rh t e ht);have hne:∀ n,h.dst=some n->x.dst≠some n:=λn hn=>(rx n hn).2;have tail:∀ (o:ay),∀ t∈tmpsOf o.op.operands.toList,t∈dK ops o:=λo t ht=>by unfold dK;exact aL _ ht
 unfold Ln at hi;split at hi
 .rename_i ch cx;rw[aq]at hi;obtain⟨hap,hi⟩:=hi;obtain⟨_,_,d,hd⟩:=Ms hi;have iC:F≠[]:=by rintro rfl;cases hF x (.inr rfl) cx d hd
  rw[fy ch]at h1;obtain⟨y,os',hy,rfl⟩:=h1;rw[e6 (by omega)]at h2;obtain⟨v,ob,hg,hp⟩:=h2;have hg':=iB (E:=E) (ts':=st.tmps) (ax st.tmps y) hg;have Mu:∀ id,o0 (bZ os' id)=true->bZ st.bR id=bZ os' id:=by
   rcases hy with ⟨_,_,rfl⟩|⟨_,_,h2⟩
   .exact λ_ _=>rfl
   exact λid=>(Wx hap h2 id).2
  have cy:ob=none/\kI E B F ops x st.tmps (ei (ga B F x) st.bR) v none:=by
   rcases hg' with ⟨h1,h2,h3⟩|⟨h1,h0,h2⟩
   .exact⟨h3,.inl ⟨h1,h2,rfl⟩⟩
   obtain⟨h3,h4⟩:=Mt (os':=st.bR) iC hi h0 Mu h2;subst h4;exact⟨rfl,.inr ⟨h1,h0,h3⟩⟩
  obtain⟨rfl,qP⟩:=cy;simp only[gl]at hp;subst hp;refine⟨⟨dm st.tmps x.dst v,st.bR⟩,(e6 (by omega)).2 ⟨v,none,qP,rfl⟩,(fy ch).2 ⟨y,os',?_,?_⟩⟩
  .have e:=kH (ops:=ops) (o:=h) (ts:=dm st.tmps x.dst v) (ts':=st.tmps) (ah st.tmps v);rcases hy with ⟨h1,h2⟩|⟨h1,h2⟩
   .exact .inl ⟨e.trans h1,h2⟩
   exact .inr ⟨e.trans h1,(kj (ah st.tmps v)).trans h2.1,kZ (λt ht=>(ah st.tmps v t (tail h t ht)).symm) h2.2⟩
  simp only;rw[gJ hne]
 .rename_i ch cx;rw[aq]at hi;obtain⟨hap,hi⟩:=hi;obtain⟨_,_,d,hd⟩:=Ms hi;have iC:F≠[]:=by rintro rfl;cases hF h (.inl rfl) ch d hd
  rw[e6 (show cls h.op≠2 by omega)]at h1;obtain⟨v,ob,hg,hp⟩:=h1;have Cm:ob=none:=by
   rcases hg with ⟨h1,h2,h3⟩|⟨h1,h0,h2⟩
   .exact h3
   exact(Mt (os':=st.bR) iC hi h0 (λ_ _=>rfl) h2).2
  subst Cm;simp only[gl]at hp;subst hp;rw[fy cx]at h2;obtain⟨y,os',hy,rfl⟩:=h2;simp only at hy;have Mu:∀ id,o0 (bZ st.bR id)=true->bZ os' id=bZ st.bR id:=by
   rcases hy with ⟨_,_,rfl⟩|⟨_,_,h2⟩
   .exact λ_ _=>rfl
   exact λid=>(Wx hap h2 id).1
  have hg':kI E B F ops h st.tmps (ei (ga B F h) os') v none:=by
   rcases hg with ⟨h1,h2,h3⟩|⟨h1,h0,h2⟩
   .exact .inl ⟨h1,h2,rfl⟩
   exact .inr ⟨h1,h0,(Mt (os':=os') iC hi h0 Mu h2).1⟩
  refine⟨⟨dm st.tmps x.dst y,os'⟩,(fy cx).2 ⟨y,os',?_,rfl⟩,(e6 (show cls h.op≠2 by omega)).2 ⟨v,none,?_,?_⟩⟩
  .have e:=kH (ops:=ops) (o:=x) (ts:=dm st.tmps h.dst v) (ts':=st.tmps) (ax st.tmps v);rcases hy with ⟨h1,h2⟩|⟨h1,h2⟩
   .exact .inl ⟨e▸h1,h2⟩
   exact .inr ⟨e▸h1,(kj (ax st.tmps v)).symm.trans h2.1,kZ (λt ht=>ax st.tmps v t (tail x t ht)) h2.2⟩
  .exact iB (λt ht=>(ah st.tmps y t ht).symm) hg'
  simp only[gl];rw[gJ hne]
 cases hi
def tD:A->Option Nat
 | .ptr i _=>some i
 | .rp i _ _ _=>some i
 | .ap i _=>some i
 |_=>none
theorem Wz{P:aB}{mo mo':List Ob}{t:az}{a:A}(h:∀ i,tD a=some i->bZ mo i=bZ mo' i):lG P mo t a=lG P mo' t a:=by
 unfold lG;cases jn P t with
 |none=>rfl
 |some ag=>
  cases gY P t with
  |none=>rfl
  |some s=>
   cases a with
   |ptr i off=>simp only[h i rfl]
   |rp i c k off=>simp only[h i rfl]
   |ap i k=>simp only[h i rfl]
   |_=>rfl
theorem anV{P:aB}{mo:List Ob}{t:az}{i c k off:Nat}{v:A}(h:(lG P mo t (.rp i c k off)).eval=some v):∃ e c n el,bZ mo i= .row e c n el:=by
 unfold lG at h;split at h
 .simp only at h;split at h
  .rename_i hr;exact⟨_,_,_,_,hr⟩
  cases h
 cases h
theorem WA{P:aB}{mo:List Ob}{t:az}{a:A}{i:Nat}{v:A}(ha:(∃off,a= .ptr i off)\/(∃k,a= .ap i k))(h:(lG P mo t a).eval=some v):o0 (bZ mo i)=true:=by
 unfold lG at h;split at h
 .rcases ha with ⟨off,rfl⟩|⟨k,rfl⟩
  .simp only at h;split at h
   .rename_i hr;rw[hr];rfl
   cases h
  simp only at h;split at h
  .rename_i hr;rw[hr];rfl
  .rename_i hr;rw[hr];rfl
  cases h
 cases h
theorem Mv{P:aB}{os:List Ob}{t:az}{a x:A}{r:Nat×Ob}(h:(l9 P os t a x).eval=some r):
  (((∃off,a= .ptr r.1 off)\/(∃k,a= .ap r.1 k))/\o0 (bZ os r.1)=true/\o0 r.2=true)\/((∃c k off,a= .rp r.1 c k off)/\(∃e c n el,bZ os r.1= .row e c n el)/\ ∃e c n el,r.2= .row e c n el):=by
 unfold l9 at h;split at h
 .split at h
  .cases a with
   |ptr id off=>
    simp only at h;split at h
    .rename_i hg;split at h
     .simp only[aJ,bz]at h;subst h;exact .inl ⟨.inl ⟨_,rfl⟩,by rw[hg];rfl,rfl⟩
     cases h
    cases h
   |ap id k=>
    simp only at h;split at h
    .rename_i hg;split at h
     .split at h
      .simp only[aK,aJ]at h;split at h
       .simp only[bz]at h;subst h;exact .inl ⟨.inr ⟨_,rfl⟩,by rw[hg];rfl,rfl⟩
       cases h
      cases h
     cases h
    .rename_i hg;split at h
     .simp only[aK,aJ]at h;split at h
      .simp only[bz]at h;subst h;exact .inl ⟨.inr ⟨_,rfl⟩,by rw[hg];rfl,rfl⟩
      cases h
     cases h
    cases h
   |rp id c k off=>
    simp only at h;split at h
    .rename_i hg;split at h
     .rw[oV]at h;simp only[aK,aJ]at h;split at h
      .simp only[bz]at h;subst h;exact .inr ⟨⟨_,_,_,rfl⟩,⟨_,_,_,_,hg⟩,_,_,_,_,rfl⟩
      cases h
     cases h
    cases h
   |_=>cases h
  cases h
 cases h
theorem WB{ops:List ay}{o c:ay}{q:Nat}(h:pM ops o c=some q):(∃t a,o.op= .load t a)/\ ∃t b x,c.op= .store t b x/\hQ ops b=some q:=by
 unfold pM at h;split at h
 .rename_i t a t' b x h1 h2;refine⟨⟨t,a,h1⟩,t',b,x,h2,?_⟩;split at h
  .rename_i q' hq;split at h
   .split at h
    .cases h
    cases h;exact hq
   split at h
   .cases h;exact hq
   cases h
  cases h
 cases h
theorem anW{ops:List ay}{o c c':ay}{q:Nat}(h:pM ops o c=some q){t t':az}{b b' x x':aA}(hc:c.op= .store t b x)(B3:c'.op= .store t' b' x')(hr:hQ ops b'=hQ ops b):pM ops o c'=some q:=by
 unfold pM at h⊢;rw[hc]at h;rw[B3];cases ho:o.op with
 |load ty a=>rw[ho]at h;simp only at h ⊢;rw[hr];exact h
 |_=>rw[ho]at h;cases h
theorem WC{la sa gq:A}(h1:yN la gq=true)(h2:yO sa gq=true){os os':List Ob}{P:aB}{ty ty':az}{y v:A}{r:Nat×Ob}(hs:(l9 P os ty sa y).eval=some r)(ho:os'=cM os r.1 r.2){m:List Ob}{G:List Nat}(hm:m=os\/m=os')(hl:(lG P (ei G m) ty' la).eval=some v):∀ i,tD la=some i->i≠r.1:=by
 have key:=Mv hs;have LK:(o0 (bZ m r.1)=true)/\((∃off,sa= .ptr r.1 off)\/(∃k,sa= .ap r.1 k))\/(∃e c n el,bZ m r.1= .row e c n el)/\(∃c k off,sa= .rp r.1 c k off):=by
  rcases key with ⟨k1,k2,k3⟩|⟨k1,⟨e,c,n,el,k2⟩,⟨e',c',n',el',k3⟩⟩
  .left;refine⟨?_,k1⟩;rcases hm with rfl|rfl
   .exact k2
   rw[ho,ef,bS rfl];exact k3
  right;refine⟨?_,k1⟩;rcases hm with rfl|rfl
  .exact⟨e,c,n,el,k2⟩
  exact⟨e',c',n',el',by rw[ho,ef,bS rfl];exact k3⟩
 have Mw:∀ i ob,bZ (ei G m) i=ob->ob≠ .dead->bZ m i=ob:=by
  intro i ob h hne;rcases Cg G m i with e|e
  .rw[<-e];exact h
  rw[e]at h;exact(hne h.symm).elim
 intro i hi;rintro rfl;rcases LK with ⟨hc,hsa⟩|⟨⟨e,c,n,el,hc⟩,c',k',off',hsa⟩
 .cases la with
  |ptr j off=>
   simp only[tD,bz]at hi;subst hi;rcases hsa with ⟨o2,rfl⟩|⟨k2,rfl⟩
   .cases gq with
    |ptr q o3=>simp only[yN,yO,ar]at h1 h2;rw[h2]at h1;cases h1
    |_=>cases h2
   cases gq<;>cases h2
  |ap j k=>
   simp only[tD,bz]at hi;subst hi;rcases hsa with ⟨o2,rfl⟩|⟨k2,rfl⟩
   .cases gq with
    |ptr q o3=>simp only[yN,yO,ar]at h1 h2;rw[h2]at h1;cases h1
    |_=>cases h2
   cases gq<;>cases h2
  |rp j c2 k off=>
   simp only[tD,bz]at hi;subst hi;obtain⟨e,c3,n,el,hg⟩:=anV hl;have:=Mw _ _ hg (by intro h;cases h);rw[this]at hc;cases hc
  |_=>cases hi
 subst hsa;cases la with
 |ptr j off=>
  simp only[tD,bz]at hi;subst hi;have hg:=WA (.inl ⟨_,rfl⟩) hl;have:=Mw _ _ rfl (by intro h;rw[h]at hg;cases hg);rw[<-this,hc]at hg;cases hg
 |ap j k=>
  simp only[tD,bz]at hi;subst hi;have hg:=WA (.inr ⟨_,rfl⟩) hl;have:=Mw _ _ rfl (by intro h;rw[h]at hg;cases hg);rw[<-this,hc]at hg;cases hg
 |rp j c2 k off=>
  cases gq<;>first|(cases h1;done)|(cases h2;done)
 |_=>cases hi
theorem WE{ops:List ay}{b0:ay}(h:ops.any (λo=>match o.op,b0.op with| .store _ x _,.store _ y _=>hQ ops x==hQ ops y|_,_=>false)=true):∃ o∈ops,∃ t x z t' y z',o.op= .store t x z/\b0.op= .store t' y z'/\hQ ops x=hQ ops y:=by
 rw[ba]at h;obtain⟨o,ho,h⟩:=h;split at h
 .rename_i t x z t' y z' h1 h2;exact⟨o,ho,t,x,z,t',y,z',h1,h2,by simpa using h⟩
 cases h
theorem WH{ops:List ay}{o c:ay}{ts:List A}{q:Nat}{t:az}{a:aA}(hF:F≠[])(ho:o.op= .load t a)(hs:mD F ops ts o=true)(hp:pM ops o c=some q)(oc:ops.any (λo=>match o.op,c.op with| .store _ x _,.store _ y _=>hQ ops x==hQ ops y|_,_=>false)=true):yN (cQ ts a) (bT ts q)=true:=by
 obtain⟨o',ho',t1,x1,z1,t2,y2,z2,e1,e2,e3⟩:=WE oc;have hp':=anW hp e2 e1 e3;have hq:=anK ops ho' hp';unfold mD at hs;split at hs
 .exact(hF rfl).elim
 rw[ho]at hs;simp only[aq]at hs;exact Mn (f:=λq=>yN (cQ ts a) (bT ts q)) hs.2 hq
theorem Gq{ops:List ay}{c:ay}{ts:List A}{q:Nat}{t:az}{b x:aA}(hF:F≠[])(hc:c.op= .store t b x)(hr:hQ ops b=some q)(hs:wD F ops ts c=true):yO (cQ ts b) (bT ts q)=true:=by
 unfold wD at hs;split at hs
 .exact(hF rfl).elim
 rw[hc]at hs;simp only[stM,hr]at hs;exact hs
theorem anX{ops:List ay}{h x:ay}{st s1 s2:St}(hi:Lo ops h x=true)(hF:∀ o:ay,(o=h\/o=x)->cls o.op=1-> ∀d,o.dst=some d->B+d∈F)
  (rx:∀ d,h.dst=some d->d∉dK ops x/\x.dst≠some d) (rh:∀ d,x.dst=some d->d∉dK ops h)
  (h1:Step E B F ops h st s1) (h2:Step E B F ops x s1 s2):∃ s1',Step E B F ops x st s1'/\Step E B F ops h s1' s2:=by
 have ax:∀ (ts:List A) (v:A),∀ t∈dK ops x,bT (dm ts h.dst v) t=bT ts t:=λts v t ht=>me (λe=>(rx t e).1 ht);have ah:∀ (ts:List A) (v:A),∀ t∈dK ops h,bT (dm ts x.dst v) t=bT ts t:=λts v t ht=>me (λe=>rh t e ht);have hne:∀ n,h.dst=some n->x.dst≠some n:=λn hn=>(rx n hn).2;have tail:∀ (o:ay),∀ t∈tmpsOf o.op.operands.toList,t∈dK ops o:=λo t ht=>by unfold dK;exact aL _ ht
 unfold Lo at hi;split at hi
 .rename_i ch cx;rw[aq,aq]at hi;obtain⟨⟨wM,wN⟩,oc⟩:=hi;obtain⟨d,hd⟩:=bu.1 wM;obtain⟨q,hp⟩:=bu.1 wN;obtain⟨⟨lt,la,hlo⟩,Mx,sb,sx,hst,hroot⟩:=WB hp;have iC:F≠[]:=by rintro rfl;cases hF x (.inr rfl) cx d hd
  rw[fy ch]at h1;obtain⟨y,os',hy,rfl⟩:=h1;rw[e6 (by omega)]at h2;obtain⟨v,ob,hg,hp2⟩:=h2;have hg':=iB (E:=E) (ts':=st.tmps) (ax st.tmps y) hg;have cy:ob=none/\kI E B F ops x st.tmps (ei (ga B F x) st.bR) v none:=by
   rcases hg' with ⟨g1,g2,g3⟩|⟨g1,g0,g2⟩
   .exact⟨g3,.inl ⟨g1,g2,rfl⟩⟩
   have hload:(lG E.P (ei (ga B F x) os') lt (cQ st.tmps la)).eval=some v/\ob=none:=by
    unfold gD at g2;rw[hlo]at g2;simpa only[kG,mC,dZ]using g2
   refine⟨hload.2,.inr ⟨g1,g0,?_⟩⟩;have ng:(lG E.P (ei (ga B F x) st.bR) lt (cQ st.tmps la)).eval=some v:=by
    rcases hy with ⟨_,_,rfl⟩|⟨_,iu,jh⟩
    .exact hload.1
    unfold S2 at jh;rw[hst]at jh;obtain⟨r,hr,_,ho⟩:=jh;have hsep:=WH iC hlo g0 hp oc;have hsame:=Gq iC hst hroot (Gm iu);have hn:=WC hsep hsame hr ho (.inr rfl) hload.1;rw[<-hload.1];congr 1;refine Wz λi pS=>y5 _ ?_;rw[ho,ef,bQ (hn i pS)]
   unfold gD;rw[hlo];simp only[kG,mC,dZ];exact⟨ng,bP⟩
  obtain⟨rfl,qP⟩:=cy;simp only[gl]at hp2;subst hp2;refine⟨⟨dm st.tmps x.dst v,st.bR⟩,(e6 (by omega)).2 ⟨v,none,qP,rfl⟩,(fy ch).2 ⟨y,os',?_,?_⟩⟩
  .have e:=kH (ops:=ops) (o:=h) (ts:=dm st.tmps x.dst v) (ts':=st.tmps) (ah st.tmps v);rcases hy with ⟨h1,h2⟩|⟨h1,h2⟩
   .exact .inl ⟨e.trans h1,h2⟩
   exact .inr ⟨e.trans h1,(kj (ah st.tmps v)).trans h2.1,kZ (λt ht=>(ah st.tmps v t (tail h t ht)).symm) h2.2⟩
  simp only;rw[gJ hne]
 .rename_i ch cx;rw[aq,aq]at hi;obtain⟨⟨wM,wN⟩,oc⟩:=hi;obtain⟨d,hd⟩:=bu.1 wM;obtain⟨q,hp⟩:=bu.1 wN;obtain⟨⟨lt,la,hlo⟩,Mx,sb,sx,hst,hroot⟩:=WB hp;have iC:F≠[]:=by rintro rfl;cases hF h (.inl rfl) ch d hd
  rw[e6 (show cls h.op≠2 by omega)]at h1;obtain⟨v,ob,hg,hp2⟩:=h1;have Cm:ob=none:=by
   rcases hg with ⟨_,_,g3⟩|⟨_,_,g2⟩
   .exact g3
   unfold gD at g2;rw[hlo]at g2;exact g2.2
  subst Cm;simp only[gl]at hp2;subst hp2;rw[fy cx]at h2;obtain⟨y,os',hy,rfl⟩:=h2;simp only at hy;have hg':kI E B F ops h st.tmps (ei (ga B F h) os') v none:=by
   rcases hg with ⟨g1,g2,g3⟩|⟨g1,g0,g2⟩
   .exact .inl ⟨g1,g2,rfl⟩
   refine .inr ⟨g1,g0,?_⟩;have hload:(lG E.P (ei (ga B F h) st.bR) lt (cQ st.tmps la)).eval=some v:=by
    unfold gD at g2;rw[hlo]at g2;exact g2.1
   have ng:(lG E.P (ei (ga B F h) os') lt (cQ st.tmps la)).eval=some v:=by
    rcases hy with ⟨_,_,rfl⟩|⟨_,iu,jh⟩
    .exact hload
    unfold S2 at jh;rw[hst]at jh;obtain⟨r,hr,_,ho⟩:=jh;have hsep:=WH iC hlo g0 hp oc;have My:jo B F ops st.tmps x=true:=(kj (ax st.tmps v)).symm.trans iu;have hsame:=Gq iC hst hroot (Gm My);have Mz:cQ (dm st.tmps h.dst v) sb=cQ st.tmps sb:=uM (l:=x.op.operands.toList) (λt ht=>ax st.tmps v t (tail x t ht)) (by rw[hst];simp[aD]);rw[Mz]at hr;have hn:=WC hsep hsame hr ho (.inl rfl) hload;rw[<-hload];congr 1;refine(Wz λi pS=>y5 _ ?_).symm;rw[ho,ef,bQ (hn i pS)]
   unfold gD;rw[hlo];simp only[kG,mC,dZ];exact⟨ng,bP⟩
  refine⟨⟨dm st.tmps x.dst y,os'⟩,(fy cx).2 ⟨y,os',?_,rfl⟩,(e6 (show cls h.op≠2 by omega)).2 ⟨v,none,?_,?_⟩⟩
  .have e:=kH (ops:=ops) (o:=x) (ts:=dm st.tmps h.dst v) (ts':=st.tmps) (ax st.tmps v);rcases hy with ⟨h1,h2⟩|⟨h1,h2⟩
   .exact .inl ⟨e▸h1,h2⟩
   exact .inr ⟨e▸h1,(kj (ax st.tmps v)).symm.trans h2.1,kZ (λt ht=>ax st.tmps v t (tail x t ht)) h2.2⟩
  .exact iB (λt ht=>(ah st.tmps y t ht).symm) hg'
  simp only[gl];rw[gJ hne]
 cases hi
theorem WI{ops:List ay}{o c:ay}{q:Nat}(h:qH ops o c=some q):(∃s d a,o.op= .convert s d a)/\ ∃t b x,c.op= .store t b x/\hQ ops b=some q:=by
 unfold qH at h;split at h
 .rename_i s d a t b x h1 h2;exact⟨⟨s,d,a,h1⟩,t,b,x,h2,h⟩
 cases h
theorem anY{ops:List ay}{o c:ay}{q:Nat}(l:List ay)(hc:c∈l)(hp:qH ops o c=some q):q∈rR ops o l:=by
 induction l with
 |nil=>cases hc
 |cons a l ih=>
  show q∈(match qH ops o a with|some q=>q::rR ops o l|none=>rR ops o l);rcases aO.1 hc with e|hc
  .rw[<-e,hp];exact aN
  cases qH ops o a with
  |none=>exact ih hc
  |some p=>exact aM _ (ih hc)
def MA:A->Prop
 | .own _| .int _ _| .sl _ _ _| .bN=>True
 |_=>False
theorem MB{ops:List ay}{o c:ay}{ts:List A}{q:Nat}{s d:az}{a:aA}(hF:F≠[])(ho:o.op= .convert s d a)(hs:mD F ops ts o=true)(hp:qH ops o c=some q)(oc:ops.any (λo=>match o.op,c.op with| .store _ x _,.store _ y _=>hQ ops x==hQ ops y|_,_=>false)=true):
  (∀id,cQ ts a= .own id-> ∃i off,bT ts q= .ptr i off)/\MA (cQ ts a):=by
 obtain⟨o',ho',t1,x1,z1,t2,y2,z2,e1,e2,e3⟩:=WE oc;have hp':qH ops o o'=some q:=by
  unfold qH at hp⊢;rw[ho,e2]at hp;rw[ho,e1];simp only at hp⊢;rw[e3];exact hp
 have hq:=anY ops ho' hp';unfold mD at hs;split at hs
 .exact(hF rfl).elim
 rw[ho]at hs;simp only at hs;unfold Lf at hs;split at hs
 .rename_i id cn;refine⟨λ_ _=>?_,by rw[cn];trivial⟩;have:=Mn (f:=λq=>FQ (bT ts q)) hs hq
  revert this
  cases bT ts q with
  |ptr i off=>intro _;exact⟨i,off,rfl⟩
  |_=>intro h;cases h
 .rename_i h;exact⟨(λid e=>by rw[h]at e;cases e),by rw[h];trivial⟩
 .rename_i h;exact⟨(λid e=>by rw[h]at e;cases e),by rw[h];trivial⟩
 .rename_i h;exact⟨(λid e=>by rw[h]at e;cases e),by rw[h];trivial⟩
 split at hs
 .rename_i h;rw[h]at hq;cases hq
 cases hs
theorem MC{o:ay}{ts:List A}{mo:List Ob}{v:A}{ob:Option Ob}{s d:az}{a:aA}(ho:o.op= .convert s d a)(ha:MA (cQ ts a))(h:gD E B o ts mo v ob):(oW E.P mo s d (cQ ts a)).eval=some v/\ob=none:=by
 unfold gD at h;rw[ho]at h;simp only[kG]at h;split at h
 .obtain⟨_,x,_,hx,_⟩:=h;exfalso;simp only[sY]at hx
  revert ha hx
  cases cQ ts a<;>intro ha hx<;>first|exact ha|(split at hx<;>first|(rename_i hq;cases hq;done)|(simp[aJ]at hx))
 simpa only[dZ]using h
theorem WJ{o:ay}{ts:List A}{mo:List Ob}{v:A}{s d:az}{a:aA}(ho:o.op= .convert s d a)(_ha:MA (cQ ts a))(h:(oW E.P mo s d (cQ ts a)).eval=some v):gD E B o ts mo v none:=by
 unfold gD;rw[ho];simp only[kG];split
 .rename_i jh;exfalso;simp only[mC]at jh;split at jh
  .rename_i e h1 h2;unfold oW at h;rw[h1,h2]at h;simp[aJ]at h
  cases jh
 exact⟨by simpa only[dZ]using h,bP⟩
theorem WK{P:aB}{m m':List Ob}{s d:az}{a:A}(h:∀ id,a= .own id->bZ m id=bZ m' id):oW P m s d a=oW P m' s d a:=by
 cases a with
 |own id=>
  have e:=h id rfl;unfold oW;split<;>first|rfl|skip
  split<;>first|rfl|skip
  simp only;rw[e]
 |_=>rfl
theorem WL{a sa gq:A}(h1:∀ id,a= .own id-> ∃i off,gq= .ptr i off)(h2:yO sa gq=true){os os':List Ob}{P:aB}{ty:az}{y v:A}{r:Nat×Ob}(hs:(l9 P os ty sa y).eval=some r)(ho:os'=cM os r.1 r.2){m:List Ob}{G:List Nat}(hm:m=os\/m=os'){s d:az}(hl:(oW P (ei G m) s d a).eval=some v):∀ id,a= .own id->id≠r.1:=by
 intro id cn e;subst cn;obtain⟨i,off,rfl⟩:=h1 id rfl;have F6:o0 (bZ m id)=true:=by
  rcases Mv hs with ⟨_,k2,k3⟩|⟨⟨c,k,off',k1⟩,_⟩
  .rcases hm with rfl|rfl
   .rw[e];exact k2
   rw[ho,ef,bS e];exact k3
  rw[k1]at h2;cases h2
 have hng:o0 (bZ (ei G m) id)=true\/bZ (ei G m) id= .dead:=by
  rcases Cg G m id with h|h
  .left;rw[h];exact F6
  exact .inr h
 unfold oW at hl;split at hl
 .cases hl
 .cases hl
 .split at hl
  .simp only at hl;cases hg:bZ (ei G m) id with
   |row e c n el=>rcases hng with h|h<;>(rw[hg]at h;cases h)
   |_=>rw[hg]at hl;cases hl
  cases hl
 cases hl
theorem anZ{ops:List ay}{h x:ay}{st s1 s2:St}(hi:Lp ops h x=true)(hF:∀ o:ay,(o=h\/o=x)->cls o.op=1-> ∀d,o.dst=some d->B+d∈F)
  (rx:∀ d,h.dst=some d->d∉dK ops x/\x.dst≠some d) (rh:∀ d,x.dst=some d->d∉dK ops h)
  (h1:Step E B F ops h st s1) (h2:Step E B F ops x s1 s2):∃ s1',Step E B F ops x st s1'/\Step E B F ops h s1' s2:=by
 have ax:∀ (ts:List A) (v:A),∀ t∈dK ops x,bT (dm ts h.dst v) t=bT ts t:=λts v t ht=>me (λe=>(rx t e).1 ht);have ah:∀ (ts:List A) (v:A),∀ t∈dK ops h,bT (dm ts x.dst v) t=bT ts t:=λts v t ht=>me (λe=>rh t e ht);have hne:∀ n,h.dst=some n->x.dst≠some n:=λn hn=>(rx n hn).2;have tail:∀ (o:ay),∀ t∈tmpsOf o.op.operands.toList,t∈dK ops o:=λo t ht=>by unfold dK;exact aL _ ht
 unfold Lp at hi;split at hi
 .rename_i ch cx;rw[aq,aq]at hi;obtain⟨⟨wM,wN⟩,oc⟩:=hi;obtain⟨d,hd⟩:=bu.1 wM;obtain⟨q,hp⟩:=bu.1 wN;obtain⟨⟨cs,cd,la,hlo⟩,Mx,sb,sx,hst,hroot⟩:=WI hp;have iC:F≠[]:=by rintro rfl;cases hF x (.inr rfl) cx d hd
  rw[fy ch]at h1;obtain⟨y,os',hy,rfl⟩:=h1;rw[e6 (by omega)]at h2;obtain⟨v,ob,hg,hp2⟩:=h2;have hg':=iB (E:=E) (ts':=st.tmps) (ax st.tmps y) hg;have cy:ob=none/\kI E B F ops x st.tmps (ei (ga B F x) st.bR) v none:=by
   rcases hg' with ⟨g1,g2,g3⟩|⟨g1,g0,g2⟩
   .exact⟨g3,.inl ⟨g1,g2,rfl⟩⟩
   have tE:=MB iC hlo g0 hp oc;have hload:=MC hlo tE.2 g2;refine⟨hload.2,.inr ⟨g1,g0,?_⟩⟩;have ng:(oW E.P (ei (ga B F x) st.bR) cs cd (cQ st.tmps la)).eval=some v:=by
    rcases hy with ⟨_,_,rfl⟩|⟨_,iu,jh⟩
    .exact hload.1
    unfold S2 at jh;rw[hst]at jh;obtain⟨r,hr,_,ho⟩:=jh;have hsame:=Gq iC hst hroot (Gm iu);have hn:=WL tE.1 hsame hr ho (.inr rfl) hload.1;rw[<-hload.1];congr 1;refine WK λi pS=>y5 _ ?_;rw[ho,ef,bQ (hn i pS)]
   exact WJ hlo tE.2 ng
  obtain⟨rfl,qP⟩:=cy;simp only[gl]at hp2;subst hp2;refine⟨⟨dm st.tmps x.dst v,st.bR⟩,(e6 (by omega)).2 ⟨v,none,qP,rfl⟩,(fy ch).2 ⟨y,os',?_,?_⟩⟩
  .have e:=kH (ops:=ops) (o:=h) (ts:=dm st.tmps x.dst v) (ts':=st.tmps) (ah st.tmps v);rcases hy with ⟨h1,h2⟩|⟨h1,h2⟩
   .exact .inl ⟨e.trans h1,h2⟩
   exact .inr ⟨e.trans h1,(kj (ah st.tmps v)).trans h2.1,kZ (λt ht=>(ah st.tmps v t (tail h t ht)).symm) h2.2⟩
  simp only;rw[gJ hne]
 .rename_i ch cx;rw[aq,aq]at hi;obtain⟨⟨wM,wN⟩,oc⟩:=hi;obtain⟨d,hd⟩:=bu.1 wM;obtain⟨q,hp⟩:=bu.1 wN;obtain⟨⟨cs,cd,la,hlo⟩,Mx,sb,sx,hst,hroot⟩:=WI hp;have iC:F≠[]:=by rintro rfl;cases hF h (.inl rfl) ch d hd
  rw[e6 (show cls h.op≠2 by omega)]at h1;obtain⟨v,ob,hg,hp2⟩:=h1;have Cm:ob=none:=by
   rcases hg with ⟨_,_,g3⟩|⟨_,g0,g2⟩
   .exact g3
   exact(MC hlo (MB iC hlo g0 hp oc).2 g2).2
  subst Cm;simp only[gl]at hp2;subst hp2;rw[fy cx]at h2;obtain⟨y,os',hy,rfl⟩:=h2;simp only at hy;have hg':kI E B F ops h st.tmps (ei (ga B F h) os') v none:=by
   rcases hg with ⟨g1,g2,g3⟩|⟨g1,g0,g2⟩
   .exact .inl ⟨g1,g2,rfl⟩
   refine .inr ⟨g1,g0,?_⟩;have tE:=MB iC hlo g0 hp oc;have hload:=(MC hlo tE.2 g2).1;have ng:(oW E.P (ei (ga B F h) os') cs cd (cQ st.tmps la)).eval=some v:=by
    rcases hy with ⟨_,_,rfl⟩|⟨_,iu,jh⟩
    .exact hload
    unfold S2 at jh;rw[hst]at jh;obtain⟨r,hr,_,ho⟩:=jh;have My:jo B F ops st.tmps x=true:=(kj (ax st.tmps v)).symm.trans iu;have hsame:=Gq iC hst hroot (Gm My);have Mz:cQ (dm st.tmps h.dst v) sb=cQ st.tmps sb:=uM (l:=x.op.operands.toList) (λt ht=>ax st.tmps v t (tail x t ht)) (by rw[hst];simp[aD]);rw[Mz]at hr;have hn:=WL tE.1 hsame hr ho (.inl rfl) hload;rw[<-hload];congr 1;refine(WK λi pS=>y5 _ ?_).symm;rw[ho,ef,bQ (hn i pS)]
   exact WJ hlo tE.2 ng
  refine⟨⟨dm st.tmps x.dst y,os'⟩,(fy cx).2 ⟨y,os',?_,rfl⟩,(e6 (show cls h.op≠2 by omega)).2 ⟨v,none,?_,?_⟩⟩
  .have e:=kH (ops:=ops) (o:=x) (ts:=dm st.tmps h.dst v) (ts':=st.tmps) (ax st.tmps v);rcases hy with ⟨h1,h2⟩|⟨h1,h2⟩
   .exact .inl ⟨e▸h1,h2⟩
   exact .inr ⟨e▸h1,(kj (ax st.tmps v)).symm.trans h2.1,kZ (λt ht=>ax st.tmps v t (tail x t ht)) h2.2⟩
  .exact iB (λt ht=>(ah st.tmps y t ht).symm) hg'
  simp only[gl];rw[gJ hne]
 cases hi
def fX:Ob->Option (Option (az×Nat×Nat))
 | .row e c n _=>some (some (e,c,n))
 | .box _=>some none
 |_=>none
theorem an0{P:aB}{os:List Ob}{t:az}{a x:A}{r:Nat×Ob}(h:(l9 P os t a x).eval=some r):fX (bZ os r.1)=fX r.2:=by
 unfold l9 at h;split at h
 .split at h
  .cases a with
   |ptr id off=>
    simp only at h;split at h
    .rename_i hg;split at h
     .simp only[aJ,bz]at h;subst h;simp only[hg];rfl
     cases h
    cases h
   |ap id k=>
    simp only at h;split at h
    .rename_i hg;split at h
     .split at h
      .simp only[aK,aJ]at h;split at h
       .simp only[bz]at h;subst h;simp only[hg];rfl
       cases h
      cases h
     cases h
    .rename_i hg;split at h
     .simp only[aK,aJ]at h;split at h
      .simp only[bz]at h;subst h;simp only[hg];rfl
      cases h
     cases h
    cases h
   |rp id c k off=>
    simp only at h;split at h
    .rename_i hg;split at h
     .rename_i hc;rw[oV]at h;simp only[aK,aJ]at h;split at h
      .simp only[bz]at h;subst h;simp only[hg,fX];rw[hc.1]
      cases h
     cases h
    cases h
   |_=>cases h
  cases h
 cases h
theorem an1(G:List Nat){os os':List Ob}(h:∀ i,fX (bZ os i)=fX (bZ os' i))(i:Nat):fX (bZ (ei G os) i)=fX (bZ (ei G os') i):=by
 induction G with
 |nil=>exact h i
 |cons d G ih=>
  simp only[ei,ef];split
  .rfl
  exact ih
theorem an2{P:aB}{m m':List Ob}(h:∀ i,fX (bZ m i)=fX (bZ m' i))(t:az)(y i:A):sX P m t y i=sX P m' t y i:=by
 unfold sX;cases i with
 |int k n=>
  simp only;split
  .rename_i e _;cases y with
   |own id=>
    cases gY P e with
    |none=>rfl
    |some s=>
     have cn:=h id;simp only;cases h1:bZ m id<;>cases h2:bZ m' id<;>rw[h1,h2]at cn<;>simp only[fX,bz,Prod.mk.injEq,reduceCtorEq]at cn<;>try rfl
     obtain⟨rfl,rfl,rfl⟩:=cn;rfl
   |ov id c lo k=>
    cases gY P e with
    |none=>rfl
    |some s=>
     have cn:=h id;simp only;cases h1:bZ m id<;>cases h2:bZ m' id<;>rw[h1,h2]at cn<;>simp only[fX,bz,Prod.mk.injEq,reduceCtorEq]at cn<;>rfl
   |_=>cases gY P e<;>rfl
  .rfl
  rfl
 |_=>rfl
theorem an3{o:ay}(h:BW o=true):∃ t x i,o.op= .indexAddr t x i:=by
 unfold BW at h;split at h
 .rename_i t x i hop;exact⟨t,x,i,hop⟩
 cases h
theorem WM{o:ay}{ts:List A}{os os':List Ob}{y:A}(ho:FW o=true)(h:S2 E B o ts os y os'):∀ i,fX (bZ os' i)=fX (bZ os i):=by
 unfold FW at ho;split at ho
 .rename_i t a x hop;unfold S2 at h;rw[hop]at h;obtain⟨r,hr,_,rfl⟩:=h;intro i;rw[ef];split
  .rename_i e;rw[e];exact(an0 hr).symm
  rfl
 cases ho
theorem an4{ops:List ay}{h x:ay}{st s1 s2:St}(hi:Lq h x=true)
  (rx:∀ d,h.dst=some d->d∉dK ops x/\x.dst≠some d) (rh:∀ d,x.dst=some d->d∉dK ops h)
  (h1:Step E B F ops h st s1) (h2:Step E B F ops x s1 s2):∃ s1',Step E B F ops x st s1'/\Step E B F ops h s1' s2:=by
 have ax:∀ (ts:List A) (v:A),∀ t∈dK ops x,bT (dm ts h.dst v) t=bT ts t:=λts v t ht=>me (λe=>(rx t e).1 ht);have ah:∀ (ts:List A) (v:A),∀ t∈dK ops h,bT (dm ts x.dst v) t=bT ts t:=λts v t ht=>me (λe=>rh t e ht);have hne:∀ n,h.dst=some n->x.dst≠some n:=λn hn=>(rx n hn).2;have tail:∀ (o:ay),∀ t∈tmpsOf o.op.operands.toList,t∈dK ops o:=λo t ht=>by unfold dK;exact aL _ ht
 have key:∀ {o:ay} {ts:List A} {os os':List Ob} {v:A} {ob:Option Ob},BW o=true->(∀i,fX (bZ os' i)=fX (bZ os i))->kI E B F ops o ts (ei (ga B F o) os) v ob->ob=none/\kI E B F ops o ts (ei (ga B F o) os') v none:=by
  intro o ts os os' v ob ho hs hg;obtain⟨t,y,i,hop⟩:=an3 ho;rcases hg with ⟨g1,g2,g3⟩|⟨g1,g0,g2⟩
  .exact⟨g3,.inl ⟨g1,g2,rfl⟩⟩
  unfold gD at g2;rw[hop]at g2;simp only[kG,mC,dZ]at g2;refine⟨g2.2,.inr ⟨g1,g0,?_⟩⟩;unfold gD;rw[hop];simp only[kG,mC,dZ];rw[an2 (m':=ei (ga B F o) os) (an1 _ hs)];exact⟨g2.1,bP⟩
 unfold Lq at hi;split at hi
 .rename_i ch cx;rw[aq]at hi;obtain⟨hst,qj⟩:=hi;rw[fy ch]at h1;obtain⟨y,os',hy,rfl⟩:=h1;rw[e6 (by omega)]at h2;obtain⟨v,ob,hg,hp2⟩:=h2;have hg':=iB (E:=E) (ts':=st.tmps) (ax st.tmps y) hg;have hsh:∀ i,fX (bZ os' i)=fX (bZ st.bR i):=by
   rcases hy with ⟨_,_,rfl⟩|⟨_,_,jh⟩
   .exact λ_=>rfl
   exact WM hst jh
  obtain⟨rfl,qP⟩:=key qj (λi=>(hsh i).symm) hg';simp only[gl]at hp2;subst hp2;refine⟨⟨dm st.tmps x.dst v,st.bR⟩,(e6 (by omega)).2 ⟨v,none,qP,rfl⟩,(fy ch).2 ⟨y,os',?_,?_⟩⟩
  .have e:=kH (ops:=ops) (o:=h) (ts:=dm st.tmps x.dst v) (ts':=st.tmps) (ah st.tmps v);rcases hy with ⟨h1,h2⟩|⟨h1,h2⟩
   .exact .inl ⟨e.trans h1,h2⟩
   exact .inr ⟨e.trans h1,(kj (ah st.tmps v)).trans h2.1,kZ (λt ht=>(ah st.tmps v t (tail h t ht)).symm) h2.2⟩
  simp only;rw[gJ hne]
 .rename_i ch cx;rw[aq]at hi;obtain⟨hst,qj⟩:=hi;rw[e6 (show cls h.op≠2 by omega)]at h1;obtain⟨v,ob,hg,hp2⟩:=h1;obtain⟨rfl,_⟩:=key qj (λ_=>rfl) hg;simp only[gl]at hp2;subst hp2;rw[fy cx]at h2;obtain⟨y,os',hy,rfl⟩:=h2;simp only at hy;have hsh:∀ i,fX (bZ os' i)=fX (bZ st.bR i):=by
   rcases hy with ⟨_,_,rfl⟩|⟨_,_,jh⟩
   .exact λ_=>rfl
   exact WM hst jh
  have hg':=(key qj hsh hg).2;refine⟨⟨dm st.tmps x.dst y,os'⟩,(fy cx).2 ⟨y,os',?_,rfl⟩,(e6 (show cls h.op≠2 by omega)).2 ⟨v,none,?_,?_⟩⟩
  .have e:=kH (ops:=ops) (o:=x) (ts:=dm st.tmps h.dst v) (ts':=st.tmps) (ax st.tmps v);rcases hy with ⟨h1,h2⟩|⟨h1,h2⟩
   .exact .inl ⟨e▸h1,h2⟩
   exact .inr ⟨e▸h1,(kj (ax st.tmps v)).symm.trans h2.1,kZ (λt ht=>ax st.tmps v t (tail x t ht)) h2.2⟩
  .exact iB (λt ht=>(ah st.tmps y t ht).symm) hg'
  simp only[gl];rw[gJ hne]
 cases hi
theorem WN:∀ {F:List Nat} {i:Nat},i∈F->uv F i=true
 |j::F,i,h=>by
  simp only[uv,au];rcases aO.1 h with rfl|h
  .exact .inl (bq _)
  exact .inr (WN h)
theorem WQ{P:aB}{os os':List Ob}{t:az}{a x:A}(h:∀ i,tD a=some i->bZ os i=bZ os' i):l9 P os t a x=l9 P os' t a x:=by
 unfold l9;cases a with
 |ptr i off=>simp only[h i rfl]
 |rp i c k off=>simp only[h i rfl]
 |ap i k=>simp only[h i rfl]
 |_=>rfl
theorem WS{P:aB}{os:List Ob}{t:az}{a x:A}{r:Nat×Ob}(h:(l9 P os t a x).eval=some r):tD a=some r.1/\r.2≠ .de:=by
 rcases Mv h with ⟨ha|ha,_,hc⟩|⟨ha,_,e,c,n,el,hc⟩
 .obtain⟨off,rfl⟩:=ha;exact⟨rfl,by intro q;rw[q]at hc;cases hc⟩
 .obtain⟨off,rfl⟩:=ha;exact⟨rfl,by intro q;rw[q]at hc;cases hc⟩
 obtain⟨c1,k,off,rfl⟩:=ha;exact⟨rfl,by rw[hc];intro q;cases q⟩
theorem WT{ops:List ay}{o:ay}(h:FX ops o=true):∃ t b x,o.op= .store t b x/\(hQ ops b).isSome=true:=by
 unfold FX at h;split at h
 .rename_i t b x hop;exact⟨t,b,x,hop,h⟩
 cases h
theorem an5{o:ay}(h:ta o=true):∃ t n ps,o.op= .buildSlice t n ps:=by
 unfold ta at h;split at h
 .rename_i hop;exact⟨_,_,_,hop⟩
 cases h
theorem y7{ops:List ay}{o:ay}{ts:List A}{mo mo':List Ob}{v:A}{ob:Option Ob}(h:ta o=true)(hg:kI E B F ops o ts mo v ob):kI E B F ops o ts mo' v ob:=by
 obtain⟨t,n,ps,hop⟩:=an5 h;rcases hg with hg|⟨g1,g2,g3⟩
 .exact .inl hg
 refine .inr ⟨g1,g2,?_⟩;unfold gD at g3⊢;rw[hop]at g3⊢;exact g3
theorem an6{ops:List ay}{h x:ay}{st s1 s2:St}(hi:Lr ops h x=true)(hF:∀ o:ay,(o=h\/o=x)->cls o.op=1-> ∀d,o.dst=some d->B+d∈F)
  (rx:∀ d,h.dst=some d->d∉dK ops x/\x.dst≠some d) (rh:∀ d,x.dst=some d->d∉dK ops h)
  (h1:Step E B F ops h st s1) (h2:Step E B F ops x s1 s2):∃ s1',Step E B F ops x st s1'/\Step E B F ops h s1' s2:=by
 have ax:∀ (ts:List A) (v:A),∀ t∈dK ops x,bT (dm ts h.dst v) t=bT ts t:=λts v t ht=>me (λe=>(rx t e).1 ht);have ah:∀ (ts:List A) (v:A),∀ t∈dK ops h,bT (dm ts x.dst v) t=bT ts t:=λts v t ht=>me (λe=>rh t e ht);have hne:∀ n,h.dst=some n->x.dst≠some n:=λn hn=>(rx n hn).2;have tail:∀ (o:ay),∀ t∈tmpsOf o.op.operands.toList,t∈dK ops o:=λo t ht=>by unfold dK;exact aL _ ht
 unfold Lr at hi;split at hi
 ·
  rename_i ch cx;rw[aq]at hi;obtain⟨hst,dF⟩:=hi;obtain⟨ty,b,z,hop,_⟩:=WT hst;rw[fy ch]at h1;obtain⟨y,os',hy,rfl⟩:=h1;rw[e6 (by omega)]at h2;obtain⟨v,ob,hg,hp⟩:=h2;have hg':kI E B F ops x st.tmps (ei (ga B F x) st.bR) v ob:=y7 dF (iB (E:=E) (ts':=st.tmps) (ax st.tmps y) hg);have eg:∀ v,ft ops (dm st.tmps x.dst v) h=ft ops st.tmps h:=λv=>kH (ah st.tmps v);rcases hy with ⟨g1,rfl,rfl⟩|⟨g1,g2,g3⟩
  .obtain⟨e1,e2⟩:=rZ (ts':=st.tmps) hp;refine⟨_,(e6 (by omega)).2 ⟨v,ob,hg',e2⟩,(fy ch).2 ⟨.cG [],_,.inl ⟨(eg v).trans g1,rfl,rfl⟩,?_⟩⟩;simp only;rw[<-gJ hne,<- e1]
  have qO:=g3;unfold S2 at qO;rw[hop]at qO;obtain⟨r,hr,rfl,rfl⟩:=qO;obtain⟨ha,MD⟩:=WS hr;have fin:∀ objs1:List Ob,bZ objs1 r.1=bZ st.bR r.1->Step E B F ops h ⟨dm st.tmps x.dst v,objs1⟩ ⟨dm (dm st.tmps x.dst v) h.dst (.cG []),cM objs1 r.1 r.2⟩:=by
   intro objs1 ho;refine(fy ch).2 ⟨.cG [],cM objs1 r.1 r.2,.inr ⟨(eg v).trans g1,?_,kZ (λu hu=>(ah st.tmps v u (tail h u hu)).symm) ?_⟩,rfl⟩
   .rw[<-g2];exact kj (ah st.tmps v)
   unfold S2;rw[hop];refine⟨r,?_,rfl,rfl⟩;rw[<-hr];refine fU aJ (WQ λi hi=>?_);rw[ha]at hi;cases hi;exact ho
  cases ob with
  |none=>
   simp only[gl]at hp;subst hp;refine⟨⟨dm st.tmps x.dst v,st.bR⟩,(e6 (by omega)).2 ⟨v,none,hg',rfl⟩,?_⟩;rw[gJ hne];exact fin _ rfl
  |some w=>
   obtain⟨d,hd,hv,rfl⟩:=hp;simp only[ef]at hv;have hrd:r.1≠B+d:=by
    intro e;rw[bS e.symm]at hv;exact MD hv
   rw[bQ (λe=>hrd e.symm)]at hv;refine⟨⟨eS st.tmps d v,cM st.bR (B+d) w⟩,(e6 (by omega)).2 ⟨v,some w,hg',d,hd,hv,rfl⟩,?_⟩;have hf:=fin (cM st.bR (B+d) w) (by rw[ef,bQ hrd]);have e1:=gJ (ts:=st.tmps) (x:=.cG []) (y:=v) hne;rw[hd]at hf e1;have e4:(⟨dm (dm st.tmps (some d) v) h.dst (.cG []),cM (cM st.bR (B+d) w) r.1 r.2⟩:St)=⟨eS (dm st.tmps h.dst (.cG [])) d v,cM (cM st.bR r.1 r.2) (B+d) w⟩:=by
    rw[oZ _ r.1 (B+d) _ _ hrd];exact fU (λz=>St.mk z _) e1.symm
   rw[e4]at hf;exact hf
 ·
  rename_i ch cx;rw[aq]at hi;obtain⟨hst,dF⟩:=hi;obtain⟨ty,b,z,hop,hro⟩:=WT hst;rw[e6 (by omega)]at h1;obtain⟨v,ob,hg,hp⟩:=h1;rw[fy cx]at h2;obtain⟨y,os',hy,rfl⟩:=h2;obtain⟨e1,_⟩:=rZ (ts':=st.tmps) hp;have eg:ft ops s1.tmps x=ft ops st.tmps x:=by rw[e1];exact kH (ax st.tmps v)
  rcases hy with ⟨g1,rfl,rfl⟩|⟨g1,g2,g3⟩
  .obtain⟨_,e2⟩:=rZ (ts':=dm st.tmps x.dst (.cG [])) hp;refine⟨_,(fy cx).2 ⟨.cG [],_,.inl ⟨eg▸g1,rfl,rfl⟩,rfl⟩,(e6 (by omega)).2 ⟨v,ob,iB (λu hu=>(ah st.tmps _ u hu).symm) hg,?_⟩⟩;rw[e1,gJ hne];exact e2
  have tC:jo B F ops st.tmps x=true:=by rw[<-g2,e1];exact(kj (ax st.tmps v)).symm
  have qO:S2 E B x st.tmps s1.bR y os':=kZ (λu hu=>by rw[e1];exact ax st.tmps v u (tail x u hu)) g3;unfold S2 at qO;rw[hop]at qO;obtain⟨r,hr,rfl,rfl⟩:=qO;obtain⟨ha,MD⟩:=WS hr;have WU:∀ ik:List Ob,bZ ik r.1=bZ s1.bR r.1->ik=st.bR->Step E B F ops x st ⟨dm st.tmps x.dst (.cG []),cM st.bR r.1 r.2⟩:=by
   intro ik ho hs;refine(fy cx).2 ⟨.cG [],cM st.bR r.1 r.2,.inr ⟨eg▸g1,tC,?_⟩,rfl⟩;unfold S2;rw[hop];refine⟨r,?_,rfl,rfl⟩;rw[<-hr];refine fU aJ (WQ λi hi=>?_);rw[ha]at hi;cases hi;rw[<-hs];exact ho
  cases ob with
  |none=>
   simp only[gl]at hp;subst hp;refine⟨_,WU st.bR rfl rfl,(e6 (by omega)).2 ⟨v,none,y7 dF (iB (λu hu=>(ah st.tmps (.cG []) u hu).symm) hg),?_⟩⟩;simp only[gl];rw[gJ hne]
  |some w=>
   obtain⟨d,hd,hv,rfl⟩:=hp;have jF:=hF h (.inl rfl) ch d hd;have hb:=anI tC;have hrd:r.1≠B+d:=by
    intro e;unfold yQ at hb;cases y8:F with
    |nil=>rw[y8]at jF;cases jF
    |cons f0 F0=>
     rw[y8]at hb;simp only[hop]at hb;cases hq:hQ ops b with
     |none=>rw[hq]at hro;cases hro
     |some q=>
      rw[hq]at hb;simp only at hb;have hin:=WN jF;rw[y8,<- e]at hin
      revert hb ha
      cases cQ st.tmps b with
      |ptr i off=>intro ha hb;cases ha;simp only[FR,ar]at hb;rw[hb]at hin;cases hin
      |rp i c k off=>intro ha hb;cases ha;simp only[FR,ar]at hb;rw[hb]at hin;cases hin
      |ap i k=>intro ha hb;cases ha;simp only[FR,ar]at hb;rw[hb]at hin;cases hin
      |_=>intro ha;cases ha
   refine⟨_,WU st.bR (by simp only[ef];rw[bQ hrd]) rfl,(e6 (by omega)).2 ⟨v,some w,y7 dF (iB (λu hu=>(ah st.tmps (.cG []) u hu).symm) hg),d,hd,?_,?_⟩⟩
   .simp only[ef];rw[bQ (λe=>hrd e.symm)];exact hv
   have e3:=gJ (ts:=st.tmps) (x:=v) (y:=.cG []) hne;rw[hd]at e3;simp only[dm]at e3⊢;rw[oZ _ (B+d) r.1 _ _ (λe=>hrd e.symm)];exact fU (λz=>St.mk z _) e3
 cases hi
theorem WV{o:ay}{ts:List A}{os os':List Ob}{y:A}(hap:isApp o.op=true)(hs:S2 E B o ts os y os'):∃ x z t t' r d,o.op= .call ⟨.builtin .append,⟨[x,z]⟩,⟨[t,t']⟩⟩/\o.dst=some d/\(nB E.P os t t' (cQ ts x) (cQ ts z)).eval=some r/\bZ (gI os r.1) (B+d)= .de/\y= .own (B+d)/\os'=cM (gI os r.1) (B+d) r.2:=by
 unfold S2 at hs;split at hs
 .rename_i hop;rw[hop]at hap;cases hap
 .rename_i hop;rw[hop]at hap;cases hap
 .rename_i hop;rw[hop]at hap;cases hap
 .rename_i hop;obtain⟨r,d,hd,h1,h2,h3,h4⟩:=hs;exact⟨_,_,_,_,r,d,hop,hd,h1,h2,h3,h4⟩
 .rename_i hop;rw[hop]at hap;cases hap
 .rename_i hop;rw[hop]at hap;cases hap
 .rename_i hop;rw[hop]at hap;cases hap
 .rename_i hop;rw[hop]at hap;cases hap
 exact hs.elim
theorem ME{o:ay}{ts:List A}{os:List Ob}{x z:aA}{t t':az}{r:Option Nat×Ob}{d:Nat}(hop:o.op= .call ⟨.builtin .append,⟨[x,z]⟩,⟨[t,t']⟩⟩)(hd:o.dst=some d)(hr:(nB E.P os t t' (cQ ts x) (cQ ts z)).eval=some r)(hv:bZ (gI os r.1) (B+d)= .de):S2 E B o ts os (.own (B+d)) (cM (gI os r.1) (B+d) r.2):=by
 unfold S2;rw[hop];exact⟨r,d,hd,hr,hv,rfl,rfl⟩
def r5:A->Option Nat
 | .own id=>some id
 | .ov id _ _ _=>some id
 |_=>none
theorem MF{os os':List Ob}{s:Nat}{y:A}(h:∀ id,r5 y=some id->bZ os' id=bZ os id):rowOf os' s y=rowOf os s y:=by
 cases y with
 |own id=>
  have e:=h id rfl;show(match bZ os' id with| .row _ c n el=>if c=s then some (n,el)else none|_=>none)=(match bZ os id with| .row _ c n el=>if c=s then some (n,el)else none|_=>none);rw[e]
 |ov id c0 lo k=>
  have e:=h id rfl;show(match bZ os' id with| .row _ c' _ el=>if c0=s/\c'=s then some (k,λq j=>el (lo+q) j)else none|_=>none)=(match bZ os id with| .row _ c' _ el=>if c0=s/\c'=s then some (k,λq j=>el (lo+q) j)else none|_=>none);rw[e]
 |_=>rfl
theorem WW{P:aB}{os os':List Ob}{t t':az}{x y:A}(hx:∀ id,r5 x=some id->bZ os' id=bZ os id)(hy:∀ id,r5 y=some id->bZ os' id=bZ os id):nB P os' t t' x y=nB P os t t' x y:=by
 unfold nB;cases x with
 |own id=>simp only[MF hy,hx id rfl]
 |ov id c0 lo k=>simp only[MF hy,hx id rfl]
 |_=>simp only[MF hy]
theorem WX{P:aB}{os:List Ob}{t t':az}{x y:A}{r:Option Nat×Ob}(h:(nB P os t t' x y).eval=some r):(∀id,r5 x=some id->bZ os id≠ .de)/\(∀id,r5 y=some id->bZ os id≠ .de)/\ ∀id,r.1=some id->r5 x=some id:=by
 unfold nB at h;split at h
 .cases h
 split at h
 .split at h
  .split at h
   .rename_i hrow _;have hy:∀ id,r5 y=some id->bZ os id≠ .de:=by
     intro id cn hv;cases y with
     |own j=>
      cases cn;have hrow:(match bZ os id with| .row _ c n el=>if c=_ then some (n,el)else none|_=>none)=some (_,_):=hrow;rw[hv]at hrow;cases hrow
     |ov j c0 lo k=>
      cases cn;have hrow:(match bZ os id with| .row _ c' _ el=>if c0=_/\c'=_ then some (k,λq j=>el (lo+q) j)else none|_=>none)=some (_,_):=hrow;rw[hv]at hrow;cases hrow
     |_=>cases cn
    split at h
    .split at h
     .rw[oV]at h;unfold aK at h;rcases y6 h with h|h
      .simp only[aJ,bz]at h;subst h;exact⟨λid e=>by(cases e),hy,λid e=>by cases e⟩
      cases h
     .split at h
      .rename_i hg;split at h
       .rw[oV]at h;unfold aK at h;rcases y6 h with h|h
        .simp only[aJ,bz]at h;subst h;refine⟨λid e=>?_,hy,λid e=>?_⟩
         .cases e;rw[hg];intro e;cases e
         cases e;rfl
        cases h
       cases h
      cases h
     .split at h
      .rename_i hg;split at h
       .rw[oV]at h;unfold aK at h;rcases y6 h with h|h
        .simp only[aJ,bz]at h;subst h;refine⟨λid e=>?_,hy,λid e=>?_⟩
         .cases e;rw[hg];intro e;cases e
         cases e;rfl
        cases h
       cases h
      cases h
     cases h
    cases h
   cases h
  cases h
 cases h
theorem Gr{os:List Ob}{k:Option Nat}{i:Nat}{w:Ob}(h:∀ j,k=some j->j≠i):gI (cM os i w) k=cM (gI os k) i w:=by
 cases k with
 |none=>rfl
 |some j=>
  simp only[gI];exact oZ _ i j _ _ (λe=>h j rfl e.symm)
theorem an7{os:List Ob}{k:Option Nat}{i:Nat}(h:bZ (gI os k) i= .de):bZ os i= .de/\ ∀j,k=some j->j≠i:=by
 cases k with
 |none=>exact⟨h,λj e=>by cases e⟩
 |some j=>
  simp only[gI,ef]at h;by_cases e:i=j
  .rw[bS e]at h;cases h
  rw[bQ e]at h;exact⟨h,λj' ej=>by cases ej;exact λq=>e q.symm⟩
theorem an8{os:List Ob}{k:Option Nat}{i:Nat}(h:∀ j,k=some j->j≠i):bZ (gI os k) i=bZ os i:=by
 cases k with
 |none=>rfl
 |some j=>
  simp only[gI,ef];rw[bQ (λe=>h j rfl e.symm)]
theorem an9{ops:List ay}{h x:ay}{st s1 s2:St}(hi:Ls ops h x=true)(hF:∀ o:ay,(o=h\/o=x)->cls o.op=1-> ∀d,o.dst=some d->B+d∈F)
  (rx:∀ d,h.dst=some d->d∉dK ops x/\x.dst≠some d) (rh:∀ d,x.dst=some d->d∉dK ops h)
  (h1:Step E B F ops h st s1) (h2:Step E B F ops x s1 s2):∃ s1',Step E B F ops x st s1'/\Step E B F ops h s1' s2:=by
 have ax:∀ (ts:List A) (v:A),∀ t∈dK ops x,bT (dm ts h.dst v) t=bT ts t:=λts v t ht=>me (λe=>(rx t e).1 ht);have ah:∀ (ts:List A) (v:A),∀ t∈dK ops h,bT (dm ts x.dst v) t=bT ts t:=λts v t ht=>me (λe=>rh t e ht);have hne:∀ n,h.dst=some n->x.dst≠some n:=λn hn=>(rx n hn).2;have tail:∀ (o:ay),∀ t∈tmpsOf o.op.operands.toList,t∈dK ops o:=λo t ht=>by unfold dK;exact aL _ ht
 unfold Ls at hi;split at hi
 ·
  rename_i ch cx;rw[aq]at hi;obtain⟨hap,dF⟩:=hi;rw[fy ch]at h1;obtain⟨y,os',hy,rfl⟩:=h1;rw[e6 (by omega)]at h2;obtain⟨v,ob,hg,hp⟩:=h2;have hg':kI E B F ops x st.tmps (ei (ga B F x) st.bR) v ob:=y7 dF (iB (E:=E) (ts':=st.tmps) (ax st.tmps y) hg);have eg:∀ v,ft ops (dm st.tmps x.dst v) h=ft ops st.tmps h:=λv=>kH (ah st.tmps v);rcases hy with ⟨g1,rfl,rfl⟩|⟨g1,g2,g3⟩
  .obtain⟨e1,e2⟩:=rZ (ts':=st.tmps) hp;refine⟨_,(e6 (by omega)).2 ⟨v,ob,hg',e2⟩,(fy ch).2 ⟨.cG [],_,.inl ⟨(eg v).trans g1,rfl,rfl⟩,?_⟩⟩;simp only;rw[<-gJ hne,<- e1]
  obtain⟨a,b,t,t',r,da,hop,hda,hr,y9,rfl,rfl⟩:=WV hap g3;obtain⟨o1,o2,o3⟩:=WX hr;have fin:∀ objs1:List Ob,(∀id,bZ st.bR id≠ .de->bZ objs1 id=bZ st.bR id)->bZ (gI objs1 r.1) (B+da)= .de->Step E B F ops h ⟨dm st.tmps x.dst v,objs1⟩ ⟨dm (dm st.tmps x.dst v) h.dst (.own (B+da)),cM (gI objs1 r.1) (B+da) r.2⟩:=by
   intro objs1 ho hvv;refine(fy ch).2 ⟨.own (B+da),_,.inr ⟨(eg v).trans g1,?_,kZ (λu hu=>(ah st.tmps v u (tail h u hu)).symm) (ME hop hda ?_ hvv)⟩,rfl⟩
   .rw[<-g2];exact kj (ah st.tmps v)
   rw[<-hr];exact fU aJ (WW (λid e=>ho id (o1 id e)) (λid e=>ho id (o2 id e)))
  cases ob with
  |none=>
   simp only[gl]at hp;subst hp;refine⟨⟨dm st.tmps x.dst v,st.bR⟩,(e6 (by omega)).2 ⟨v,none,hg',rfl⟩,?_⟩;rw[gJ hne];exact fin _ (λ_ _=>rfl) y9
  |some w=>
   obtain⟨d,hd,hv,rfl⟩:=hp;have hv:bZ (cM (gI st.bR r.1) (B+da) r.2) (B+d)= .de:=hv;rw[ef]at hv;have iZ:d≠da:=λe=>hne da hda (by rw[hd,e]);rw[bQ (λe=>iZ (bj e))]at hv;obtain⟨hv0,hk⟩:=an7 hv;refine⟨⟨eS st.tmps d v,cM st.bR (B+d) w⟩,(e6 (by omega)).2 ⟨v,some w,hg',d,hd,hv0,rfl⟩,?_⟩;have hf:=fin (cM st.bR (B+d) w) (λid cn=>by rw[ef,bQ (λe=>cn (by rw[e];exact hv0))]) (by
    rw[Gr hk,ef,bQ (λe=>iZ (bj e).symm)];exact y9)
   rw[Gr hk,oZ _ (B+d) (B+da) _ _ (λe=>iZ (bj e))]at hf;have e1:=gJ (ts:=st.tmps) (x:=.own (B+da)) (y:=v) hne;rw[hd]at hf e1;have e4:(⟨dm (dm st.tmps (some d) v) h.dst (.own (B+da)),cM (cM (gI st.bR r.1) (B+da) r.2) (B+d) w⟩:St)=⟨eS (dm st.tmps h.dst (.own (B+da))) d v,cM (cM (gI st.bR r.1) (B+da) r.2) (B+d) w⟩:=fU (λz=>St.mk z _) e1.symm;rw[e4]at hf;exact hf
 ·
  rename_i ch cx;rw[aq,aq]at hi;obtain⟨hap,dF,hin⟩:=hi;rw[e6 (by omega)]at h1;obtain⟨v,ob,hg,hp⟩:=h1;rw[fy cx]at h2;obtain⟨y,os',hy,rfl⟩:=h2;obtain⟨e1,_⟩:=rZ (ts':=st.tmps) hp;have eg:ft ops s1.tmps x=ft ops st.tmps x:=by rw[e1];exact kH (ax st.tmps v)
  rcases hy with ⟨g1,rfl,rfl⟩|⟨g1,g2,g3⟩
  .obtain⟨_,e2⟩:=rZ (ts':=dm st.tmps x.dst (.cG [])) hp;refine⟨_,(fy cx).2 ⟨.cG [],_,.inl ⟨eg▸g1,rfl,rfl⟩,rfl⟩,(e6 (by omega)).2 ⟨v,ob,iB (λu hu=>(ah st.tmps _ u hu).symm) hg,?_⟩⟩;rw[e1,gJ hne];exact e2
  have tC:jo B F ops st.tmps x=true:=by rw[<-g2,e1];exact(kj (ax st.tmps v)).symm
  have qO:S2 E B x st.tmps s1.bR y os':=kZ (λu hu=>by rw[e1];exact ax st.tmps v u (tail x u hu)) g3;obtain⟨a,b,t,t',r,dx,hop,uN,hr,y9,rfl,rfl⟩:=WV hap qO;obtain⟨o1,o2,o3⟩:=WX hr;cases ob with
  |none=>
   simp only[gl]at hp;subst hp;refine⟨_,(fy cx).2 ⟨.own (B+dx),_,.inr ⟨eg▸g1,tC,ME hop uN hr y9⟩,rfl⟩,(e6 (by omega)).2 ⟨v,none,y7 dF (iB (λu hu=>(ah st.tmps (.own (B+dx)) u hu).symm) hg),?_⟩⟩;simp only[gl];rw[gJ hne]
  |some w=>
   obtain⟨d,hd,hv,rfl⟩:=hp;have jF:=hF h (.inl rfl) ch d hd;have iZ:dx≠d:=λe=>hne d hd (by rw[uN,e]);have hb:=anJ tC;have hown:∀ id,(r5 (cQ st.tmps a)=some id\/r5 (cQ st.tmps b)=some id)->id≠B+d:=by
    intro id cn e;unfold yR at hb;cases y8:F with
    |nil=>rw[y8]at jF;cases jF
    |cons f0 F0=>
     rw[y8]at hb;simp only[hop,aq]at hb;have key:∀ q,BT B ops (dK ops x) q=true->r5 q≠some id:=by
      intro q hq cn;rw[ba]at hin;obtain⟨c,hc,lx⟩:=hin;rw[aq]at lx;have hcd:c.dst=some d:=by rw[ie lx.2,hd]
      have fin:((dK ops x).contains d|| !(Nat.beq id (B+d)))=true->False:=by
       intro this;simp only[au,ar]at this;rcases this with q1|q1
       .exact(rx d hd).1 (by simpa using q1)
       rw[e,bq]at q1;cases q1
      cases q with
      |own j=>
       cases cn;simp only[BT,aS]at hq;have:=hq c hc;rw[lx.1,hcd]at this;exact fin this
      |ov j c0 lo k=>
       cases cn;simp only[BT,aS]at hq;have:=hq c hc;rw[lx.1,hcd]at this;exact fin this
      |_=>cases cn
     rcases cn with q|q
     .exact key _ hb.1 q
     exact key _ hb.2 q
   have hsame:∀ id,id≠B+d->bZ st.bR id=bZ (cM st.bR (B+d) w) id:=λid cn=>by rw[ef,bQ cn]
   have gb:(nB E.P st.bR t t' (cQ st.tmps a) (cQ st.tmps b)).eval=some r:=by
    rw[<-hr];exact fU aJ (WW (λid e=>hsame id (hown id (.inl e))) (λid e=>hsame id (hown id (.inr e))))
   have hk:∀ j,r.1=some j->j≠B+d:=λj hj=>hown j (.inl (o3 j hj));rw[Gr hk,ef,bQ (λe=>iZ (bj e))]at y9;refine⟨_,(fy cx).2 ⟨.own (B+dx),_,.inr ⟨eg▸g1,tC,ME hop uN gb y9⟩,rfl⟩,(e6 (by omega)).2 ⟨v,some w,y7 dF (iB (λu hu=>(ah st.tmps (.own (B+dx)) u hu).symm) hg),d,hd,?_,?_⟩⟩
   .simp only[ef];rw[bQ (λe=>iZ (bj e).symm),an8 hk];exact hv
   have e3:=gJ (ts:=st.tmps) (x:=v) (y:=.own (B+dx)) hne;rw[hd]at e3;simp only[dm]at e3⊢;rw[Gr hk,oZ _ (B+d) (B+dx) _ _ (λe=>iZ (bj e).symm)];exact fU (λz=>St.mk z _) e3
 cases hi
theorem swap{ops:List ay}{h x:ay}{st s1 s2:St}(hi:indep ops h x=true)(hF':∀ o:ay,o∈ops->cls o.op=1-> ∀d,o.dst=some d->B+d∈F)(hF:∀ o:ay,(o=h\/o=x)->cls o.op=1-> ∀d,o.dst=some d->B+d∈F)
  (h1:Step E B F ops h st s1) (h2:Step E B F ops x s1 s2):∃ s1',Step E B F ops x st s1'/\Step E B F ops h s1' s2:=by
 unfold indep at hi;rw[aq,aq,au]at hi;obtain⟨⟨Cl,uN⟩,hi⟩:=hi;have rx:∀ d,h.dst=some d->d∉dK ops x/\x.dst≠some d:=by
  intro d hd;rw[hd]at Cl;simp only[aq,ar,mX,ne_eq,aX,gU]at Cl;exact Cl
 have rh:∀ d,x.dst=some d->d∉dK ops h:=by
  intro d hd;rw[hd]at uN;simpa using uN
 rcases hi with hi|hi
 case inr=>
  rw[au,au,au,au,au,au,au]at hi;rcases hi with hi|hi|hi|hi|hi|hi|hi|hi
  .exact anO hi hF' rx rh h1 h2
  .exact anQ hi hF rx rh h1 h2
  .exact anU hi hF rx rh h1 h2
  .exact anX hi hF rx rh h1 h2
  .exact an4 hi rx rh h1 h2
  .exact an6 hi hF rx rh h1 h2
  .exact an9 hi hF rx rh h1 h2
  exact anZ hi hF rx rh h1 h2
 simp only[aq,ar,dN]at hi;obtain⟨⟨⟨hcl,WY⟩,WZ⟩,W0⟩:=hi;have ax:∀ (ts:List A) (v:A),∀ t∈dK ops x,bT (dm ts h.dst v) t=bT ts t:=λts v t ht=>me (λe=>(rx t e).1 ht);have ah:∀ (ts:List A) (v:A),∀ t∈dK ops h,bT (dm ts x.dst v) t=bT ts t:=λts v t ht=>me (λe=>rh t e ht);have hne:∀ n,h.dst=some n->x.dst≠some n:=λn hn=>(rx n hn).2;have tail:∀ (o:ay),∀ t∈tmpsOf o.op.operands.toList,t∈dK ops o:=λo t ht=>by unfold dK;exact aL _ ht
 by_cases ch:cls h.op=2
 .have cx:cls x.op=0:=by
   have:cls x.op≠2:=by rintro e;rw[ch,e]at WY;simp at WY
   have:cls x.op≠1:=by rintro e;rw[ch,e]at W0;simp at W0
   omega
  rw[fy ch]at h1;obtain⟨y,os',hy,rfl⟩:=h1;rw[e6 (by omega)]at h2;obtain⟨v,ob,hg,hp⟩:=h2;have hg':=iB (E:=E) (ts':=st.tmps) (ax st.tmps y) hg;have cy:ob=none/\kI E B F ops x st.tmps (ei (ga B F x) st.bR) v none:=by
   rcases hg' with ⟨h1,h2,h3⟩|⟨h1,h0,h2⟩
   .exact⟨h3,.inl ⟨h1,h2,rfl⟩⟩
   obtain⟨h3,h4⟩:=Mi (mo':=ei (ga B F x) st.bR) cx h2;subst h4;exact⟨rfl,.inr ⟨h1,h0,h3⟩⟩
  obtain⟨rfl,qP⟩:=cy;simp only[gl]at hp;subst hp;refine⟨⟨dm st.tmps x.dst v,st.bR⟩,(e6 (by omega)).2 ⟨v,none,qP,rfl⟩,(fy ch).2 ⟨y,os',?_,?_⟩⟩
  .have e:=kH (ops:=ops) (o:=h) (ts:=dm st.tmps x.dst v) (ts':=st.tmps) (ah st.tmps v);rcases hy with ⟨h1,h2⟩|⟨h1,h2⟩
   .exact .inl ⟨e.trans h1,h2⟩
   exact .inr ⟨e.trans h1,(kj (ah st.tmps v)).trans h2.1,kZ (λt ht=>(ah st.tmps v t (tail h t ht)).symm) h2.2⟩
  simp only;rw[gJ hne]
 by_cases cx:cls x.op=2
 .have c0:cls h.op=0:=by
   have:cls h.op≠1:=by rintro e;rw[cx,e]at WZ;simp at WZ
   omega
  rw[e6 ch]at h1;obtain⟨v,ob,hg,hp⟩:=h1;have cy:ob=none/\ ∀mo,kI E B F ops h st.tmps mo v none:=by
   rcases hg with ⟨h1,h2,h3⟩|⟨h1,h0,h2⟩
   .exact⟨h3,λmo=>.inl ⟨h1,h2,rfl⟩⟩
   have:=(Mi (mo':=[]) c0 h2).2;subst this;exact⟨rfl,λmo=>.inr ⟨h1,h0,(Mi (mo':=mo) c0 h2).1⟩⟩
  obtain⟨rfl,hg'⟩:=cy;simp only[gl]at hp;subst hp;rw[fy cx]at h2;obtain⟨y,os',hy,rfl⟩:=h2;refine⟨⟨dm st.tmps x.dst y,os'⟩,(fy cx).2 ⟨y,os',?_,rfl⟩,(e6 ch).2 ⟨v,none,?_,?_⟩⟩
  .have e:=kH (ops:=ops) (o:=x) (ts:=dm st.tmps h.dst v) (ts':=st.tmps) (ax st.tmps v);rcases hy with ⟨h1,h2⟩|⟨h1,h2⟩
   .exact .inl ⟨e▸h1,h2⟩
   exact .inr ⟨e▸h1,(kj (ax st.tmps v)).symm.trans h2.1,kZ (λt ht=>ax st.tmps v t (tail x t ht)) h2.2⟩
  .exact iB (λt ht=>(ah st.tmps y t ht).symm) (hg' _)
  simp only[gl];rw[gJ hne]
 rw[e6 ch]at h1;rw[e6 cx]at h2;obtain⟨v,ob,hg,hp⟩:=h1;obtain⟨u,gS,hg2,hp2⟩:=h2;have mk:∀ {o:ay} {ts:List A} {mo:List Ob} {v:A} {x:Ob},kI E B F ops o ts mo v (some x)->cls o.op=1:=by
  rintro o ts mo v x (⟨_,_,h⟩|⟨_,_,h⟩)
  .cases h
  exact anB h
 cases ob with
 |none=>
  simp only[gl]at hp;subst hp;simp only at hg2 hp2;have Cn:=iB (E:=E) (ts':=st.tmps) (ax st.tmps v) hg2;cases gS with
  |none=>
   simp only[gl]at hp2;subst hp2;refine⟨⟨dm st.tmps x.dst u,st.bR⟩,(e6 cx).2 ⟨u,none,Cn,rfl⟩,(e6 ch).2 ⟨v,none,iB (λt ht=>(ah st.tmps u t ht).symm) hg,?_⟩⟩;simp only[gl];rw[gJ hne]
  |some ox=>
   obtain⟨d,hd,hv,rfl⟩:=hp2;have jF:=hF x (.inr rfl) (mk hg2) d hd;refine⟨⟨eS st.tmps d u,cM st.bR (B+d) ox⟩,(e6 cx).2 ⟨u,some ox,Cn,d,hd,hv,rfl⟩,(e6 ch).2 ⟨v,none,?_,?_⟩⟩
   .simp only;rw[y0 (ga B F h) st.bR (B+d) ox (Ck jF (rh d hd))];refine iB (λt ht=>?_) hg;have:=ah st.tmps u t ht;rw[hd]at this;exact this.symm
   simp only[gl];have:=gJ (ts:=st.tmps) (x:=v) (y:=u) hne;rw[hd]at this;simp only[dm]at this⊢;rw[this]
 |some oh=>
  obtain⟨d,hd,hv,rfl⟩:=hp;have jF:=hF h (.inl rfl) (mk hg) d hd;simp only at hg2 hp2;rw[y0 (ga B F x) st.bR (B+d) oh (Ck jF (rx d hd).1)]at hg2;have Cn:kI E B F ops x st.tmps (ei (ga B F x) st.bR) u gS:=by
   refine iB (λt ht=>?_) hg2;have:=ax st.tmps v t ht;rw[hd]at this;exact this
  have hne':x.dst≠some d:=hne d hd;cases gS with
  |none=>
   simp only[gl]at hp2;subst hp2;refine⟨⟨dm st.tmps x.dst u,st.bR⟩,(e6 cx).2 ⟨u,none,Cn,rfl⟩,(e6 ch).2 ⟨v,some oh,iB (λt ht=>(ah st.tmps u t ht).symm) hg,d,hd,hv,?_⟩⟩;have:=gJ (ts:=st.tmps) (x:=v) (y:=u) hne;rw[hd]at this;simp only[dm]at this⊢;rw[this]
  |some ox=>
   obtain⟨d',fm,hv',rfl⟩:=hp2;have iZ:d'≠d:=λe=>hne' (by rw[fm,e]);have aoa:=hF x (.inr rfl) (mk hg2) d' fm;simp only[ef]at hv';rw[bQ (λe=>iZ (bj e))]at hv';refine⟨⟨eS st.tmps d' u,cM st.bR (B+d') ox⟩,(e6 cx).2 ⟨u,some ox,Cn,d',fm,hv',rfl⟩,(e6 ch).2 ⟨v,some oh,?_,d,hd,?_,?_⟩⟩
   .simp only;rw[y0 (ga B F h) st.bR (B+d') ox (Ck aoa (rh d' fm))];refine iB (λt ht=>?_) hg;have:=ah st.tmps u t ht;rw[fm]at this;exact this.symm
   .simp only[ef];rw[bQ (λe=>iZ (bj e).symm)];exact hv
   simp only;rw[Mf _ d d' _ _ (Ne.symm iZ),oZ _ (B+d) (B+d') _ _ (λe=>iZ (bj e).symm)]
end
end Go.Sy
namespace Go.Sy
open Region (binds)
variable [fI]
def o4(m:aH)(ops:Array ay)(listed:Array Bool):List Nat:=
 (aV ops.size).filter λi=>!listed.getD i true&&((ops[i]?).map (·.after.all λe=>!binds m e||listed.getD e.on false)).getD false
def jN(m:aH)(ops:Array ay):Array Bool->List Nat->Prop
 |_,[]=>True
 |listed,i::l=>i∈o4 m ops listed/\jN m ops (listed.setIfInBounds i true) l
def nH:Array Bool->List Nat->Array Bool
 |listed,[]=>listed
 |listed,i::l=>nH (listed.setIfInBounds i true) l
theorem MG(m:aH)(ops:Array ay):∀ (fuel t:Nat) (listed:Array Bool) (acc:List Nat),
  ∃l,aI m ops fuel t listed acc=acc.reverse++l/\jN m ops listed l/\(l.length=fuel\/o4 m ops (nH listed l)=[])
 |0,t,listed,acc=>⟨[],by simp[aI],bP,.inl rfl⟩
 |fuel+1,t,listed,acc=>by
  unfold aI;simp only;split
  .rename_i i hi;obtain⟨l,h1,h2,h3⟩:=MG m ops fuel (t/(o4 m ops listed).length) (listed.setIfInBounds i true) (i::acc);refine⟨i::l,?_,⟨List.mem_of_getElem? hi,h2⟩,?_⟩
   .refine Eq.trans h1 ?_;simp
   rcases h3 with h3|h3
   .exact .inl (by simp[h3])
   exact .inr h3
  rename_i hn;refine⟨[],by simp,bP,.inr ?_⟩;change(o4 m ops listed)[t%(o4 m ops listed).length]? =none at hn;rcases Nat.eq_zero_or_pos (o4 m ops listed).length with h0|h0
  .exact List.eq_nil_of_length_eq_zero h0
  rw[List.getElem?_eq_getElem (Nat.mod_lt _ h0)]at hn;cases hn
section
variable {m:aH} {ops:Array ay}
theorem W2{listed:Array Bool}{i:Nat}(h:i∈o4 m ops listed):i<ops.size/\listed.getD i true=false/\ ∀o,ops[i]? =some o-> ∀e∈o.after,binds m e=true->listed.getD e.on false=true:=by
 unfold o4 at h;simp only[bd,aQ,aq,ar]at h;obtain⟨h1,h2,h3⟩:=h;refine⟨h1,h2,λo ho e he hb=>?_⟩;rw[ho]at h3;simp only[bx,bw,ae,au,ar]at h3;rcases h3 e he with h|h
 .rw[hb]at h;cases h
 exact h
theorem aob{listed:Array Bool}{i:Nat}{o:ay}(ho:ops[i]? =some o)(h2:listed.getD i true=false)(h3:∀ e∈o.after,binds m e=true->listed.getD e.on false=true):i∈o4 m ops listed:=by
 unfold o4;simp only[bd,aQ,aq,ar];refine⟨?_,h2,?_⟩
 .rcases bk i ops.size with h|h
  .exact h
  rw[af h]at ho;cases ho
 rw[ho];simp only[bx,bw,ae,au,ar];intro e he;cases hb:binds m e with
 |false=>exact .inl rfl
 |true=>exact .inr (h3 e he hb)
theorem W3:∀ (l:List Nat) (listed:Array Bool),(nH listed l).size=listed.size
 |[],listed=>rfl
 |i::l,listed=>by rw[nH,W3 l];simp
theorem Co:∀ (l:List Nat) (listed:Array Bool) (j:Nat),(nH listed l).getD j false=true↔(listed.getD j false=true\/(j∈l/\j<listed.size))
 |[],listed,j=>by simp[nH]
 |i::l,listed,j=>by
  rw[nH,Co l];simp only[Array.size_setIfInBounds,aO];by_cases hij:i=j
  .subst hij;by_cases hlt:i<listed.size
   .simp[al,hlt]
   simp[al,hlt]
  have:(listed.setIfInBounds i true).getD j false=listed.getD j false:=by
   simp[aa,aj hij]
  rw[this];constructor
  .rintro(h|h)
   .exact .inl h
   exact .inr ⟨.inr h.1,h.2⟩
  rintro(h|⟨h|h,h'⟩)
  .exact .inl h
  .exact(hij h.symm).elim
  exact .inr ⟨h,h'⟩
theorem W4{listed:Array Bool}{i:Nat}(h:listed.getD i true=false):listed.getD i false=false/\i<listed.size:=by
 rw[aa]at h⊢;cases hg:listed[i]? with
 |none=>rw[hg]at h;simp at h
 |some b=>
  rw[hg]at h;refine⟨by simpa using h,?_⟩;rcases bk i listed.size with h'|h'
  .exact h'
  rw[af h']at hg;cases hg
theorem jN.pos:∀ {p:List Nat} {i:Nat} {q:List Nat} {listed:Array Bool},jN m ops listed (p++i::q)->i∈o4 m ops (nH listed p)
 |[],i,q,listed,h=>h.1
 |j::p,i,q,listed,h=>by
  have h2:jN m ops (listed.setIfInBounds j true) (p++i::q):=h.2;exact jN.pos (p:=p) h2
theorem jN.nodup:∀ (l:List Nat) (listed:Array Bool),jN m ops listed l->(∀x∈l,listed.getD x true=false)/\l.Nodup
 |[],listed,_=>⟨(λx hx=>by cases hx),List.nodup_nil⟩
 |i::l,listed,h=>by
  obtain⟨h1,h2⟩:=h;obtain⟨_,h3,_⟩:=W2 h1;obtain⟨h4,h5⟩:=jN.nodup l _ h2;have hi:=(W4 h3).2;have hne:∀ x∈l,x≠i:=by
   rintro x hx rfl;have:=h4 x hx;simp[al,hi]at this
  refine⟨λx hx=>?_,aR.2 ⟨λh=>hne i h rfl,h5⟩⟩;rcases aO.1 hx with rfl|hx
  .exact h3
  have:=h4 x hx;rwa[aa,aj (Ne.symm (hne x hx)),<- aa]at this
theorem jN.facts{n:Nat}{l:List Nat}(h:jN m ops (ab n false) l)(hn:n=ops.size):
  l.Nodup/\(∀i∈l,i<ops.size)/\ ∀p i q,l=p++i::q-> ∀o,ops[i]? =some o-> ∀e∈o.after,binds m e=true->e.on∈p:=by
 have B6:∀ j,(ab n false).getD j false=false:=by
  intro j;simp[aa,ak];split<;>rfl
 have A1:∀ p i q,l=p++i::q->i<ops.size/\i∉p/\ ∀o,ops[i]? =some o-> ∀e∈o.after,binds m e=true->e.on∈p:=by
  intro p i q hl;rw[hl]at h;obtain⟨h1,h2,h3⟩:=W2 h.pos;refine⟨h1,λhp=>?_,λo ho e he hb=>?_⟩
  .have:=(W4 h2).1;have h4:(nH (ab n false) p).getD i false=true:=(Co p _ i).2 (.inr ⟨hp,by simp;omega⟩);rw[this]at h4;cases h4
  rcases(Co p _ _).1 (h3 o ho e he hb)with h5|h5
  .rw[B6]at h5;cases h5
  exact h5.1
 refine⟨(jN.nodup _ _ h).2,λi hi=>?_,λp i q hl=>(A1 p i q hl).2.2⟩;obtain⟨p,q,hl⟩:=aT hi;exact(A1 p i q hl).1
def Ord(m:aH)(ops:Array ay)(ord:List Nat):Prop:=(∀i,i∈ord↔i<ops.size)/\ ∀p i q,ord=p++i::q-> ∀o,ops[i]? =some o-> ∀e∈o.after,binds m e=true->e.on∈p
theorem W5{ok:Nat->Prop}:∀ (l:List Nat) (i:Nat),i∈l-> ¬ok i-> ∃p j q,l=p++j::q/\ ¬ok j/\ ∀x∈p,ok x
 |a::l,i,hi,hn=>by
  by_cases ha:ok a
  .rcases aO.1 hi with rfl|hi
   .exact(hn ha).elim
   obtain⟨p,j,q,h1,h2,h3⟩:=W5 l i hi hn;refine⟨a::p,j,q,by rw[h1];rfl,h2,λx hx=>?_⟩;rcases aO.1 hx with rfl|hx
   .exact ha
   exact h3 x hx
  exact⟨[],a,l,rfl,ha,λx hx=>by cases hx⟩
theorem complete{n:Nat}{ord l:List Nat}(hn:n=ops.size)(ho:Ord m ops ord)(hc:jN m ops (ab n false) l)(hl:l.length=n\/o4 m ops (nH (ab n false) l)=[]):∀ i,i<ops.size->i∈l:=by
 obtain⟨hnd,hlt,_⟩:=hc.facts hn;rcases hl with hl|hl
 .intro i hi;apply av;intro za;have hsub:(i::l).Nodup:=aR.2 ⟨za,hnd⟩;have hle:(i::l).length<=(aV ops.size).length:=by
   have:∀ (a b:List Nat),a.Nodup->(∀x∈a,x∈b)->a.length<=b.length:=by
    intro a
    induction a with
    |nil=>intro b _ _;simp
    |cons x a ih=>
     intro b hnd hsub;have hx:=hsub x aN;obtain⟨p,q,rfl⟩:=aT hx;have h1:=ih (p++q) (aR.1 hnd).2 (λy hy=>by
      have:=hsub y (aM _ hy);simp only[aU,aO]at this⊢;rcases this with h|h|h
      .exact .inl h
      .subst h;exact((aR.1 hnd).1 hy).elim
      exact .inr h)
     simp only[aY,aZ]at h1⊢;omega
   refine this _ _ hsub λx hx=>?_;rcases aO.1 hx with rfl|hx
   .simpa using hi
   simpa using hlt x hx
  simp at hle;omega
 intro i hi;apply av;intro za;obtain⟨p,j,q,h1,h2,h3⟩:=W5 (ok:=λx=>x∈l\/ ¬x<ops.size) ord i ((ho.1 i).2 hi) (by rintro(h|h);exact za h;exact h hi);have hj:j<ops.size:=av λh=>h2 (.inr h);have tq:j∉l:=λh=>h2 (.inl h);have zb:ops[j]? =some ops[j]:=ai hj;have hsz:(nH (ab n false) l).size=ops.size:=by rw[W3];simp[hn]
 have:j∈o4 m ops (nH (ab n false) l):=by
  refine aob zb ?_ λe he hb=>?_
  .have hf:(nH (ab n false) l).getD j false≠true:=by
    intro h;rcases(Co l _ j).1 h with h|h
    .simp[aa,ak]at h;split at h<;>simp at h
    exact tq h.1
   have hg:(nH (ab n false) l)[j]? =some (nH (ab n false) l)[j]:=ai (by omega);rw[aa,hg]at hf⊢;simpa using hf
  have hp:=ho.2 p j q h1 _ zb e he hb;rcases h3 _ hp with h|h
  .exact(Co l _ _).2 (.inr ⟨h,by
    have:=hlt _ h;simp;omega⟩)
  exact(h ((ho.1 _).1 (by rw[h1];exact aL _ hp))).elim
 rw[hl]at this;cases this
theorem aoc(h:(aF .gc ops 0).length=ops.size):Ord .gc ops (aF .gc ops 0):=by
 unfold aF at h⊢;obtain⟨l,h1,h2,_⟩:=MG .gc ops ops.size 0 (ab ops.size false) [];rw[h1]at h⊢;simp only[a7,bc]at h⊢;obtain⟨hnd,hlt,hp⟩:=h2.facts rfl;refine⟨λi=>⟨hlt i,λhi=>?_⟩,hp⟩;apply av;intro za;have hsub:(i::l).Nodup:=aR.2 ⟨za,hnd⟩;have:∀ (a b:List Nat),a.Nodup->(∀x∈a,x∈b)->a.length<=b.length:=by
  intro a
  induction a with
  |nil=>intro b _ _;simp
  |cons x a ih=>
   intro b hnd hsub;have hx:=hsub x aN;obtain⟨p,q,rfl⟩:=aT hx;have h1:=ih (p++q) (aR.1 hnd).2 (λy hy=>by
    have:=hsub y (aM _ hy);simp only[aU,aO]at this⊢;rcases this with h|h|h
    .exact .inl h
    .subst h;exact((aR.1 hnd).1 hy).elim
    exact .inr h)
   simp only[aY,aZ]at h1⊢;omega
 have hle:=this (i::l) (aV ops.size) hsub λx hx=>by
  rcases aO.1 hx with rfl|hx
  .simpa using hi
  simpa using hlt x hx
 simp at hle;omega
theorem MH{m:aH}{e:Edge}(h:binds .any e=true):binds m e=true:=by
 unfold binds at h⊢;split at h<;>first|rfl|(simp at h)
theorem aod{n i:Nat}{p q:List Nat}(h:aV n=p++i::q):p=aV i:=by
 have hl:p.length<n:=by have:=fU List.length h;simp at this;omega
 have hi:i=p.length:=by
  have h1:(aV n)[p.length]? =some i:=by rw[h];simp
  rw[List.getElem?_range hl]at h1;simpa using h1.symm
 have h2:p=(aV n).take p.length:=by rw[h];simp
 rw[h2,List.take_range,<- hi,bn (by omega)]
theorem W6(h:∀ i o,ops[i]? =some o-> ∀e∈o.after,binds .text e=true->e.on<i)(hm:∀ e,binds m e=true->binds .text e=true):Ord m ops (aV ops.size):=by
 refine⟨λi=>aQ,λp i q hl o ho e he hb=>?_⟩;rw[aod hl];exact aQ.2 (h i o ho e he (hm e hb))
theorem aoe(hT:∀ i o,ops[i]? =some o-> ∀e∈o.after,binds .text e=true->e.on<i)(hG:(aF .gc ops 0).length=ops.size)(mixed:Bool)(t:Nat):
  (aG mixed ops t).Nodup/\(∀i,i∈aG mixed ops t↔i<ops.size)/\
  ∀p i q,aG mixed ops t=p++i::q-> ∀o,ops[i]? =some o-> ∀e∈o.after,binds .any e=true->e.on∈p:=by
 have key:∀ m t,(∃ord,Ord m ops ord)->(aF m ops t).Nodup/\(∀i,i∈aF m ops t↔i<ops.size)/\
   ∀p i q,aF m ops t=p++i::q-> ∀o,ops[i]? =some o-> ∀e∈o.after,binds .any e=true->e.on∈p:=by
  rintro m t ⟨ord,ho⟩;unfold aF;obtain⟨l,h1,h2,h3⟩:=MG m ops ops.size t (ab ops.size false) [];rw[h1];simp only[a7,bc];obtain⟨hnd,hlt,hp⟩:=h2.facts rfl;exact⟨hnd,λi=>⟨hlt i,complete rfl ho h2 h3 i⟩,λp i q hl o ho e he hb=>hp p i q hl o ho e he (MH hb)⟩
 unfold aG;split
 .exact key .any t ⟨_,W6 hT λe he=>MH he⟩
 split
 .exact key .text _ ⟨_,W6 hT λe he=>he⟩
 exact key .gc _ ⟨_,aoc hG⟩
end
def wO(o:ay)(acc:List (List Nat)):List Nat:=o.after.toList.flatMap λe=>if binds .any e then e.on::(acc[e.on]?).getD []else[]
theorem W7:∀ (rest:List ay) (acc:List (List Nat)),(kY rest acc).take acc.length=acc/\ ∀k o,rest[k]? =some o->(kY rest acc)[acc.length+k]? =some (wO o ((kY rest acc).take (acc.length+k)))
 |[],acc=>⟨by simp[kY],λk o h=>by simp at h⟩
 |r::rest,acc=>by
  obtain⟨h1,h2⟩:=W7 rest (acc++[wO r acc]);have e:kY (r::rest) acc=kY rest (acc++[wO r acc]):=rfl;rw[e];simp only[aY,aZ,bg,bp]at h1 h2;have h0:(kY rest (acc++[wO r acc])).take acc.length=acc:=by
   have:=fU (List.take acc.length) h1;rw[List.take_take,bn (by omega)]at this;rw[this];simp
  refine⟨h0,λk o hk=>?_⟩;cases k with
  |zero=>
   simp at hk;subst hk;have h3:((kY rest (acc++[wO r acc])).take (acc.length+1))[acc.length]? =some (wO r acc):=by rw[h1];simp
   rw[a6 (by omega)]at h3;rw[Nat.add_zero,h3,h0]
  |succ k=>
   have:=h2 k o (by simpa using hk);rwa[show acc.length+1+k=acc.length+(k+1) by omega]at this
section
variable {E:Env} {B:Nat} {F:List Nat} {ops:Array ay}
theorem aof{l:List Nat}(hT:∀ i o,ops[i]? =some o-> ∀e∈o.after,binds .text e=true->e.on<i)(hl:∀ p i q,l=p++i::q-> ∀o,ops[i]? =some o-> ∀e∈o.after,binds .any e=true->e.on∈p):
  ∀(i:Nat) (j:Nat),j∈((kY ops.toList [])[i]?).getD []-> ∀p q,l=p++i::q->j∈p:=by
 intro i
 induction i using Nat.strongRecOn with
 |_ i ih=>
  intro j hj p q hpq;cases ho:ops[i]? with
  |none=>
   exfalso;have hlen:(kY ops.toList []).length<=ops.size:=by
    have:∀ (r:List ay) (a:List (List Nat)),(kY r a).length=a.length+r.length:=by
     intro r
     induction r with
     |nil=>intro a;simp[kY]
     |cons x r ih=>intro a;rw[kY,ih];simp;omega
    rw[this];simp
   have:ops.size<=i:=by
    rcases bk i ops.size with h|h
    .rw[ai h]at ho;cases ho
    exact h
   rw[List.getElem?_eq_none (by omega)]at hj;simp at hj
  |some o=>
   have hs:=(W7 ops.toList []).2 i o (by simpa using ho);simp only[bg,bp]at hs;rw[hs]at hj;simp only[bw,wO,a8]at hj;obtain⟨e,he,hj⟩:=hj;have he':e∈o.after:=by simpa using he
   split at hj
   .rename_i hb;have hlt:=hT i o ho e he' (MH hb);have W8:=hl p i q hpq o ho e he' hb;rcases aO.1 hj with rfl|hj
    .exact W8
    rw[a6 hlt]at hj;obtain⟨p1,p2,hp⟩:=aT W8;have:=ih e.on hlt j hj p1 (p2++i::q) (by rw[hpq,hp];simp);rw[hp];exact aL _ this
   cases hj
theorem W9{h:Nat}{oh:ay}(ho:ops[h]? =some oh)(hA:∀ o:ay,o∈ops.toList->cls o.op=1-> ∀d,o.dst=some d->B+d∈F):∀ (p:List Nat) {st s1 s2:St},(∀x∈p,∃ ox,ops[x]? =some ox/\indep ops.toList oh ox=true)->(∀o:ay,cls o.op=1->(o=oh\/ ∃x∈p,ops[x]? =some o)-> ∀d,o.dst=some d->B+d∈F)->
  Step E B F ops.toList oh st s1->gA E B F ops p s1 s2-> ∃s1',gA E B F ops p st s1'/\Step E B F ops.toList oh s1' s2
 |[],st,s1,s2,_,_,h1,h2=>by simp only[gA]at h2;subst h2;exact⟨st,rfl,h1⟩
 |x::p,st,s1,s2,hi,hF,h1,h2=>by
  obtain⟨ox,hx,aog⟩:=hi x aN;obtain⟨ox',t1,hx',h3,h4⟩:=h2;rw[hx]at hx';cases hx';obtain⟨t0,h5,h6⟩:=swap aog hA (λo ho hc=>hF o hc (by
   rcases ho with rfl|rfl
   .exact .inl rfl
   exact .inr ⟨x,aN,hx⟩)) h1 h3
  obtain⟨s1',h7,h8⟩:=W9 ho hA p (λy hy=>hi y (aM _ hy)) (λo hc hy=>hF o hc (by
   rcases hy with rfl|⟨y,hy,h⟩
   .exact .inl rfl
   exact .inr ⟨y,aM _ hy,h⟩)) h6 h4
  exact⟨s1',⟨ox,t0,hx,h5,h7⟩,h8⟩
theorem reorder(hF:∀ o:ay,cls o.op=1->(∃x:Nat,ops[x]? =some o)-> ∀d,o.dst=some d->B+d∈F)
  (hP:∀ (i j:Nat) (oi oj:ay),i<j->ops[i]? =some oi->ops[j]? =some oj->i∈((kY ops.toList [])[j]?).getD []\/indep ops.toList oi oj=true):∀ (rem l:List Nat) {st cz:St},rem.Pairwise (· < ·)->l.Nodup->(∀i,i∈l↔i∈rem)->
  (∀p i q,l=p++i::q-> ∀j∈((kY ops.toList [])[i]?).getD [],j∉q)->gA E B F ops rem st cz->gA E B F ops l st cz
 |[],l,st,cz,_,_,hm,_,hr=>by
  cases l with
  |nil=>exact hr
  |cons x l=>have:=(hm x).1 aN;cases this
 |h::rem,l,st,cz,hs,hnd,hm,ha,hr=>by
  obtain⟨oh,s1,ho,h1,h2⟩:=hr;obtain⟨p,q,rfl⟩:=aT ((hm h).2 aN);have arR:=hnd;rw[aW]at hnd;obtain⟨hp,hq,hpq⟩:=hnd;rw[aR]at hq;have Xa:h∉p:=λhh=>hpq h hh h aN rfl;have hs':=List.pairwise_cons.1 hs;have hmem:∀ i,i∈p++q↔i∈rem:=by
   intro i;have:=hm i;simp only[aU,aO]at this⊢;constructor
   .intro hi;have h3:i≠h:=by
     rintro rfl;rcases hi with hi|hi
     .exact Xa hi
     exact hq.1 hi
    rcases this.1 (by rcases hi with hi|hi;exact .inl hi;exact .inr (.inr hi))with h4|h4
    .exact(h3 h4).elim
    exact h4
   intro hi;rcases this.2 (.inr hi)with h4|h4|h4
   .exact .inl h4
   .subst h4;exact(Nat.lt_irrefl _ (hs'.1 _ hi)).elim
   exact .inr h4
  have ih:=reorder hF hP rem (p++q) hs'.2 (by
   rw[aW];exact⟨hp,hq.2,λa ha b hb=>hpq a ha b (aM _ hb)⟩) hmem (by
   intro p' i q' hl j hj uO;rcases List.append_eq_append_iff.1 hl with ⟨r,h3,h4⟩|⟨r,h3,h4⟩
   ·
    refine ha (p++h::r) i q' (by rw[h4];simp) j hj uO
   ·
    cases r with
    |nil=>
     simp at h3 h4;refine ha (p++[h]) i q' (by rw[<-h4];simp) j hj uO
    |cons y r=>
     simp only[List.cons_append,List.cons.injEq]at h4;obtain⟨rfl,rfl⟩:=h4;refine ha p' i (r++h::q) (by rw[h3];simp) j hj ?_;simp only[aU,aO]at uO⊢;rcases uO with hh|hh
     .exact .inl hh
     exact .inr (.inr hh)) h2
  rw[gA.append]at ih;obtain⟨s2,h3,h4⟩:=ih;obtain⟨s1',h5,h6⟩:=W9 ho (λo hm hc=>hF o hc (by
   obtain⟨x,hx⟩:=List.getElem?_of_mem hm;exact⟨x,by simpa using hx⟩)) p (λx hx=>by
   have hxl:x∈h::rem:=(hm x).1 (aL _ hx);have hlt:h<x:=by
    rcases aO.1 hxl with rfl|hh
    .exact(Xa hx).elim
    exact hs'.1 x hh
   cases Xb:ops[x]? with
   |none=>
    exfalso;have:∀ (l:List Nat) (s t:St),gA E B F ops l s t-> ∀y∈l,ops[y]? ≠none:=by
     intro l
     induction l with
     |nil=>intro s t _ y hy;cases hy
     |cons z l ihl=>
      rintro s t ⟨o,s1,hz,_,hr⟩ y hy;rcases aO.1 hy with rfl|hy
      .rw[hz];simp
      exact ihl s1 t hr y hy
    exact this p s1 s2 h3 x hx Xb
   |some ox=>
    refine⟨ox,rfl,?_⟩;rcases hP h x oh ox hlt ho Xb with hh|hh
    .exfalso;obtain⟨p1,p2,aoh⟩:=aT hx;refine ha p1 x (p2++h::q) (by rw[aoh];simp) h hh (by simp)
    exact hh) (λo hc hy=>hF o hc (by
    rcases hy with rfl|⟨y,_,h⟩
    .exact⟨_,ho⟩
    exact⟨y,h⟩)) h1 h3
  rw[gA.append];exact⟨s1',h5,oh,s2,ho,h6,h4⟩
theorem aoi(l:List ay)(o:ay)(d:Nat)(h:o∈l)(hc:cls o.op=1)(hd:o.dst=some d):B+d∈ot B l:=by
 induction l with
 |nil=>cases h
 |cons x l ih=>
  rw[ot];by_cases hx:o=x
  .subst hx;rw[bS hc,hd];exact aN
  have h':o∈l:=by
   rcases aO.1 h with e|h'
   .exact(hx e).elim
   exact h'
  by_cases h1:cls x.op=1
  .rw[bS h1];cases x.dst with
   |none=>exact ih h'
   |some d=>exact aM _ (ih h')
  rw[bQ h1];exact ih h'
theorem Xc:∀ (l acc:List Nat) (x:Nat),x∈FV l acc->x∈l\/x∈acc
 |[],acc,x,h=>.inr h
 |y::l,acc,x,h=>by
  rcases Xc l _ x h with h|h
  .exact .inl (aM _ h)
  split at h
  .exact .inr h
  rcases aO.1 h with rfl|h
  .exact .inl (aN ..)
  exact .inr h
theorem MI:∀ (rest:List ay) (a b:List (List Nat)),a.length=b.length->(∀(i x:Nat),x∈(a[i]?).getD []->x∈(b[i]?).getD [])-> ∀(i x:Nat),x∈((FY rest a)[i]?).getD []->x∈((kY rest b)[i]?).getD []
 |[],a,b,_,h=>h
 |o::rest,a,b,hl,h=>by
  refine MI rest _ _ (by simp[hl]) λi x hx=>?_;rw[List.getElem?_append]at hx⊢;rw[<-hl];split at hx
  .rename_i hi;rw[bS hi];exact h i x hx
  rename_i hi;rw[bQ hi];cases hk:i-a.length with
  |zero=>
   rw[hk]at hx;simp only[List.getElem?_cons_zero,bw]at hx⊢;rcases Xc _ _ _ hx with hx|hx
   .rw[a8]at hx⊢;obtain⟨e,he,hx⟩:=hx;refine⟨e,he,?_⟩;split at hx
    .rename_i hb;rw[bS hb];rcases aO.1 hx with rfl|hx
     .exact aN ..
     exact aM _ (h _ _ hx)
    cases hx
   cases hx
  |succ k=>rw[hk]at hx;simp at hx
theorem Xd(h:pN ops=true):(∀i o,ops[i]? =some o-> ∀e∈o.after,binds .text e=true->e.on<i)/\(aF .gc ops 0).length=ops.size/\
  ∀(i j:Nat) (oi oj:ay),i<j->ops[i]? =some oi->ops[j]? =some oj->i∈((kY ops.toList [])[j]?).getD []\/indep ops.toList oi oj=true:=by
 unfold pN at h;simp only[aq]at h;obtain⟨⟨h1,h2⟩,h3⟩:=h;refine⟨?_,by simpa using h3,?_⟩
 .intro i o ho e he hb;have hi:i<ops.size:=by
   rcases bk i ops.size with h|h
   .exact h
   rw[af h]at ho;cases ho
  rw[aS]at h2;have:=h2 i (aQ.2 hi);rw[ho]at this;simp only[bx,bw,ae,au,dN,ar]at this;rcases this e he with h|h
  .exact h
  rw[hb]at h;cases h
 intro i j oi oj hij hoi zb;unfold Vq at h1;rw[aS]at h1;have hj:j<ops.size:=by
  rcases bk j ops.size with h|h
  .exact h
  rw[af h]at zb;cases zb
 have:=h1 j (aQ.2 (by simpa using hj));rw[aS]at this;have:=this i (aQ.2 hij);simp only[au]at this;rcases this with hh|hh
 .left;exact MI ops.toList [] [] rfl (λ_ _ h=>h) j i (by simpa using hh)
 right;have e1:ops.toList[i]? =some oi:=by simpa using hoi
 have e2:ops.toList[j]? =some oj:=by simpa using zb
 rw[e1,e2]at hh;exact hh
structure pU(ops:Array ay)(k:Nat)(l:List Nat):Prop where
 nd:l.Nodup
 mem:∀ i,i∈l↔k<=i/\i<ops.size
 MJ:∀ p i q,l=p++i::q-> ∀j∈((kY ops.toList [])[i]?).getD [],j∉q
theorem aoj(h:pN ops=true)(mixed:Bool)(t:Nat):pU ops 0 (aG mixed ops t):=by
 obtain⟨hT,hG,hP⟩:=Xd h;obtain⟨hnd,hmem,hpre⟩:=aoe hT hG mixed t;refine⟨hnd,λi=>by rw[hmem];omega,λp i q hl j hj uO=>?_⟩;have h1:=aof hT hpre i j hj p q hl;rw[hl,aW]at hnd;exact hnd.2.2 j h1 j (aM _ uO) rfl
theorem Xe(c:Nat):∀ (l:List Nat),(∀p j q,l=p++j::q->c<=j-> ∀i∈q,c<=i)-> ∃p q,l=p++q/\(∀x∈p,x<c)/\(∀x∈q,c<=x)
 |[],_=>⟨[],[],rfl,by simp,by simp⟩
 |x::l,h=>by
  rcases bk x c with hx|hx
  .obtain⟨p,q,h1,h2,h3⟩:=Xe c l λp j q hl hc i hi=>h (x::p) j q (by rw[hl];rfl) hc i hi;refine⟨x::p,q,by rw[h1];rfl,λy hy=>?_,h3⟩;rcases aO.1 hy with rfl|hy
   .exact hx
   exact h2 y hy
  refine⟨[],x::l,rfl,by simp,λy hy=>?_⟩;rcases aO.1 hy with rfl|hy
  .exact hx
  exact h [] x l rfl hx y hy
theorem pU.cut{k c:Nat}{l:List Nat}(h:pU ops k l)(hc:cutAt ops c=true)(hkc:k<=c)(hcs:c<=ops.size):∃ p q,l=p++q/\pU ops c q/\p.Nodup/\(∀i,i∈p↔k<=i/\i<c)/\(∀p1 i q1,p=p1++i::q1-> ∀j∈((kY ops.toList [])[i]?).getD [],j∉q1):=by
 obtain⟨p,q,rfl,h2,h3⟩:=Xe c l (λp j q hl hcj i hi=>by
  rcases bk i c with MK|MK
  .exfalso;have hjm:=(h.mem j).1 (by rw[hl];simp);unfold cutAt at hc;simp only[aS,aQ,au]at hc;rcases hc j hjm.2 with h4|h4
   .rw[br]at h4;omega
   have h5:=h4 i MK;exact h.MJ p j q hl i (MI ops.toList [] [] rfl (λ_ _ h=>h) j i (by simpa using h5)) hi
  exact MK)
 have hnd:=h.nd;rw[aW]at hnd;refine⟨p,q,rfl,⟨hnd.2.1,λi=>?_,λp1 i q1 hl j hj=>?_⟩,hnd.1,λi=>?_,λp1 i q1 hl j hj uO=>?_⟩
 .have:=h.mem i;rw[aU]at this;constructor
  .intro hi;exact⟨h3 i hi,(this.1 (.inr hi)).2⟩
  rintro⟨h4,h5⟩;rcases this.2 ⟨by omega,h5⟩with h6|h6
  .have:=h2 i h6;omega
  exact h6
 .exact h.MJ (p++p1) i q1 (by rw[hl];simp) j hj
 .have:=h.mem i;rw[aU]at this;constructor
  .intro hi;exact⟨(this.1 (.inl hi)).1,h2 i hi⟩
  rintro⟨h4,h5⟩;rcases this.2 ⟨h4,by omega⟩with h6|h6
  .exact h6
  have:=h3 i h6;omega
 exact h.MJ p1 i (q1++q) (by rw[hl];simp) j hj (aL _ uO)
theorem pU.head{k:Nat}{l:List Nat}(h:pU ops k l)(hk:k<ops.size)(hc:cutAt ops (k+1)=true):∃ q,l=k::q/\pU ops (k+1) q:=by
 obtain⟨p,q,rfl,hq,hnd,hm,_⟩:=h.cut hc (Nat.le_succ k) hk;have hp:p=[k]:=by
  cases p with
  |nil=>have:=(hm k).2 ⟨Nat.le_refl _,Nat.lt_succ_self k⟩;cases this
  |cons x p=>
   have h1:=(hm x).1 aN;obtain rfl:x=k:=by omega
   cases p with
   |nil=>rfl
   |cons y p=>
    have h2:=(hm y).1 (by simp);obtain rfl:y=x:=by omega
    simp at hnd
 exact⟨q,by rw[hp];rfl,hq⟩
theorem pU.run{k m:Nat}{l:List Nat}(ML:pN ops=true)(h:pU ops k l)(hc:cutAt ops (k+m)=true)(hm:k+m<=ops.size):∃ p q,l=p++q/\pU ops (k+m) q/\
  ∀st cz,gA E B (ot B ops.toList) ops (bh k m) st cz->gA E B (ot B ops.toList) ops p st cz:=by
 obtain⟨hT,hG,hP⟩:=Xd ML;obtain⟨p,q,rfl,hq,hnd,hmem,aok⟩:=h.cut hc (Nat.le_add_right k m) hm;refine⟨p,q,rfl,hq,λst cz hr=>?_⟩;refine reorder ?_ hP (bh k m) p List.pairwise_lt_range' hnd (λi=>by rw[hmem,List.mem_range'_1]) aok hr;rintro o hc ⟨x,hx⟩ d hd;exact aoi _ o d (by simpa using Array.mem_of_getElem? hx) hc hd
theorem aol{k:Nat}(h:ops.size<=k):cutAt ops k=true:=by
 unfold cutAt;simp only[aS,aQ,au];intro j hj;exact .inl (by rw[br];omega)
end
end Go.Sy
