import Derived.Test.YtjhmdfofhnijeaaGreatDoorS4
import Derived.Carry
import Derived.ChangeArms
import Derived.ChangeSame
import Derived.OpenShut
open Array renaming getElem?_eq_some_iff->aa
open Bool renaming false_eq_true->ab, eq_iff_iff->ae, false_and->af, eq_false_or_eq_true->ai, and_eq_true->aj
open Go renaming Program->ak, TypeId->al, ResultVar->aq, FuncId->ar, Value->au, DataW->av, Oper->ay, World->az, IntKind->aA, Code->aB, MemPlace->aC, Operand->aD, MapEntry->aF, Func->aG, Field->aH
open Go.Cell renaming okWide->aI, ok->aJ
open Go.DataW renaming TrodAll->aK, trod->aL
open Go.Instr renaming findAsking->aM, findNow->aN, findKey->aO, checkKey->aP, sameNow->aQ
open Go.IntKind renaming i64->aR, u8->aS, wrap->aT, u32->aU
open Go.Result renaming andThen_ok->aV
open Go.Sem renaming run_bind->aW
open Inhabited renaming default->aX
open List renaming mem_cons_self->aY, mem_cons_of_mem->aZ, getElem?_eq_getElem->a6, range'->a7, eq_nil_of_length_eq_zero->a8, drop_eq_getElem_cons->ba, drop_drop->bc, take_of_length_le->bd, mem_append_right->bg, getD->bh, mem_append_left->bj, findIdx_getElem->bk, length_append->bl, length_cons->bn, getElem_mem->bp, cons_append->bq, mem_cons->br, mem_map->bu
open List.cons renaming injEq->bw
open Nat renaming le_refl->bx, zero_add->bz, add_comm->bA, add_sub_cancel_left->bB, add_assoc->bD, add_zero->bE, zero_le->bF, ble->bG, le_trans->bH, beq->bI
open Option.some renaming injEq->bJ
set_option linter.all false
namespace Go.Sy
open Go.RowKit
structure Fr where
 base:Nat
 top:Nat
 fl:Bool
inductive It where
 |code (c:aB)
 /-- a region:amm it arV;the slots not to look XI;wx arW;the number of the next one;what is left -/
 |ops (dr:Bool) (F:List Nat) (all:Array ay) (i:Nat) (rest:List ay)
 |blk (id:Nat)
 /-- back XI the aml frame -/
 |fin (res:List aq) (ts:List A) (dst:Option Tmp) (kn:List (Nat×Bool)) (fr:Fr)
 /-- back XI the frame of the iterator that called yield -/
 |wW (L:Nat) (ts:List A) (dst:Option Tmp) (kn:List (Nat×Bool)) (fr:Fr)
 /-- behind the assignment to the arX variables:the body -/
 |gQ (gL:aB) (L:Nat)
 /-- behind the iterator -/
 |wY (L:Nat) (res:List aq) (ts:List A) (fr:Fr)
inductive Lv where
 |go (t:OT) (s:List It) (fr:Fr)
 |out (e:Ex) (st:St)
 |bad
def Ex.r8:Ex->Bool
 | .exit _=>false
 |_=>true
def leave(P:ak):Ex->St->List It->Fr->Lv
 |e,st,[],_=>.out e st
 |e,st,.code _::s,fr=>leave P e st s fr
 |e,st,.ops _ _ _ _ _::s,fr=>leave P e st s fr
 |e,st,.blk id::s,fr=>match e with
  | .exit i=>if i=id then .go (.more [] st) s fr else leave P (.exit i) st s fr
  |e=>leave P e st s fr
 |e,⟨ts',os⟩,.fin res ts dst kn fr'::s,_=>match e.r8 with
  |true=>match jr P ⟨ts',os⟩ res with
   |some l=>.go (gM ⟨ts,os⟩ dst (kk l) (fZ kn dst)) s fr'
   |none=>.bad
  |false=>.bad
 |e,⟨_,os⟩,.wW L ts dst kn fr'::s,_=>match bZ os L with
  | .lp t p a b _ _=>.go (ma os L (.lp t p a b e.gZ e.jump) λos=>gM ⟨ts,os⟩ dst (.kb e.goes) (fZ kn dst)) s fr'
  |_=>.bad
 |_,_,.gQ _ _::_,_=>.bad
 |e,⟨ts',os⟩,.wY L res ts fr'::s,_=>match e.r8 with
  |true=>match jr P ⟨ts',os⟩ res,bZ os L with
   |some _,.lp _ _ _ _ .ready none=>.go (ma os L .dead λos=>.more [] ⟨ts,os⟩) s fr'
   |some _,.lp _ _ _ _ .done (some .ret)=>leave P .ret ⟨ts,cM os L .dead⟩ s fr'
   |some _,.lp _ _ _ _ .done (some (.exit i))=>leave P (.exit i) ⟨ts,cM os L .dead⟩ s fr'
   |_,_=>.bad
  |false=>.bad
inductive Nd where
 |done (e:Ex) (st:St)
 |ite (b:Bool) (t:OT) (s:List It) (t':OT) (s':List It) (fr:Fr)
 |both (t:OT) (s:List It) (t':OT) (s':List It) (fr:Fr)
 |iY (b:Bool) (t:OT) (s:List It) (fr:Fr)
 |fail
 /-- not gone on with -/
 |stop (t:OT) (s:List It) (fr:Fr)
 |loop (body:aB) (st:St) (s:List It) (fr:Fr)
 |call (f:ar) (vals:List A) (cl:Bool) (kn:List (Nat×Bool)) (st:St) (dst:Option Tmp) (s:List It) (fr:Fr)
 /-- a call that changes a row of the frame -/
 |mut (f:ar) (args:List A) (kn:List (Nat×Bool)) (st:St) (dst:Option Tmp) (s:List It) (fr:Fr)
 /-- the next key of a map -/
 |sD (id:Nat) (t:al) (ag:Bool) (n:Nat) (h:List Int->Bool) (v:List Int->A) (seen:List (List Int)) (kn:List (Nat×Bool)) (st:St) (d:Tmp) (s:List It) (fr:Fr)
def resume(B:Nat)(kn:List (Nat×Bool))(st:St)(dst:Option Tmp)(cl:Bool)(r:A×Option Ob):OT:=
 match dst with
 |some d=>match BP B d cl r with
  |some (a,none)=>gM st (some d) a (fZ kn (some d))
  |some (a,some ob)=>sZ B st d a ob (fZ kn (some d))
  |none=>.fail
 |none=>.fail
def nj:List Ob->Nat
 |[]=>0
 |_::l=>nj l+1
def o5(a b:Nat):Nat:=bif bG a b then b else a
def gd{α:Type}(n:Nat)(k:Nat->α):α:=
 match Nat.sub n 0 with
 |0=>k 0
 |m+1=>k (m+1)
theorem lI{α:Type}(n:Nat)(k:Nat->α):gd n k=k n:=by cases n<;>rfl
def tI{α:Type}:List Ob->Nat->(Nat->α)->α
 |[],n,k=>k n
 |_::l,n,k=>gd (n+1) λn=>tI l n k
theorem XJ{α:Type}(k:Nat->α):∀ (l:List Ob) (n:Nat),tI l n k=k (n+nj l)
 |[],n=>rfl
 |_::l,n=>by rw[tI,lI,XJ k l,nj,bD,bA 1]
theorem CR{α:Type}(k:Nat->α)(l:List Ob):tI l 0 k=k (nj l):=by rw[XJ,bz]
def mK:List Nat->Nat->Bool
 |[],_=>false
 |a::l,n=>bif bI a n then true else mK l n
def GP:List Ob->(List Ob->OT)->OT
 |[],k=>k []
 |o::l,k=>BL o λo=>GP l λl=>k (o::l)
def nk(st:St)(k:St->OT):OT:=qG st.tmps λts=>GP st.bR λos=>k ⟨ts,os⟩
def uS:List A->Nat
 |[]=>0
 |_::l=>uS l+1
def CS{α:Type}:List A->Nat->(Nat->α)->α
 |[],n,k=>k n
 |_::l,n,k=>gd (n+1) λn=>CS l n k
theorem XK{α:Type}(k:Nat->α):∀ (l:List A) (n:Nat),CS l n k=k (n+uS l)
 |[],n=>rfl
 |_::l,n=>by rw[CS,lI,XK k l,uS,bD,bA 1]
theorem aoM{α:Type}(k:Nat->α)(l:List A):CS l 0 k=k (uS l):=by rw[XK,bz]
def enters(E:Env)(inl:List ar)(g:ar):Option (aG×aB):=
 bif mK inl g then(match jw E.P g,E.P.funcs[g]? with
  |true,some fn=>match fn.body with
   |some c=>some (fn,c)
   |none=>none
  |_,_=>none)else none
def wZ(o:ay):Option (Nat×al×aD×Tmp):=
 match o.op with
 | .range t x=>(match o.guard,o.dst with|none,some d=>some (0,t,x,d)|_,_=>none)
 | .next x false=>(match o.guard,o.dst with|none,some d=>some (1,0,x,d)|_,_=>none)
 | .entry x=>(match o.guard,o.dst with|none,some d=>some (2,0,x,d)|_,_=>none)
 |_=>none
def XL(E:Env)(B:Nat)(t:al)(x:A)(d:Tmp)(kn:List (Nat×Bool))(st:St):OT:=
 match x with
 | .im t' ag n h v=>if t'=t/\E.nO t=some (ag,n)then gd (B+d) λq=>sZ B st d (.ptr q 0) (.it t ag n h v []) (fZ kn (some d))else .fail
 |_=>.fail
def XM(x:A)(d:Tmp)(kn:List (Nat×Bool))(st:St):OT:=
 match x with
 | .ptr id 0=>(match bZ st.bR id with
  | .it t ag n h v (q::S)=>gM st (some d) (.cG [qS ag q,v q]) (fZ kn (some d))
  |_=>.fail)
 |_=>.fail
def il(E:Env)(inl:List ar):Nat->OT->List It->Fr->Nd
 |0,t,s,fr=>.stop t s fr
 |n+1,t,s,fr=>match t with
  | .ite b t e=>.ite b t s e s fr
  | .fail=>.fail
  | .call kn ⟨ts,os⟩ dst f args=>match s with
   | .ops dr F all i rest::s=>match f with
    | .fn g fN=>bif mK E.mu g then(match uC dr all i with
     |true=>.mut g (args++fN) kn ⟨ts,os⟩ dst (.ops dr F all i rest::s) fr
     |false=>.fail)else match enters E inl g with
     |some (fn,c)=>(match uC dr all i with
      |true=>tI os 0 λln=>gd (o5 fr.top ln) λB'=>gd (B'+fn.ntmps) λT'=>il E inl n (nk (jZ fn.ntmps (args++fN) os) λst=>.more [] st) (.code c:: .fin fn.results.toList ts dst kn fr:: .ops dr F all i rest::s) ⟨B',T',false⟩
      |false=>.fail)
     |none=>match K7 (BO (Le all fr.base F i) os) (.fn g fN) args with
      |some (g,vals,cl)=>.call g vals cl kn ⟨ts,os⟩ dst (.ops dr F all i rest::s) fr
      |none=>.fail
    | .bm g id off=>bif mK E.mu g then(match uC dr all i with
     |true=>.mut g (.ptr id off::args) kn ⟨ts,os⟩ dst (.ops dr F all i rest::s) fr
     |false=>.fail)else match enters E inl g with
     |some (fn,c)=>(match uC dr all i with
      |true=>tI os 0 λln=>gd (o5 fr.top ln) λB'=>gd (B'+fn.ntmps) λT'=>il E inl n (nk (jZ fn.ntmps (.ptr id off::args) os) λst=>.more [] st) (.code c:: .fin fn.results.toList ts dst kn fr:: .ops dr F all i rest::s) ⟨B',T',false⟩
      |false=>.fail)
     |none=>.fail
    | .bv g l=>match enters E inl g with
     |some (fn,c)=>(match uC dr all i with
      |true=>tI os 0 λln=>gd (o5 fr.top ln) λB'=>gd (B'+fn.ntmps) λT'=>il E inl n (nk (jZ fn.ntmps (.agg l::args) os) λst=>.more [] st) (.code c:: .fin fn.results.toList ts dst kn fr:: .ops dr F all i rest::s) ⟨B',T',false⟩
      |false=>.fail)
     |none=>.fail
    | .dA L=>match uC dr all i,bZ os L with
     |true,.lp t p a b .ready q=>bif bI (uS args) p.length then(tI os 0 λln=>gd (o5 fr.top ln) λB'=>CS t 0 λla=>gd (B'+la) λT'=>il E inl n (qG (wT t p args) λts'=>.more [] ⟨ts',os⟩) (.code a:: .gQ b L:: .wW L ts dst kn fr:: .ops dr F all i rest::s) ⟨B',T',true⟩)else .fail
     |_,_=>.fail
    |_=>.fail
   |_=>.fail
  | .more kn ⟨ts,os⟩=>match s with
   |[]=>.done .normal ⟨ts,os⟩
   | .blk _::s=>il E inl n (.more [] ⟨ts,os⟩) s fr
   | .ops _ _ _ _ []::s=>il E inl n (.more [] ⟨ts,os⟩) s fr
   | .ops dr F all i (o::rest)::s=>match wZ o with
    |none=>il E inl n (Lk E fr.base F all.toList ⟨ts,os⟩ kn o) (.ops dr F all (i+1) rest::s) fr
    |some (k,t,x,d)=>match dr,k with
     |false,0=>il E inl n (XL E fr.base t (cQ ts x) d kn ⟨ts,os⟩) (.ops false F all (i+1) rest::s) fr
     |false,1=>(match cQ ts x with
      | .ptr id 0=>(match bZ os id with
       | .it t ag m h v seen=>.sD id t ag m h v seen kn ⟨ts,os⟩ d (.ops false F all (i+1) rest::s) fr
       |_=>.fail)
      |_=>.fail)
     |false,2=>il E inl n (XM (cQ ts x) d kn ⟨ts,os⟩) (.ops false F all (i+1) rest::s) fr
     |_,_=>.fail
   | .gQ gL L::s=>match bZ os L with
    | .lp t p a b .ready q=>il E inl n (ma os L (.lp t p a b .busy q) λos=>.more [] ⟨ts,os⟩) (.code gL::s) fr
    |_=>.fail
   | .fin res ts' dst hY fr'::s=>match leave E.P .normal ⟨ts,os⟩ (.fin res ts' dst hY fr'::s) fr with
    | .go t s fr=>il E inl n t s fr
    | .out e st=>.done e st
    | .bad=>.fail
   | .wW L ts' dst hY fr'::s=>match leave E.P .normal ⟨ts,os⟩ (.wW L ts' dst hY fr'::s) fr with
    | .go t s fr=>il E inl n t s fr
    | .out e st=>.done e st
    | .bad=>.fail
   | .wY L res ts' fr'::s=>match leave E.P .normal ⟨ts,os⟩ (.wY L res ts' fr'::s) fr with
    | .go t s fr=>il E inl n t s fr
    | .out e st=>.done e st
    | .bad=>.fail
   | .code c::s=>match c with
    | .skip=>il E inl n (.more [] ⟨ts,os⟩) s fr
    | .region _ ops false=>il E inl n (.more [] ⟨ts,os⟩) (.ops false [] ops 0 ops.toList::s) fr
    | .region _ ops true=>.iY (pN ops) (.more [] ⟨ts,os⟩) (.ops true (ot fr.base ops.toList) ops 0 ops.toList::s) fr
    | .seq a b=>il E inl n (.more [] ⟨ts,os⟩) (.code a:: .code b::s) fr
    | .cond c a b=>match cQ ts c with
     | .bool q=>.ite q (.more [] ⟨ts,os⟩) (.code a::s) (.more [] ⟨ts,os⟩) (.code b::s) fr
     | .kb true=>il E inl n (.more [] ⟨ts,os⟩) (.code a::s) fr
     | .kb false=>il E inl n (.more [] ⟨ts,os⟩) (.code b::s) fr
     | .lF=>.both (.more [] ⟨ts,os⟩) (.code a::s) (.more [] ⟨ts,os⟩) (.code b::s) fr
     |_=>.fail
    | .block id c=>il E inl n (.more [] ⟨ts,os⟩) (.code c:: .blk id::s) fr
    | .loop c=>.loop c ⟨ts,os⟩ s fr
    | .exit id=>match leave E.P (.exit id) ⟨ts,os⟩ s fr with
     | .go t s fr=>il E inl n t s fr
     | .out e st=>.done e st
     | .bad=>.fail
    | .ret=>match leave E.P .ret ⟨ts,os⟩ s fr with
     | .go t s fr=>il E inl n t s fr
     | .out e st=>.done e st
     | .bad=>.fail
    | .rangeFunc g ps gQ gL=>match fr.fl,cQ ts g with
     |false,.fn gf fN=>match enters E inl gf with
      |some (fn,c)=>tI os 0 λln=>gd (o5 fr.top ln) λL=>gd (L+1) λB'=>gd (L+1+fn.ntmps) λT'=>il E inl n (ma os L (.lp ts ps.toList gQ gL .ready none) λos=>nk (jZ fn.ntmps (.dA L::fN) os) λst=>.more [] st) (.code c:: .wY L fn.results.toList ts fr::s) ⟨B',T',false⟩
      |none=>.fail
     |_,_=>.fail
    |_=>.fail
variable [fI]
def Den(E:Env)(Q:Ex->St->Prop):List It->Fr->Ex->St->List (Nat×Bool)->Prop
 |[],_,e,st,_=>Q e st
 | .code c::s,fr,e,st,_=>match e with
  | .normal=>W E fr.base fr.fl c st λe cz=>Den E Q s fr e cz []
  | .exit i=>Den E Q s fr (.exit i) st []
  | .ret=>Den E Q s fr .ret st []
 | .ops dr F all i rest::s,fr,e,st,kn=>match e with
  | .normal=>rest=all.toList.drop i->jq kn st.tmps->(match dr with
   |false=>WO E fr.base fr.fl all (a7 i rest.length) st λcz=>Den E Q s fr .normal cz []
   |true=>F=ot fr.base all.toList->pN all=true-> ∃m cz,(i+m<=all.size\/m=0)/\cutAt all (i+m)=true/\gA E fr.base F all (a7 i m) st cz/\WD E fr.base fr.fl all (i+m) cz λcz=>Den E Q s fr .normal cz [])
  | .exit i=>Den E Q s fr (.exit i) st []
  | .ret=>Den E Q s fr .ret st []
 | .blk id::s,fr,e,st,_=>match e with
  | .normal=>Den E Q s fr .normal st []
  | .exit i=>if i=id then Den E Q s fr .normal st []else Den E Q s fr (.exit i) st []
  | .ret=>Den E Q s fr .ret st []
 | .fin res ts dst kn fr'::s,_,e,st,_=>e.out/\ ∃l,jr E.P st res=some l/\Den E Q s fr' .normal ⟨dm ts dst (kk l),st.bR⟩ (nb kn dst)
 | .wW L ts dst kn fr'::s,_,e,st,_=>∃ t p a b x y,bZ st.bR L= .lp t p a b x y/\Den E Q s fr' .normal ⟨dm ts dst (.kb e.goes),cM st.bR L (.lp t p a b e.gZ e.jump)⟩ (nb kn dst)
 | .gQ gL L::s,fr,e,st,_=>match e with
  | .normal=>∃ t p a b q,bZ st.bR L= .lp t p a b .ready q/\W E fr.base fr.fl gL ⟨st.tmps,cM st.bR L (.lp t p a b .busy q)⟩ λe cz=>Den E Q s fr e cz []
  |_=>False
 | .wY L res ts fr'::s,_,e,st,_=>e.out/\ ∃r,jr E.P st res=some r/\ ∃t p a b gZ iK,bZ st.bR L= .lp t p a b gZ iK/\(match gZ with| .busy=>False|_=>True)/\GD (λe st=>Den E Q s fr' e st []) ⟨ts,cM st.bR L .dead⟩ iK
def aoN(E:Env)(Q:Ex->St->Prop)(s:List It)(fr:Fr)(kn:List (Nat×Bool))(st:St)(dst:Option Tmp)(f:A)(args:List A):Prop:=
 match s with
 | .ops dr F all i rest::s=>∀ j o,i=j+1->all[j]? =some o->o.dst=dst->ft all.toList st.tmps o=some true->oA o st.tmps f args->rest=all.toList.drop i->jq kn st.tmps->(match dr with
  |false=>WO E fr.base fr.fl all (j::a7 i rest.length) st λcz=>Den E Q s fr .normal cz []
  |true=>F=ot fr.base all.toList->pN all=true-> ∃m cz,(j+m<=all.size\/m=0)/\cutAt all (j+m)=true/\gA E fr.base F all (a7 j m) st cz/\WD E fr.base fr.fl all (j+m) cz λcz=>Den E Q s fr .normal cz [])
 |_=>False
def eH(E:Env)(Q:Ex->St->Prop)(t:OT)(s:List It)(fr:Fr):Prop:=iU (λkn st=>Den E Q s fr .normal st kn) (aoN E Q s fr) t
def w5(E:Env)(Q:Ex->St->Prop):Nd->Prop
 | .done e st=>Q e st
 | .ite b t s t' s' fr=>(b=true->eH E Q t s fr)/\(b=false->eH E Q t' s' fr)
 | .both t s t' s' fr=>eH E Q t s fr/\eH E Q t' s' fr
 | .iY b t s fr=>b=true/\eH E Q t s fr
 | .fail=>False
 | .stop t s fr=>eH E Q t s fr
 | .loop body st s fr=>W E fr.base fr.fl (.loop body) st λe cz=>Den E Q s fr e cz []
 | .call g vals cl kn st dst s fr=>∃ r fh,uJ E.P g vals r fh/\eH E Q (resume fr.base kn st dst (cl||fh) r) s fr
 | .mut g args kn st dst s fr=>(∃id e c n el vals post,bZ st.bR id= .row e c n el/\uz id (cM st.bR id .dead) args=some vals/\mq E.P g vals (.row e c n el) post/\
   ∀gS r,post gS r->eH E Q (ma st.bR id gS λos=>gM ⟨st.tmps,os⟩ dst (eU 0 id 6 r) (fZ kn dst)) s fr)\/
  ∃st1 oC vals r B',jJ st st1/\(∀w O ρ v,RL w O args ρ v->RL w O vals ρ v)/\st1.bR.length<=B'/\pb E.P g vals st1.bR B' r oC/\eH E Q (gM ⟨st1.tmps,oC⟩ dst r (fZ [] dst)) s fr
 | .sD id t ag n h v S kn st d s fr=>(∀q,q.length=n->h q=true->q∉S->eH E Q (ma st.bR id (.it t ag n h v (q::S)) λos=>gM ⟨st.tmps,os⟩ (some d) (.cG [.kb true,qS ag q,v q]) (fZ kn (some d))) s fr)/\
  ((∀q,q.length=n->h q=true->q∈S)->eH E Q (gM st (some d) (.cG [.kb false]) (fZ kn (some d))) s fr)
section
variable {E:Env} {Q:Ex->St->Prop} {inl:List ar}
theorem eH.hZ{kn:List (Nat×Bool)}{st:St}{s:List It}{fr:Fr}:eH E Q (.more kn st) s fr↔Den E Q s fr .normal st kn:=
 ⟨λh=>by cases h;assumption,λh=>.more h⟩
theorem tJ{e:Ex}(h:e.r8=true):e.out:=by cases e<;>first|exact trivial|cases h
theorem r9{st:St}{dst:Option Tmp}{v:A}{kn:List (Nat×Bool)}{s:List It}{fr:Fr}(h:eH E Q (gM st dst v (fZ kn dst)) s fr):Den E Q s fr .normal ⟨dm st.tmps dst v,st.bR⟩ (nb kn dst):=by
 unfold eH at h;rw[rY]at h;exact mI h
def GQ(E:Env)(Q:Ex->St->Prop):Lv->Prop
 | .go t s fr=>eH E Q t s fr
 | .out e st=>Q e st
 | .bad=>False
def It.ends:List It->Bool
 | .fin .. ::_=>true
 | .wW .. ::_=>true
 | .wY .. ::_=>true
 |_=>false
theorem pW:∀ (s:List It) (e:Ex) (st:St) (fr:Fr) (kn:List (Nat×Bool)),(e.goes=false\/It.ends s=true)->GQ E Q (leave E.P e st s fr)->Den E Q s fr e st kn
 |[],e,st,fr,kn,_,h=>by simp only[leave,GQ]at h;simpa only[Den]using h
 | .code c::s,e,st,fr,kn,hc,h=>by
  cases e with
  |normal=>rcases hc with hc|hc<;>cases hc
  |exit i=>simp only[leave]at h;simp only[Den];exact pW s _ st fr [] (.inl rfl) h
  |ret=>simp only[leave]at h;simp only[Den];exact pW s _ st fr [] (.inl rfl) h
 | .ops dr F all i rest::s,e,st,fr,kn,hc,h=>by
  cases e with
  |normal=>rcases hc with hc|hc<;>cases hc
  |exit i=>simp only[leave]at h;simp only[Den];exact pW s _ st fr [] (.inl rfl) h
  |ret=>simp only[leave]at h;simp only[Den];exact pW s _ st fr [] (.inl rfl) h
 | .blk id::s,e,st,fr,kn,hc,h=>by
  cases e with
  |normal=>rcases hc with hc|hc<;>cases hc
  |exit i=>
   simp only[leave]at h;simp only[Den];split
   .rename_i hi;rw[bS hi]at h;exact eH.hZ.1 h
   rename_i hi;rw[bQ hi]at h;exact pW s _ st fr [] (.inl rfl) h
  |ret=>simp only[leave]at h;simp only[Den];exact pW s _ st fr [] (.inl rfl) h
 | .fin res ts dst hY fr'::s,e,⟨ts',os⟩,fr,kn,hc,h=>by
  simp only[leave]at h;split at h
  .rename_i ho;split at h
   .rename_i l hl;simp only[Den];exact⟨tJ ho,l,hl,r9 h⟩
   exact h.elim
  exact h.elim
 | .wW L ts dst hY fr'::s,e,⟨ts',os⟩,fr,kn,hc,h=>by
  simp only[leave]at h;split at h
  .rename_i t p a b x y hl;simp only[Den];refine⟨t,p,a,b,x,y,hl,?_⟩;simp only[GQ,eH]at h;rw[nF]at h;exact r9 h
  exact h.elim
 | .gQ gL L::s,e,st,fr,kn,hc,h=>by simp only[leave]at h;exact h.elim
 | .wY L res ts fr'::s,e,⟨ts',os⟩,fr,kn,hc,h=>by
  simp only[leave]at h;split at h
  .rename_i ho;simp only[Den];refine⟨tJ ho,?_⟩;split at h
   .rename_i r t p a b hr hl;refine⟨r,hr,t,p,a,b,_,_,hl,bP,?_⟩;simp only[GQ,eH]at h;rw[nF]at h;exact eH.hZ.1 h
   .rename_i r t p a b hr hl;exact⟨r,hr,t,p,a,b,_,_,hl,bP,pW s _ _ fr' [] (.inl rfl) h⟩
   .rename_i r t p a b i hr hl;exact⟨r,hr,t,p,a,b,_,_,hl,bP,pW s _ _ fr' [] (.inl rfl) h⟩
   exact h.elim
  exact h.elim
theorem uT:∀ l:List Ob,nj l=l.length
 |[]=>rfl
 |_::l=>by simp[nj,uT l]
theorem XN:∀ l:List A,uS l=l.length
 |[]=>rfl
 |_::l=>by simp[uS,XN l]
theorem zg(a b:Nat):b<=o5 a b:=by
  unfold o5;cases h:bG a b with
  |true=>exact bx _
  | false => simp only [cond_false]; have : ¬ a ≤ b := by rw [← Nat.ble_eq]; simp [h]
             omega
theorem XO:∀ (l:List Ob) (k:List Ob->OT),GP l k=k l
 |[],k=>rfl
 |o::l,k=>by simp only[GP,Mc,XO l]
theorem pX(st:St)(k:St->OT):nk st k=k st:=by unfold nk;rw[Ci,XO]
theorem GR{g:ar}{fn:aG}{c:aB}(h:enters E inl g=some (fn,c)):jw E.P g=true/\E.P.funcs[g]? =some fn/\fn.body=some c:=by
 unfold enters at h;cases hm:mK inl g with
 |false=>rw[hm]at h;cases h
 |true=>
  rw[hm]at h;simp only[cond_true]at h;split at h
  .rename_i fn' he hf;split at h
   .rename_i c' hc;simp only[bJ,Prod.mk.injEq]at h;obtain⟨rfl,rfl⟩:=h;exact⟨he,hf,hc⟩
   cases h
  cases h
theorem Np:∀ (l:List Ob) (L:Nat) (o:Ob),(cM l L o).length=max l.length (L+1)
 |[],0,o=>by simp[cM]
 |[],L+1,o=>by simp[cM,Np [] L o]
 |a::l,0,o=>by simp[cM]
 |a::l,L+1,o=>by simp[cM,Np l L o]
theorem drop_cons{all:Array ay}{i:Nat}{o:ay}{rest:List ay}(h:o::rest=all.toList.drop i):all[i]? =some o/\rest=all.toList.drop (i+1):=by
 have h1:(all.toList.drop i)[0]? =some o:=by rw[<-h];rfl
 refine⟨by simpa using h1,?_⟩;have:(all.toList.drop i).drop 1=rest:=by rw[<-h];rfl
 rw[<-this,bc,bA]
theorem aoO{all:Array ay}{B:Nat}{F:List Nat}{j:Nat}{o:ay}(ho:all[j]? =some o):Le all B F (j+1)=ga B F o:=by
 unfold Le;cases F with
 |nil=>rfl
 |cons s F=>
  have:∀ (l:List ay) (j:Nat),l[j]? =some o-> ∃r,jE j l=o::r:=by
   intro l
   induction l with
   |nil=>intro j h;simp at h
   |cons a l ih=>
    intro j h;cases j with
    |zero=>simp at h;subst h;exact⟨l,rfl⟩
    |succ j=>exact ih j (by simpa using h)
  obtain⟨r,hr⟩:=this all.toList j (by simpa using ho);simp only[hr]
theorem uU{E:Env}{Q:Ex->St->Prop}(hE:ib E){F:List Nat}{all:Array ay}{j:Nat}{rest:List ay}{st:St}{dr:Bool}{i:Nat}{s:List It}{fr:Fr}{o:ay}(ho:all[j]? =some o)(hs:uC dr all i=true)(hi:i=j+1)(mL:rest=all.toList.drop (j+1))
  (h:∀ l,(∀cz kn,jq kn cz.tmps->Den E Q (.ops dr F all (j+1) rest::s) fr .normal cz kn->(dr=true->F=ot fr.base all.toList/\pN all=true)->WO E fr.base fr.fl all l cz λcz=>Den E Q s fr .normal cz [])->(dr=true->F=ot fr.base all.toList/\pN all=true)->WO E fr.base fr.fl all (j::l) st λcz=>Den E Q s fr .normal cz []):
  (match dr with
  |false=>WO E fr.base fr.fl all (j::a7 (j+1) rest.length) st λcz=>Den E Q s fr .normal cz []
  |true=>F=ot fr.base all.toList->pN all=true-> ∃m cz,(j+m<=all.size\/m=0)/\cutAt all (j+m)=true/\gA E fr.base F all (a7 j m) st cz/\WD E fr.base fr.fl all (j+m) cz λcz=>Den E Q s fr .normal cz []):=by
 subst hi;have hjs:j<all.size:=(aa.1 ho).1;cases dr with
 |false=>
  refine h _ (λcz kn hk hd _=>?_) (λh=>by cases h);simp only[Den]at hd;exact hd mL hk
 |true=>
  intro hF hc;simp only[uC,aj]at hs;refine⟨0,st,.inr rfl,by simpa using hs.1,rfl,λl hl=>?_⟩;obtain⟨q,rfl,hq⟩:=pU.head hl hjs hs.2;refine h q (λcz kn hk hd hh=>?_) (λ_=>⟨hF,hc⟩);simp only[Den]at hd;obtain⟨m,s2,h1,h2,h3,h4⟩:=hd mL hk hF hc;rw[hF]at h3;exact WD.run hE hc h1 h2 h3 h4 q hq
theorem aoP{o:ay}{t:al}{x:aD}{d:Tmp}(h:wZ o=some (0,t,x,d)):o.guard=none/\o.dst=some d/\o.op= .range t x:=by
 unfold wZ at h;split at h<;>(try (split at h))<;>simp_all
theorem aoQ{o:ay}{t:al}{x:aD}{d:Tmp}(h:wZ o=some (1,t,x,d)):o.guard=none/\o.dst=some d/\o.op= .next x false:=by
 unfold wZ at h;split at h<;>(try (split at h))<;>simp_all
theorem aoR{o:ay}{t:al}{x:aD}{d:Tmp}(h:wZ o=some (2,t,x,d)):o.guard=none/\o.dst=some d/\o.op= .entry x:=by
 unfold wZ at h;split at h<;>(try (split at h))<;>simp_all
theorem kJ(hE:ib E):∀ (n:Nat) (t:OT) (s:List It) (fr:Fr),w5 E Q (il E inl n t s fr)->eH E Q t s fr
 |0,t,s,fr,h=>h
 |n+1,t,s,fr,h=>by
  cases t with
  |ite b t e=>
   simp only[il,w5]at h;exact .ite h.1 h.2
  |fail=>simp only[il,w5]at h
  |call kn st dst f args=>
   obtain⟨ts,os⟩:=st;simp only[il]at h;split at h
   .rename_i dr F all i rest s;refine .call ?_;intro j o hij ho gj hg oz mL hk;subst hij;split at h
    ·
     rename_i g fN;rcases ai (mK E.mu g)with w6|w6
     .rw[w6,cond_true]at h;split at h
      .rename_i o6;rcases h with h|⟨st1,oC,vals,r,B',h1,h2,h3,h4,h5⟩
       case inr=>
        refine uU hE ho o6 rfl mL λl hl hh=>WO.xo ho hg oz h1 h2 h3 h4 ?_;have h6:=r9 h5;rw[gj];exact hl _ _ ((show jq [] st1.tmps from λd v h=>by cases h).erase _ _) h6 hh
       obtain⟨id,e,c,n,el,vals,post,h1,h2,h3,h4⟩:=h;refine uU hE ho o6 rfl mL λl hl hh=>WO.mut id ho hg oz h1 h2 h3 λgS r hp=>?_;have h5:=h4 gS r hp;unfold eH at h5;rw[nF]at h5;have h6:=r9 (show eH E Q _ _ fr from h5);rw[gj];exact hl _ _ (hk.erase _ _) h6 hh
      exact h.elim
     rw[w6,cond_false]at h;split at h
     ·
      rename_i fn c w7;split at h
      case h_2=>exact h.elim
      rename_i o6;refine uU hE ho o6 rfl mL λq hl hh=>?_;obtain⟨he,hf,hb⟩:=GR w7;rw[CR,lI,lI]at h;have h1:=kJ hE n _ _ _ h;rw[pX]at h1;have h2:=eH.hZ.1 h1;rw[Den]at h2;refine WO.inl ho hg oz he hf hb (B':=o5 fr.top (nj os)) (by rw[<-uT];exact zg _ _) (h2.mono ?_);intro e s1 h9;rw[Den]at h9;obtain⟨h3,l,h4,h5⟩:=h9;refine⟨h3,l,h4,?_⟩;rw[gj];exact hl _ _ (hk.erase _ _) h5 hh
     ·
      split at h
      .rename_i g' vals cl hcp;obtain⟨r,fh,hfn,hs⟩:=h;obtain⟨cx,as,oB,hop,lH,hav⟩:=oz;cases hd:dst with
       |none=>rw[hd]at hs;simp only[resume]at hs;cases hs
       |some d=>
        rw[hd]at hs;simp only[resume]at hs;have key:∀ (a:A) (ob:Option Ob),BP fr.base d (cl||fh) r=some (a,ob)-> ∀s1,(match ob with|none=>s1=⟨dm ts (some d) a,os⟩|some x=>bZ os (fr.base+d)= .de/\s1=⟨eS ts d a,cM os (fr.base+d) x⟩)->Step E fr.base F all.toList o ⟨ts,os⟩ s1:=by
         intro a ob iT s1 hs1;unfold Step;rw[hg];simp only;have hcl:cls o.op=1:=by rw[hop];rfl
         rw[hcl];simp only;refine⟨by unfold mD;rw[hop];split<;>rfl,a,ob,?_,?_⟩
         .unfold gD;rw[hop];simp only;refine⟨g',vals,cl,r,fh,d,?_,hfn,by rw[gj,hd],iT⟩;rw[<-lH,<- hav,<- aoO ho,<- Ld];exact hcp
         cases ob with
         |none=>simp only at hs1 ⊢;rw[gj,hd];exact hs1
         |some x=>exact⟨d,by rw[gj,hd],hs1⟩
        split at hs
        .rename_i a iT;have h2:=r9 hs;have h3:=h2 mL (hk.erase _ _);cases dr with
         |false=>exact WO.step hE ho (key a none iT _ rfl) h3
         |true=>
          intro hF hc;obtain⟨m,cz,h4,h5,h6,h7⟩:=h3 hF hc;exact⟨m+1,cz,.inl (by have:=(aa.1 ho).1;omega),by rw[show j+(m+1)=j+1+m by omega];exact h5,⟨o,_,ho,key a none iT _ rfl,h6⟩,by rw[show j+(m+1)=j+1+m by omega];exact h7⟩
        .rename_i a ob iT;unfold eH at hs;obtain⟨hv,hs⟩:=wL hs;have h2:=mI hs;have hk2:jq (nb kn (some d)) (eS ts d a):=hk.erase (some d) a;have h3:=h2 mL hk2;cases dr with
         |false=>exact WO.step hE ho (key a (some ob) iT _ ⟨hv,rfl⟩) h3
         |true=>
          intro hF hc;obtain⟨m,cz,h4,h5,h6,h7⟩:=h3 hF hc;exact⟨m+1,cz,.inl (by have:=(aa.1 ho).1;omega),by rw[show j+(m+1)=j+1+m by omega];exact h5,⟨o,_,ho,key a (some ob) iT _ ⟨hv,rfl⟩,h6⟩,by rw[show j+(m+1)=j+1+m by omega];exact h7⟩
        cases hs
      exact h.elim
    ·
     rename_i g id off;rcases ai (mK E.mu g)with w6|w6
     .rw[w6,cond_true]at h;split at h
      .rename_i o6;rcases h with h|⟨st1,oC,vals,r,B',h1,h2,h3,h4,h5⟩
       case inl=>
        obtain⟨id',e,c,n,el,vals,post,h1,h2,h3,h4⟩:=h;refine uU hE ho o6 rfl mL λl hl hh=>WO.aoy id' ho hg oz h1 h2 h3 λgS r hp=>?_;have h5:=h4 gS r hp;unfold eH at h5;rw[nF]at h5;have h6:=r9 (show eH E Q _ _ fr from h5);rw[gj];exact hl _ _ (hk.erase _ _) h6 hh
       refine uU hE ho o6 rfl mL λl hl hh=>WO.aow ho hg oz h1 h2 h3 h4 ?_;have h6:=r9 h5;rw[gj];exact hl _ _ ((show jq [] st1.tmps from λd v h=>by cases h).erase _ _) h6 hh
      exact h.elim
     rw[w6,cond_false]at h;split at h
     ·
      rename_i fn c w7;split at h
      case h_2=>exact h.elim
      rename_i o6;refine uU hE ho o6 rfl mL λq hl hh=>?_;obtain⟨he,hf,hb⟩:=GR w7;rw[CR,lI,lI]at h;have h1:=kJ hE n _ _ _ h;rw[pX]at h1;have h2:=eH.hZ.1 h1;rw[Den]at h2;refine WO.aou ho hg oz he hf hb (B':=o5 fr.top (nj os)) (by rw[<-uT];exact zg _ _) (h2.mono ?_);intro e s1 h9;rw[Den]at h9;obtain⟨h3,l,h4,h5⟩:=h9;refine⟨h3,l,h4,?_⟩;rw[gj];exact hl _ _ (hk.erase _ _) h5 hh
     exact h.elim
    ·
     rename_i g l;split at h
     .rename_i fn c w7;split at h
      case h_2=>exact h.elim
      rename_i o6;refine uU hE ho o6 rfl mL λq hl hh=>?_;obtain⟨he,hf,hb⟩:=GR w7;rw[CR,lI,lI]at h;have h1:=kJ hE n _ _ _ h;rw[pX]at h1;have h2:=eH.hZ.1 h1;rw[Den]at h2;refine WO.aov ho hg oz he hf hb (B':=o5 fr.top (nj os)) (by rw[<-uT];exact zg _ _) (h2.mono ?_);intro e s1 h9;rw[Den]at h9;obtain⟨h3,l,h4,h5⟩:=h9;refine⟨h3,l,h4,?_⟩;rw[gj];exact hl _ _ (hk.erase _ _) h5 hh
     exact h.elim
    ·
     rename_i L;split at h
     .rename_i t p a b q o6 qQ;refine uU hE ho o6 rfl mL λlq hl hh=>?_;cases yW:bI (uS args) p.length with
      |false=>rw[yW]at h;exact h.elim
      |true=>
       rw[yW]at h;simp only[cond_true]at h;have hlen:args.length=p.length:=by rw[<-XN];exact Nat.eq_of_beq_eq_true yW
       rw[CR,lI,aoM,lI]at h;have h1:=kJ hE n _ _ _ h;rw[Ci]at h1;have h2:=eH.hZ.1 h1;rw[Den]at h2;refine WO.yield ho hg oz qQ hlen (B':=o5 fr.top (nj os)) (by rw[<-uT];exact zg _ _) (h2.mono ?_);intro e s1 h3;cases e with
       |normal=>
        rw[Den]at h3;obtain⟨t1,p1,a1,b1,q1,h4,h5⟩:=h3;refine⟨t1,p1,a1,b1,q1,h4,h5.mono ?_⟩;intro e2 s2 h9;rw[Den]at h9;obtain⟨t2,p2,a2,b2,x2,y2,h6,h7⟩:=h9;refine⟨t2,p2,a2,b2,x2,y2,h6,?_⟩;rw[gj];exact hl _ _ (hk.erase _ _) h7 hh
       |exit i=>simp only[Den]at h3
       |ret=>simp only[Den]at h3
     exact h.elim
    exact h.elim
   exact h.elim
  |more kn st=>
   obtain⟨ts,os⟩:=st;rw[eH.hZ];have lv:∀ (e:Ex) (s:List It) (st:St) (kn:List (Nat×Bool)),(e.goes=false\/It.ends s=true)->w5 E Q (match leave E.P e st s fr with| .go t s fr=>il E inl n t s fr| .out e st=>.done e st| .bad=>.fail)->Den E Q s fr e st kn:=by
    intro e s st kn hc h;refine pW s e st fr kn hc ?_;cases hl:leave E.P e st s fr with
    |go t s' fr'=>rw[hl]at h;exact kJ hE n _ _ _ h
    |out e st=>rw[hl]at h;exact h
    |bad=>rw[hl]at h;exact h
   simp only[il]at h;split at h
   .exact h
   .rename_i s _;have:=eH.hZ.1 (kJ hE n _ _ _ h);simpa only[Den]using this
   .rename_i dr F all i s;have h1:=eH.hZ.1 (kJ hE n _ _ _ h);simp only[Den];intro _ _;cases dr with
    |false=>exact WO.nil h1
    |true=>
     rename_i mO _;intro hF hc;have hsz:all.size<=i:=by
      have:=fU List.length mO;simp at this;omega
     refine⟨0,_,.inr rfl,aol (by omega),rfl,λl hl=>?_⟩;have:l=[]:=by
      cases l with
      |nil=>rfl
      |cons x l=>have:=(hl.mem x).1 aY;omega
     subst this;exact WO.nil h1
   .rename_i dr F all i o rest s;simp only[Den];intro mL hk;obtain⟨ho,zh⟩:=drop_cons mL;split at h
    case h_2=>
     rename_i k t x d hmo;split at h
     ·
      obtain⟨hg,hd,hop⟩:=aoP hmo;have h1:=kJ hE n _ _ _ h;unfold XL at h1;split at h1
      case h_2=>cases h1
      rename_i t' ag m hh v hx;split at h1
      case isFalse=>cases h1
      rename_i hc;obtain⟨rfl,hm⟩:=hc;rw[lI]at h1;obtain⟨hv,h2⟩:=wL h1;have h3:=mI h2;exact WO.c7 hE ho hg hd hop hx hm hv (h3 zh (hk.erase (some d) _))
     .obtain⟨hg,hd,hop⟩:=aoQ hmo;split at h
      case h_2=>exact h.elim
      rename_i id hx;split at h
      case h_2=>exact h.elim
      rename_i t ag m hh v S cy;obtain⟨h1,h2⟩:=h;refine WO.sD ho hg hd hop hx cy (λq hq oU CQ=>?_) λhall=>?_
      .have h3:=h1 q hq oU CQ;unfold eH at h3;rw[nF]at h3;exact r9 (show eH E Q _ _ fr from h3) zh (hk.erase (some d) _)
      exact r9 (h2 hall) zh (hk.erase (some d) _)
     .obtain⟨hg,hd,hop⟩:=aoR hmo;have h1:=kJ hE n _ _ _ h;unfold XM at h1;split at h1
      case h_2=>cases h1
      rename_i id hx;split at h1
      case h_2=>cases h1
      rename_i t ag m hh v q S cy;exact WO.lh ho hg hd hop hx cy (r9 h1 zh (hk.erase (some d) _))
     exact h.elim
    have h1:=kJ hE n _ _ _ h;unfold eH at h1;rcases anv hk h1 with ⟨cz,hY,hs,hk',h2⟩|⟨hY,f,args,hg,hk',hc,h2⟩
    .have h3:=h2 zh hk';cases dr with
     |false=>exact WO.step hE ho hs h3
     |true=>
      intro hF hc;obtain⟨m,nI,h4,h5,h6,h7⟩:=h3 hF hc;exact⟨m+1,nI,.inl (by have:=(aa.1 ho).1;omega),by rw[show i+(m+1)=i+1+m by omega];exact h5,⟨o,cz,ho,hs,h6⟩,by rw[show i+(m+1)=i+1+m by omega];exact h7⟩
    have h3:=h2 i o rfl ho rfl hg hc zh hk';cases dr with
    |false=>exact h3
    |true=>exact h3
   .rename_i gL L s;split at h
    .rename_i t p a b q qQ;have h1:=kJ hE n _ _ _ h;rw[nF]at h1;have h2:=eH.hZ.1 h1;simp only[Den]at h2⊢;exact⟨t,p,a,b,q,qQ,h2⟩
    exact h.elim
   .exact lv .normal _ _ kn (.inr rfl) h
   .exact lv .normal _ _ kn (.inr rfl) h
   .exact lv .normal _ _ kn (.inr rfl) h
   rename_i c s;split at h
   .exact W.skip (eH.hZ.1 (kJ hE n _ _ _ h))
   .rename_i id ops;have h1:=eH.hZ.1 (kJ hE n _ _ _ h);simp only[Den]at h1⊢;refine W.region ?_;have:=h1 (by simp) (λd v h=>by simp[pL]at h);rw[List.range_eq_range'];simpa using this
   .rename_i id ops;obtain⟨hb,h1⟩:=h;have h1:=eH.hZ.1 h1;simp only[Den]at h1⊢;obtain⟨m,cz,h2,h3,h4,h5⟩:=h1 (by simp) (λd v h=>by simp[pL]at h) trivial hb;exact W.draw hb (WD.run hE hb h2 h3 h4 h5)
   .rename_i a b;have h1:=eH.hZ.1 (kJ hE n _ _ _ h);simp only[Den]at h1⊢;exact W.seq (h1.mono λe s1 h2=>by cases e<;>exact h2)
   .rename_i x a b;simp only[Den];split at h
    .rename_i q hq;exact W.MM (.inl hq) (λe=>eH.hZ.1 (h.1 e)) λe=>eH.hZ.1 (h.2 e)
    .rename_i hq;exact W.MM (.inr hq) (λ_=>eH.hZ.1 (kJ hE n _ _ _ h)) λe=>by cases e
    .rename_i hq;exact W.MM (.inr hq) (λe=>by cases e) λ_=>eH.hZ.1 (kJ hE n _ _ _ h)
    .rename_i hq;exact W.aom hq (eH.hZ.1 h.1) (eH.hZ.1 h.2)
    exact h.elim
   .rename_i id c;have h1:=eH.hZ.1 (kJ hE n _ _ _ h);simp only[Den]at h1⊢;exact W.block (h1.mono λe s1 h2=>by cases e<;>exact h2)
   .exact h
   .rename_i id;simp only[Den];exact W.exit (lv (.exit id) s _ [] (.inl rfl) h)
   .simp only[Den];exact W.ret (lv .ret s _ [] (.inl rfl) h)
   .rename_i g ps gQ gL;split at h
    .rename_i gf fN gx hg;split at h
     .rename_i fn c w7;obtain⟨he,hf,hb⟩:=GR w7;rw[CR,lI,lI,lI]at h;have h1:=kJ hE n _ _ _ h;rw[nF,pX]at h1;have h2:=eH.hZ.1 h1;simp only[Den]at h2⊢;rw[gx];refine W.range (L:=o5 fr.top (nj os)) (B':=o5 fr.top (nj os)+1) hg he hf hb (Gs _ _ (by rw[<-uT];exact zg _ _)) ?_ ?_
      .rw[Np];have:=zg fr.top (nj os);rw[uT]at this⊢;simp only;omega
      exact h2.mono λe s1 h3=>h3
     exact h.elim
    exact h.elim
   exact h.elim
end
end Go.Sy
namespace Go.Sy
theorem wrap_i64{n:Int}(h:-9223372036854775808<=n)(h':n<=9223372036854775807):aR.wrap n=n:=by
 have hb:aR.bits=64:=rfl;have hs:aR.signed=true:=rfl;unfold aT;simp only[hb,hs,Bool.true_and];have e1:(2:Int)^64=18446744073709551616:=by decide
 have e2:(2:Int)^(64-1)=9223372036854775808:=by decide
 rw[e1,e2];simp only[ge_iff_le,dN];split<;>omega
theorem wrap_u8{n:Int}(h:0<=n)(h':n<=255):aS.wrap n=n:=by
 have hb:aS.bits=8:=rfl;have hs:aS.signed=false:=rfl;unfold aT;simp only[hb,hs,af];have e1:(2:Int)^8=256:=by decide
 rw[e1];simp only[ab,ic];omega
variable [fI]
def CT(P:ak)(kt:al->Option (List CK)):Nat->List aH->Option (List CK)
 |_,[]=>some []
 |off,f::fs=>match kt f.type with
  |some ks=>if f.offset=off/\f.name≠ "_" /\gY P f.type=some ks.length/\0<ks.length then(match CT P kt (off+ks.length) fs with
    |some m=>some (ks++m)
    |none=>none)else none
  |none=>none
def rG(P:ak):Nat->al->Option (List CK)
 |0,_=>none
 |d+1,t=>match P.underlying t with
  |some .bool=>some [.b]
  |some (.int k)=>some [.i k]
  |some .string=>some [.s]
  |some (.struct fs)=>if P.stoodInHeld t then none else CT P (rG P d) 0 fs.toList
  |_=>none
def mM(P:ak)(t:al)(xs:List au):au:=
 match P.underlying t,xs with
 |some (.struct _),xs=>.agg xs.toArray
 |_,[v]=>v
 |_,xs=>.agg xs.toArray
theorem zi:∀ {ks:List CK} {xs ys:List au} {b:Bool},iL ks xs ys=some b->xs.length=ks.length/\ys.length=ks.length
 |[],[],[],b,_=>⟨rfl,rfl⟩
 |c::cs,x::xs,y::ys,b,h=>by
  simp only[iL]at h;split at h
  .rename_i p q hp hq;obtain⟨h1,h2⟩:=zi hq;simp[h1,h2]
  cases h
 |[],_::_,_,_,h=>by simp[iL]at h
 |[],[],_::_,_,h=>by simp[iL]at h
 |_::_,[],_,_,h=>by simp[iL]at h
 |_::_,_::_,[],_,h=>by simp[iL]at h
theorem XP:∀ {ks ms:List CK} {xs ys:List au} {b:Bool},iL (ks++ms) xs ys=some b->
  ∃b1 b2,iL ks (xs.take ks.length) (ys.take ks.length)=some b1/\iL ms (xs.drop ks.length) (ys.drop ks.length)=some b2/\b=(b1&&b2)
 |[],ms,xs,ys,b,h=>⟨true,b,by simp[iL],by simpa using h,by simp⟩
 |c::cs,ms,x::xs,y::ys,b,h=>by
  simp only[bq,iL]at h;split at h
  .rename_i p q hp hq;obtain⟨b1,b2,h1,h2,rfl⟩:=XP hq;simp only[bJ]at h;refine⟨p&&b1,b2,?_,by simpa using h2,by rw[<-h];cases p<;>rfl⟩;simp only[bn,List.take_succ_cons,iL,hp,h1]
  cases h
 |_::_,_,[],_,_,h=>by simp[iL]at h
 |_::_,_,_::_,[],_,h=>by simp[iL]at h
theorem aoS{x y:au}{p:Bool}(h:rO .b x y=some p):∃ a c,x= .bool a/\y= .bool c/\p=(a==c):=by
 cases x<;>cases y<;>simp[rO]at h;exact⟨_,_,rfl,rfl,h.symm⟩
theorem aoT{k:aA}{x y:au}{p:Bool}(h:rO (.i k) x y=some p):∃ a c,x= .int k a/\y= .int k c/\p=(a==c):=by
 cases x<;>cases y<;>simp[rO]at h;obtain⟨⟨rfl,rfl⟩,h⟩:=h;exact⟨_,_,rfl,rfl,h.symm⟩
theorem aoU{x y:au}{p:Bool}(h:rO .s x y=some p):∃ a c,x= .string a/\y= .string c/\p=(a.toList==c.toList):=by
 cases x<;>cases y<;>simp[rO]at h;exact⟨_,_,rfl,rfl,h.symm⟩
theorem XQ{P:ak}{w:az}{t:al}{ks:List CK}{d off:Nat}{xs:List au}(hk:rG P d t=some ks)(hs:gY P t=some ks.length)(hl:off+ks.length<=xs.length):
  (part t xs.toArray off).run P w= .ok (mM P t ((xs.drop off).take ks.length)) w:=by
 cases d with
 |zero=>cases hk
 |succ d=>
  simp only[rG]at hk;have Nq:∀ (td:TypeDesc),P.underlying t=some td->jn P t=some false->ks.length=1->(∀ys,mM P t ys=match ys with|[v]=>v|ys=>.agg ys.toArray)->
    (part t xs.toArray off).run P w= .ok (mM P t ((xs.drop off).take ks.length)) w:=by
   intro td hu hag lg hval;have hv:xs[off]? =some (xs[off]'(by omega)):=a6 (by omega);have e:(xs.drop off).take ks.length=[xs[off]'(by omega)]:=by
    rw[lg,ba (by omega)];rfl
   rw[e,hval];simp[part,yT hag,hv]
  split at hk
  .rename_i hu;simp at hk;subst hk;exact Nq _ hu (by simp[jn,hu]) rfl (λys=>by unfold mM;rw[hu];split<;>simp_all)
  .rename_i k hu;simp at hk;subst hk;exact Nq _ hu (by simp[jn,hu]) rfl (λys=>by unfold mM;rw[hu];split<;>simp_all)
  .rename_i hu;simp at hk;subst hk;exact Nq _ hu (by simp[jn,hu]) rfl (λys=>by unfold mM;rw[hu];split<;>simp_all)
  .rename_i fs hu;have hag:jn P t=some true:=by simp[jn,hu]
   have hval:∀ ys,mM P t ys= .agg ys.toArray:=λys=>by unfold mM;rw[hu]
   rw[hval];simp only[part,aW,yT hag,aV,iy hs,iI,Sem.run_pure,List.extract_toArray,List.extract_eq_take_drop,bB]
  cases hk
theorem XR{P:ak}{w:az}:∀ (d:Nat) {t:al} {ks:List CK} {D:Nat} {xs ys:List au} {b:Bool},rG P d t=some ks->d<=D->iL ks xs ys=some b->
  (Op.equalIn D t (mM P t xs) (mM P t ys)).run P w= .ok b w
 |0,t,ks,D,xs,ys,b,hk,_,_=>by cases hk
 |d+1,t,ks,D,xs,ys,b,hk,hD,he=>by
  obtain⟨D,rfl⟩:∃ k,D=k+1:=⟨D-1,by omega⟩;simp only[rG]at hk;split at hk
  .rename_i hu;simp at hk;subst hk;obtain⟨hx,hy⟩:=zi he
   match xs,ys,hx,hy with
   |[x],[y],_,_=>
    simp only[iL]at he;split at he
    .rename_i p q hp hq;obtain⟨_,_,rfl,rfl,rfl⟩:=aoS hp;simp at hq;subst hq;simp at he;subst he;unfold mM;rw[hu];simp only;rw[run_equalIn_bool' w D t _ _ hu]
    cases he
  .rename_i k hu;simp at hk;subst hk;obtain⟨hx,hy⟩:=zi he
   match xs,ys,hx,hy with
   |[x],[y],_,_=>
    simp only[iL]at he;split at he
    .rename_i p q hp hq;obtain⟨_,_,rfl,rfl,rfl⟩:=aoT hp;simp at hq;subst hq;simp at he;subst he;unfold mM;rw[hu];simp only;rw[run_equalIn_int w D t _ _ _ _ hu]
    cases he
  .rename_i hu;simp at hk;subst hk;obtain⟨hx,hy⟩:=zi he
   match xs,ys,hx,hy with
   |[x],[y],_,_=>
    simp only[iL]at he;split at he
    .rename_i p q hp hq;obtain⟨_,_,rfl,rfl,rfl⟩:=aoU hp;simp at hq;subst hq;simp at he;subst he;unfold mM;rw[hu];simp only;rw[run_equalIn_string w D t _ _ hu]
    cases he
  .rename_i fs hu;split at hk
   .cases hk
   rename_i hst;have hval:∀ ys,mM P t ys= .agg ys.toArray:=λys=>by unfold mM;rw[hu]
   rw[hval,hval];have x5:P.fieldsOf t=fs:=by simp[Program.fieldsOf,hu]
   rw[run_equalIn_struct w D t _ _ (by rw[x5];exact hu) (by simpa using hst),x5];have key:∀ (fl:List aH) (off:Nat) (ms:List CK) (b:Bool),CT P (rG P d) off fl=some ms->iL ms (xs.drop off) (ys.drop off)=some b->(Op.eqFields D xs.toArray ys.toArray fl).run P w= .ok b w:=by
    intro fl
    induction fl with
    |nil=>
     intro off ms b hk he;simp[CT]at hk;subst hk;obtain⟨hx,hy⟩:=zi he;have ex:xs.drop off=[]:=a8 (by simpa using hx);have ey:ys.drop off=[]:=a8 (by simpa using hy);rw[ex,ey]at he;simp[iL]at he;subst he;simp[Op.eqFields]
    |cons f fl ih=>
     intro off ms b hk he;simp only[CT]at hk;split at hk
     .rename_i ks hks;split at hk
      .rename_i hc;obtain⟨rfl,hnm,hsz,arY⟩:=hc;split at hk
       .rename_i m hm;simp at hk;subst hk;obtain⟨b1,b2,h1,h2,rfl⟩:=XP he;obtain⟨hx,hy⟩:=zi he;simp only[List.length_drop,bl]at hx hy;have px:=XQ (w:=w) hks hsz (xs:=xs) (off:=f.offset) (by omega);have py:=XQ (w:=w) hks hsz (xs:=ys) (off:=f.offset) (by omega);have he1:=XR d (D:=D) (w:=w) hks (by omega) h1;simp only[Op.eqFields,ne_eq,hnm,not_false_eq_true,iI,aW,px,py,aV,he1];simp only[bc]at h2;have:=ih (f.offset+ks.length) m b2 hm (by simpa[bA]using h2);cases b1
        .simp
        simp[this]
       cases hk
      cases hk
     cases hk
   exact key fs.toList 0 ks b hk (by simpa using he)
  cases hk
def tS(P:ak)(tab:List (al×List CK)):Prop:=∀ p∈tab,rG P 6 p.1=some p.2/\P.eqGuardType P.depth p.1=false/\(match P.underlying p.1 with|some (.struct _)=>True|_=>False)
def lK:List (al×List CK)->al->Option (List CK)
 |[],_=>none
 |(u,ks)::l,t=>if t=u then some ks else lK l t
theorem Nr{P:ak}{tab:List (al×List CK)}(h:tS P tab):∀ t ks,lK tab t=some ks->P.eqGuardType P.depth t=false/\
  ∀(xs ys:List au) (b:Bool) (w:az),iL ks xs ys=some b->(Op.equalIn 10000 t (.agg xs.toArray) (.agg ys.toArray)).run P w= .ok b w:=by
 intro t ks hk;have hm:(t,ks)∈tab:=by
  clear h
  induction tab with
  |nil=>cases hk
  |cons p l ih=>
   obtain⟨u,m⟩:=p;simp only[lK]at hk;split at hk
   .rename_i e;subst e;simp at hk;subst hk;exact aY
   exact aZ _ (ih hk)
 obtain⟨h1,h2,h3⟩:=h _ hm;refine⟨h2,λxs ys b w he=>?_⟩;have:=XR (w:=w) 6 (D:=10000) h1 (by omega) he;have hval:∀ ys,mM P t ys= .agg ys.toArray:=by
  intro ys;unfold mM
  revert h3
  cases P.underlying t with
  |none=>intro h3;exact h3.elim
  |some td=>cases td<;>intro h3<;>first|rfl|exact h3.elim
 rw[hval,hval]at this;exact this
theorem zK{P:ak}{tab:List (al×List CK)}(h:tS P tab):ib { P:=P,lJ:=lK tab }:=⟨Nr h,λt ag n hm=>by cases hm⟩
def tT:List (al×Bool×Nat)->al->Option (Bool×Nat)
 |[],_=>none
 |(u,x)::l,t=>if t=u then some x else tT l t
def xm(P:ak)(tab:List (al×Bool×Nat)):Prop:=∀ p∈tab,∃ k e,P.underlying p.1=some (.map k e)/\F7 P k p.2.1 p.2.2
theorem zI{P:ak}{tab:List (al×List CK)}{tm:List (al×Bool×Nat)}(h:tS P tab)(hm:xm P tm):ib { P:=P,lJ:=lK tab,nO:=tT tm }:=by
 refine⟨Nr h,λt ag n hl=>?_⟩;have hmem:(t,ag,n)∈tm:=by
  clear hm
  induction tm with
  |nil=>cases hl
  |cons p l ih=>
   obtain⟨u,m⟩:=p;simp only[tT]at hl;split at hl
   .rename_i e;subst e;simp at hl;subst hl;exact aY
   exact aZ _ (ih hl)
 exact hm _ hmem
theorem XS(q:aA)(n:Int):∀ (es:List aF) (i:Nat),(∀e∈es,∃ m,e.key= .int q m)->
  (aN (.int q) (.int q n) es i=some none/\ ∀e∈es,e.key≠ .int q n)\/ ∃j e,aN (.int q) (.int q n) es i=some (some (i+j,e.val))/\es[j]? =some e/\e.key= .int q n
 |[],i,_=>.inl ⟨rfl,λe he=>by cases he⟩
 |e::es,i,h=>by
  obtain⟨m,hm⟩:=h e aY;simp only[aN,hm,aQ,iI];by_cases hnm:n=m
  .subst hnm;simp only[beq_self_eq_true];exact .inr ⟨0,e,rfl,rfl,hm⟩
  rw[show(n==m)=false by simpa using hnm];simp only;rcases XS q n es (i+1) (λx hx=>h x (aZ _ hx))with ⟨h1,h2⟩|⟨j,x,h1,h2,h3⟩
  .refine .inl ⟨h1,λx hx=>?_⟩;rcases br.1 hx with rfl|hx
   .rw[hm];intro e;cases e;exact hnm rfl
   exact h2 x hx
  refine .inr ⟨j+1,x,?_,h2,h3⟩;rw[h1];congr 3;omega
theorem Dl{P:ak}{k:al}(hk:P.underlying k=some (.int .i64)):F7 P k false 1 where
 one:=λ_=>rfl
 check:=λw em q hq=>by
  match q,hq with
  |[n],_=>
   unfold aP;simp only[ep,aW,run_underlying hk,aV];rfl
 find:=λw q es hq he=>by
  match q,hq with
  |[n],_=>
   have he':∀ e∈es,∃ m,e.key= .int .i64 m:=λe h=>by
    obtain⟨q',nD,e'⟩:=he e h
    match q',nD with
    |[m],_=>exact⟨m,e'⟩
   rcases XS .i64 n es 0 he' with ⟨h1,h2⟩|⟨j,e,h1,h2,h3⟩
   .exact .inl ⟨by simp[aO,ep,run_underlying hk,h1],h2⟩
   exact .inr ⟨j,e,by simp[aO,ep,run_underlying hk,h1],h2,h3⟩
theorem XT:∀ (a b:List Int),a.length=b.length->iL (a.map λ_=>CK.i .i64) (a.map (Value.int .i64)) (b.map (Value.int .i64))=some (decide (a=b))
 |[],[],_=>rfl
 |x::a,y::b,h=>by
  simp only[List.map_cons,iL,rO,iI,XT a b (by simpa using h),and_self];congr 1;rw[ae];simp
theorem XU{P:ak}{k:al}{n:Nat}(w:az)(heq:∀ a b:List Int,a.length=n->b.length=n->(Op.equal k (ep true a) (ep true b)).run P w= .ok (decide (a=b)) w)(q:List Int)(hq:q.length=n):∀ (es:List aF) (i:Nat),(∀e∈es,∃ q',q'.length=n/\e.key=ep true q')->
  ((aM k (ep true q) es i).run P w= .ok none w/\ ∀e∈es,e.key≠ep true q)\/ ∃j e,(aM k (ep true q) es i).run P w= .ok (some (i+j,e.val)) w/\es[j]? =some e/\e.key=ep true q
 |[],i,_=>.inl ⟨by simp[aM],λe he=>by cases he⟩
 |e::es,i,h=>by
  obtain⟨m,XV,hm⟩:=h e aY;simp only[aM,hm,aW,heq q m hq XV,aV];by_cases hnm:q=m
  .subst hnm;rw[decide_eq_true rfl,bS rfl];exact .inr ⟨0,e,by simp,rfl,hm⟩
  rw[decide_eq_false hnm,bQ (by simp)];rcases XU w heq q hq es (i+1) (λx hx=>h x (aZ _ hx))with ⟨h1,h2⟩|⟨j,x,h1,h2,h3⟩
  .refine .inl ⟨h1,λx hx=>?_⟩;rcases br.1 hx with rfl|hx
   .rw[hm];intro e;exact hnm (Cd (λh=>by cases h) XV hq e).symm
   exact h2 x hx
  refine .inr ⟨j+1,x,?_,h2,h3⟩;rw[h1];congr 3;omega
theorem Jo{P:ak}{k:al}{n:Nat}{tab:List (al×List CK)}(h:tS P tab)(hk:lK tab k=some (List.replicate n (.i .i64)))(hs:∃ fs,P.underlying k=some (.struct fs))
  (hc:∀ (w:az) (em:Bool) (q:List Int),q.length=n->(aP em 10000 k (ep true q)).run P w= .ok () w):F7 P k true n where
 one:=λh=>by cases h
 check:=hc
 find:=λw q es hq he=>by
  obtain⟨fs,hu⟩:=hs;have heq:∀ a b:List Int,a.length=n->b.length=n->(Op.equal k (ep true a) (ep true b)).run P w= .ok (decide (a=b)) w:=by
   intro a b ha hb;refine(Nr h k _ hk).2 _ _ _ w ?_;have:=XT a b (by omega);rw[<-this];congr 1;rw[<-ha];clear this ha hb hk
   induction a with
   |nil=>rfl
   |cons x a ih=>simp[List.replicate_succ,ih]
  have aoV:∀ es:List aF,(∀e∈es,∃ q',q'.length=n/\e.key=ep true q')->aN (.struct fs) (ep true q) es 0=match es with|[]=>some none|_=>none:=by
   intro es h;cases es with
   |nil=>rfl
   |cons e es=>simp[aN,aQ]
  have hrun:(aO k (ep true q) es).run P w=(aM k (ep true q) es).run P w:=by
   simp only[aO,aW,run_underlying hu,aV];rw[aoV es he];cases es with
   |nil=>simp[aM]
   |cons e es=>rfl
  rw[hrun];have:=XU w heq q hq es 0 he;simpa using this
end Go.Sy
namespace Go.Sy
open Go.RowKit
variable [fI]
structure Cx where
 E:Env
 inl:List ar
 ok:ib E
def fuel:Nat:=100000
def nx(C:Cx)(t:OT)(s:List It)(fr:Fr):Nd:=il C.E C.inl 100000 t s fr
def Sat(C:Cx)(Q:Ex->St->Prop)(t:OT)(s:List It)(fr:Fr):Prop:=eH C.E Q t s fr
section
variable {C:Cx} {Q:Ex->St->Prop} {t:OT} {s:List It} {fr:Fr}
theorem Sat.of{nd:Nd}(h:nx C t s fr=nd)(hn:w5 C.E Q nd):Sat C Q t s fr:=kJ C.ok _ t s fr (by rw[<-h]at hn;exact hn)
def oD:Nd->Nd->Prop
 | .done e st,x=>x= .done e st
 | .ite b t s t' s' fr,x=>x= .ite b t s t' s' fr
 | .both t s t' s' fr,x=>x= .both t s t' s' fr
 | .iY b t s fr,x=>x= .iY b t s fr
 | .fail,x=>x= .fail
 | .stop t s fr,x=>x= .stop t s fr
 | .loop body st s fr,x=>x= .loop body st s fr
 | .call f vals cl kn st dst s fr,x=>x= .call f vals cl kn st dst s fr
 | .mut f args kn st dst s fr,x=>x= .mut f args kn st dst s fr
 | .sD id t ag n h v S kn st d s fr,x=>x= .sD id t ag n h v S kn st d s fr
theorem XW{a b:Nd}(h:oD a b):a=b:=by cases a<;>exact h.symm
def NS(C:Cx)(Q:Ex->St->Prop)(nd:Nd):Prop:=w5 C.E Q nd
theorem Sat.go{nd:Nd}(h:oD (nx C t s fr) nd)(hn:NS C Q nd):Sat C Q t s fr:=Sat.of (XW h) hn
theorem zE{α:Type _}{a:α}:a=a:=rfl
theorem zG{nd:Nd}(h:oD (nx C t s fr) nd)(hn:NS C Q nd):Sat C Q t s fr:=Sat.go h hn
theorem Sat.goN(n:Nat){nd:Nd}(h:oD (il C.E C.inl n t s fr) nd)(hn:NS C Q nd):Sat C Q t s fr:=kJ C.ok n t s fr (by rw[XW h];exact hn)
theorem NS.stop(h:Sat C Q t s fr):NS C Q (.stop t s fr):=h
theorem NS.ite{b:Bool}{t1 t2:OT}{s1 s2:List It}(h1:b=true->Sat C Q t1 s1 fr)(h2:b=false->Sat C Q t2 s2 fr):NS C Q (.ite b t1 s1 t2 s2 fr):=⟨h1,h2⟩
theorem NS.dW{b:Bool}{t1:OT}{s1 s2:List It}(hb:b=true)(h1:Sat C Q t1 s1 fr):NS C Q (.ite b t1 s1 .fail s2 fr):=⟨λ_=>h1,λe=>by rw[hb]at e;cases e⟩
theorem NS.yes{b:Bool}{t1 t2:OT}{s1 s2:List It}(hb:b=true)(h1:Sat C Q t1 s1 fr):NS C Q (.ite b t1 s1 t2 s2 fr):=⟨λ_=>h1,λe=>by rw[hb]at e;cases e⟩
theorem NS.no{b:Bool}{t1 t2:OT}{s1 s2:List It}(hb:b=false)(h1:Sat C Q t2 s2 fr):NS C Q (.ite b t1 s1 t2 s2 fr):=⟨(λe=>by rw[hb]at e;cases e),λ_=>h1⟩
theorem NS.both{t1 t2:OT}{s1 s2:List It}(h1:Sat C Q t1 s1 fr)(h2:Sat C Q t2 s2 fr):NS C Q (.both t1 s1 t2 s2 fr):=⟨h1,h2⟩
theorem NS.iY{b:Bool}{t1:OT}{s1:List It}(hb:b=true)(h1:Sat C Q t1 s1 fr):NS C Q (.iY b t1 s1 fr):=⟨hb,h1⟩
theorem NS.call{g:ar}{vals:List A}{cl:Bool}{kn:List (Nat×Bool)}{st:St}{dst:Option Tmp}{P:ak}{r:A×Option Ob}(hf:cJ P g vals r)(hP:C.E.P=P)(h1:Sat C Q (resume fr.base kn st dst cl r) s fr):NS C Q (.call g vals cl kn st dst s fr):=⟨r,false,hP▸hf,by rw[Bool.or_false];exact h1⟩
theorem NS.mut{g:ar}{args vals:List A}{kn:List (Nat×Bool)}{st:St}{dst:Option Tmp}{P:ak}{e:al}{c n:Nat}{el:Nat->Nat->A}{post:Ob->A->Prop}(id:Nat)(ho:bZ st.bR id= .row e c n el)(hv:uz id (cM st.bR id .dead) args=some vals)(hf:mq P g vals (.row e c n el) post)(hP:C.E.P=P)
  (h1:∀ gS r,post gS r->Sat C Q (ma st.bR id gS λos=>gM ⟨st.tmps,os⟩ dst (eU 0 id 6 r) (fZ kn dst)) s fr):NS C Q (.mut g args kn st dst s fr):=.inl ⟨id,e,c,n,el,vals,post,ho,hv,hP▸hf,h1⟩
theorem NS.sD{id:Nat}{t:al}{h:List Int->Bool}{v:List Int->A}{L:List Int}{kn:List (Nat×Bool)}{st:St}{d:Tmp}
  (h1:∀ k:Int,h [k]=true->k∉L->Sat C Q (ma st.bR id (.it t false 1 h v ((k::L).map λk=>[k])) λos=>gM ⟨st.tmps,os⟩ (some d) (.cG [.kb true,.int .i64 k,v [k]]) (fZ kn (some d))) s fr)
  (h2:(∀k:Int,h [k]=true->k∈L)->Sat C Q (gM st (some d) (.cG [.kb false]) (fZ kn (some d))) s fr):NS C Q (.sD id t false 1 h v (L.map λk=>[k]) kn st d s fr):=by
 refine⟨λq hq hh hn=>?_,λhall=>h2 λk hk=>?_⟩
 .match q,hq with
  |[k],_=>exact h1 k hh λhk=>hn (bu.2 ⟨k,hk,rfl⟩)
 obtain⟨k',hk',e⟩:=bu.1 (hall [k] rfl hk);cases e;exact hk'
theorem cJ.le{P:ak}{f:ar}{args args':List A}{r:A×Option Ob}(h:cJ P f args' r)(hle:db args args'):cJ P f args r:=⟨h.lh,λw X vs hX hr=>h.run w X vs hX (hle _ _ _ _ hr)⟩
theorem cJ.res{P:ak}{f:ar}{args:List A}{a b:A}{o:Option Ob}(h:cJ P f args (a,o))(hle:bY a b):cJ P f args (b,o):=⟨h.lh,λw X vs hX hr=>(h.run w X vs hX hr).mono λe w' ⟨v,l,h1,h2,h3,h4⟩=>⟨v,l,h1,h2,hle _ _ _ _ h3,h4⟩⟩
theorem XX{l:List Ob}{n:Nat}(h:bG (nj l) n=true):l.length<=n:=by rw[<-uT];exact Nat.le_of_ble_eq_true h
theorem NS.xo{g:ar}{args vals:List A}{kn:List (Nat×Bool)}{st st1:St}{dst:Option Tmp}{P:ak}{objs1 oC:List Ob}{B':Nat}{r:A}(hw:jJ st st1)(ho:st1.bR=objs1)(hle:db args vals)(hB:bG (nj objs1) B'=true)(hf:pb P g vals objs1 B' r oC)(hP:C.E.P=P)
  (h1:Sat C Q (nk ⟨st1.tmps,oC⟩ λst=>gM st dst r (fZ [] dst)) s fr):NS C Q (.mut g args kn st dst s fr):=by
 subst hP;subst ho;rw[pX]at h1;exact .inr ⟨st1,oC,vals,r,B',hw,hle,XX hB,hf,h1⟩
theorem pb.le{P:ak}{f:ar}{args args':List A}{bR objs':List Ob}{B:Nat}{r:A}(h:pb P f args' bR B r objs')(hle:db args args'):pb P f args bR B r objs':=⟨h.lh,λw0 X w ρ vs hp hr hv=>h.run w0 X w ρ vs hp (hle _ _ _ _ hr) hv⟩
theorem jJ.refl(st:St):jJ st st:=λw0 X a w ρ h=>⟨ρ,h,⟨bx _,λ_ _ _=>rfl,λ_ _ h=>h,λ_=>.inl rfl⟩⟩
theorem jJ.trans{a b c:St}(h:jJ a b)(h':jJ b c):jJ a c:=λw0 X ac w ρ hp=>by
 obtain⟨ρ1,h1,h2⟩:=h w0 X ac w ρ hp;obtain⟨ρ2,h3,h4⟩:=h' w0 X ac w ρ1 h1;exact⟨ρ2,h3,h2.trans h4⟩
theorem jJ.gv{B:Nat}{a b:St}(h:jJ a b):eo B a b:=λw0 X ac w ρ hp=>by
 obtain⟨ρ1,h1,h2⟩:=h w0 X ac w ρ hp;exact⟨ρ1,h1,h2.r6⟩
def zj(K:List Nat)(bR:List Ob):Nat->Nat->List Ob
 |0,_=>[]
 |n+1,i=>(match mK K i with|true=>bZ bR i|false=>.dead)::zj K bR n (i+1)
theorem XY(K:List Nat)(bR:List Ob):∀ (n i k:Nat),bZ (zj K bR n i) k=if k<n then(if mK K (i+k)=true then bZ bR (i+k)else .dead)else .de
 |0,i,k=>by simp[zj,bZ]
 |n+1,i,0=>by
  simp only[zj,bZ,bE];cases mK K i<;>simp
 |n+1,i,k+1=>by
  simp only[zj,bZ];rw[XY K bR n (i+1) k,show i+1+k=i+(k+1) by omega];simp only[Nat.add_lt_add_iff_right]
theorem jJ.keep{st:St}(n:Nat)(K:List Nat)(hn:bG (nj st.bR) n=true):jJ st ⟨st.tmps,zj K st.bR n 0⟩:=by
 intro w0 X a w ρ h;have hlen:=XX hn
 let ρ':Nat->Loc:=λi=>if i<n/\mK K i=false then .dead else ρ i
 have hblk:∀ i b,(ρ' i).has b->(ρ i).has b:=by
  intro i b hb;simp only[ρ']at hb;split at hb
  .cases hb
  exact hb
 have how:∀ b,owned ρ' b->owned ρ b:=by rintro b ⟨i,hi⟩;exact⟨i,hblk i b hi⟩
 have hL:dz w w (Ow X ρ) (Ow X ρ') ρ ρ':=⟨bx _,λ_ _ _=>rfl,λb _ hb=>by
  rcases hb with hb|hb
  .exact .inl hb
  .exact .inr (how b hb),λi=>by
  by_cases hi:i<n/\mK K i=false
  .exact .inr (.inr (bS hi))
  exact .inl (bQ hi)⟩
 refine⟨ρ',h.after hL ⟨λi=>?_,λi j b hi hj=>h.dJ i j b (hblk i b hi) (hblk j b hj),h.kept,λb hb=>h.new b (how b hb),h.fu⟩,hL⟩;rw[XY,bz];by_cases hi:i<n
 .rw[bS hi];cases hm:mK K i with
  |true=>
   rw[bS rfl,show ρ' i=ρ i from bQ (by simp[hm])];exact(h.obj i).later hL λ_ _=>rfl
  |false=>
   rw[bQ (by decide)];exact bS ⟨hi,hm⟩
 rw[bQ hi,show ρ' i=ρ i from bQ (by simp[hi])];have:=h.obj i;rw[Gs st.bR i (by omega)]at this;exact this
theorem NS.done{e:Ex}{st:St}(hq:Q e st):NS C Q (.done e st):=hq
theorem Sat.wk{kn:List (Nat×Bool)}{st cz:St}{c:aB}(hw:eo fr.base st cz)(h:Sat C Q (nk cz λst=>.more [] st) (.code c::s) fr):Sat C Q (.more kn st) (.code c::s) fr:=by
 unfold Sat at h⊢;rw[pX]at h;exact eH.hZ.2 (W.gv hw (eH.hZ.1 h))
def w8(C:Cx)(res:List aq)(r:A×Option Ob):Ex->St->Prop:=λe s=>e.out/\ ∃l,jr C.E.P s res=some l/\CC r (kk l) s.bR
def zk(f:A->(A->OT)->OT):List A->(List A->OT)->OT
 |[],k=>k []
 |a::l,k=>f a λa=>zk f l λl=>k (a::l)
def w9:Nat->A->(A->OT)->OT
 |0,a,k=>k a
 |d+1,a,k=>match a with
  | .agg l=>zk (w9 d) l λl=>k (.agg l)
  | .cG l=>zk (w9 d) l λl=>k (.cG l)
  | .fn f l=>zk (w9 d) l λl=>k (.fn f l)
  | .kb true=>k (.kb true)
  | .kb false=>k (.kb false)
  | .bool b=>k (.bool b)
  | .int q n=>k (.int q n)
  | .str s=>k (.str s)
  | .bN=>k .bN
  | .sl c n el=>k (.sl c n el)
  | .ip c el=>k (.ip c el)
  | .own id=>k (.own id)
  | .dU=>k .dU
  | .lM=>k .lM
  | .lF=>k .lF
  | .kh=>k .kh
  |a=>k a
theorem XZ{f:A->(A->OT)->OT}(hf:∀ a k,f a k=k a):∀ (l:List A) (k:List A->OT),zk f l k=k l
 |[],k=>rfl
 |a::l,k=>by simp only[zk,hf,XZ hf l]
theorem GS:∀ (d:Nat) (a:A) (k:A->OT),w9 d a k=k a
 |0,a,k=>rfl
 |d+1,a,k=>by
  cases a<;>simp only[w9,XZ (GS d)];rename_i b;cases b<;>rfl
def Ns(P:ak)(res:List aq)(st:St):OT:=
 match jr P st res with
 |some l=>match eX st.bR 6 (kk l)with
  |some a=>w9 5 (mJ 6 a) λx=>.more [] ⟨[x],[]⟩
  |none=>.fail
 |none=>.fail
def GU(P:ak)(res:List aq)(id:Nat)(st:St):OT:=
 match jr P st res with
 |some l=>w9 5 (mJ 6 (eU id 0 6 (kk l))) λx=>.more [] ⟨[x],[bZ st.bR id]⟩
 |none=>.fail
theorem NS.ret{res:List aq}{e:Ex}{st:St}{x r1:A}(hx:e.r8=true)(ho:Ns C.E.P res st= .more [] ⟨[x],[]⟩)(he:bY x r1):NS C (w8 C res (r1,none)) (.done e st):=by
 refine⟨tJ hx,?_⟩;unfold Ns at ho;split at ho
 .rename_i l hl;refine⟨l,hl,?_⟩;split at ho
  .rename_i a ha;rw[GS]at ho;simp only[OT.more.injEq,St.mk.injEq,bw,pz,pB]at ho;exact⟨a,ha,by rw[ho];exact he⟩
  cases ho
 cases ho
theorem NS.ub{res:List aq}{e:Ex}{st:St}{x r1:A}{ob gS:Ob}(id:Nat)(hx:e.r8=true)(ho:GU C.E.P res id st= .more [] ⟨[x],[ob]⟩)(he:bY x r1)(cy:Na ob gS)(gx:M7 gS):NS C (w8 C res (r1,some gS)) (.done e st):=by
 refine⟨tJ hx,?_⟩;unfold GU at ho;split at ho
 .rename_i l hl;refine⟨l,hl,?_⟩;rw[GS]at ho;simp only[OT.more.injEq,St.mk.injEq,bw,pz,pB]at ho;exact .inl ⟨id,by rw[ho.2];exact cy,by rw[ho.1];exact he,gx⟩
 cases ho
theorem NS.aik{res:List aq}{e:Ex}{st:St}{t c n:Nat}{el:Nat->Nat->A}(hn:n=0)(hx:e.r8=true)(ho:jr C.E.P st res=some [.bN]):NS C (w8 C res (.own 0,some (.row t c n el))) (.done e st):=by
 subst hn;exact⟨tJ hx,_,ho,.inr (.inl ⟨rfl,rfl,_,_,_,rfl⟩)⟩
theorem NS.OG{res:List aq}{e:Ex}{st:St}{x r1:A}{t n:Nat}{ag:Bool}{u:List (List Int×Option A)}{h:List Int->Bool}{v:List Int->A}(id:Nat)(hx:e.r8=true)(ho:GU C.E.P res id st= .more [] ⟨[x],[.mp t ag n true u h v]⟩)(he:bY x r1)(gx:∀ q a,eu h v u q=some a->flat 5 a=true):NS C (w8 C res (r1,some (.mp t ag n true u h v))) (.done e st):=by
 refine⟨tJ hx,?_⟩;unfold GU at ho;split at ho
 .rename_i l hl;refine⟨l,hl,?_⟩;rw[GS]at ho;simp only[OT.more.injEq,St.mk.injEq,bw,pz,pB]at ho;exact .inr (.inr ⟨id,_,_,_,_,_,_,ho.2,rfl,by rw[ho.1];exact he,gx⟩)
 cases ho
theorem aoW(C:Cx){f:ar}{fn:aG}{c:aB}{args:List A}{r:A×Option Ob}{P:ak}(hP:C.E.P=P)(hent:jw P f=true)(hf:P.funcs[f]? =some fn)(hb:fn.body=some c)
  (h:Sat C (w8 C fn.results.toList r) (nk (jZ fn.ntmps args []) λst=>.more [] st) [.code c] ⟨0,fn.ntmps,false⟩):cJ P f args r:=by
 subst hP;refine Xs hent hf hb ?_;unfold Sat at h;rw[pX]at h;exact eH.hZ.1 h
def xb(C:Cx)(Q:Ex->St->Prop)(s:List It)(fr:Fr){σ:Type}(jF:σ->St)(m:σ->Nat)(x:σ):Ex->St->Prop:=λe st=>match e with
 | .normal=>∃ y,m y<m x/\eo fr.base st (jF y)
 | .exit i=>Den C.E Q s fr (.exit i) st []
 | .ret=>Den C.E Q s fr .ret st []
theorem NS.loop{body:aB}{st:St}{σ:Type}(ts:σ->List (Nat×A))(os:σ->List (Nat×Ob))(m:σ->Nat)(x0:σ)
  (hw:eo fr.base st (hd fr.base st.bR st.tmps.length (ts x0) (os x0)))
  (step:∀ x,Sat C (xb C Q s fr (λy=>hd fr.base st.bR st.tmps.length (ts y) (os y)) m x) (nk (hd fr.base st.bR st.tmps.length (ts x) (os x)) λst=>.more [] st) [.code body] fr):NS C Q (.loop body st s fr):=by
 refine W.loop (λy=>hd fr.base st.bR st.tmps.length (ts y) (os y)) m x0 hw λx=>?_;have h1:=step x;unfold Sat at h1;rw[pX]at h1;have h2:=eH.hZ.1 h1;simp only[Den]at h2;exact h2.mono λe s1 h3=>by cases e<;>exact h3
theorem NS.next{σ:Type}{jF:σ->St}{m:σ->Nat}{x:σ}{st:St}(y:σ)(hm:m y<m x)(hw:eo fr.base st (jF y)):NS C (xb C Q s fr jF m x) (.done .normal st):=⟨y,hm,hw⟩
def GV:Lv->Lv->Prop
 | .go t s fr,x=>x= .go t s fr
 | .out e st,x=>x= .out e st
 | .bad,x=>x= .bad
theorem X0{a b:Lv}(h:GV a b):a=b:=by cases a<;>exact h.symm
theorem NS.leave{σ:Type}{jF:σ->St}{m:σ->Nat}{x:σ}{st:St}{e:Ex}{t2:OT}{s2:List It}{kK:Fr}(he:e.goes=false)(hl:GV (Sy.leave C.E.P e st s fr) (.go t2 s2 kK))(h2:Sat C Q t2 s2 kK):NS C (xb C Q s fr jF m x) (.done e st):=by
 have h3:Den C.E Q s fr e st []:=pW s e st fr [] (.inl he) (by rw[X0 hl];exact h2);cases e with
 |normal=>cases he
 |exit i=>exact h3
 |ret=>exact h3
theorem NS.gu{σ:Type}{jF:σ->St}{m:σ->Nat}{x:σ}{st st2:St}{e e2:Ex}(he:e.goes=false)(hl:GV (Sy.leave C.E.P e st s fr) (.out e2 st2))(h2:NS C Q (.done e2 st2)):NS C (xb C Q s fr jF m x) (.done e st):=by
 have h3:Den C.E Q s fr e st []:=pW s e st fr [] (.inl he) (by rw[X0 hl];exact h2);cases e with
 |normal=>cases he
 |exit i=>exact h3
 |ret=>exact h3
theorem c9{σ:Nat->Nat}{k:aA}{n m:Int}{b:A}(h:b= .int k n)(e:n=m):jb σ (.int k m) b:=by rw[h,e];rfl
theorem mN{σ:Nat->Nat}{n m:Bool}{b:A}(h:b= .bool n)(e:n=m):jb σ (.bool m) b:=by rw[h,e];exact .inl rfl
theorem aoX{σ:Nat->Nat}{n m:Bool}{b:A}(h:b= .kb n)(e:n=m):jb σ (.bool m) b:=by rw[h,e];exact .inr rfl
theorem jJ.box{st:St}(b:Nat){cells cells':List A}(hb:bZ st.bR b= .box cells)(hle:db cells cells'):jJ st ⟨st.tmps,cM st.bR b (.box cells')⟩:=by
 intro w0 X a w ρ h;have hL:dz w w (Ow X ρ) (Ow X ρ) ρ ρ:=⟨bx _,λ_ _ _=>rfl,λ_ _ h=>h,λ_=>.inl rfl⟩;refine⟨ρ,h.after hL ⟨λid=>?_,h.dJ,h.kept,h.new,h.fu⟩,hL⟩;simp only[ef];by_cases cn:id=b
 .subst cn;rw[bS rfl];have cy:=h.obj id;rw[hb]at cy;obtain⟨bb,vs,t,h1,h2,h3⟩:=cy;exact⟨bb,vs,t,h1,h2,hle _ _ _ _ h3⟩
 rw[bQ cn];exact h.obj id
def Nt(C:Cx)(B:Nat)(res:List aq)(r:A)(objs':List Ob):Ex->St->Prop:=λe s=>e.out/\ ∃s',eo B s s'/\ ∃l,jr C.E.P s' res=some l/\bY (kk l) r/\s'.bR=objs'
theorem NS.fin{res:List aq}{e:Ex}{st:St}{r:A}{B n:Nat}{ik:List Ob}{ts:List (Nat×A)}{os:List (Nat×Ob)}{l:List A}(hx:e.r8=true)(hw:eo B st (hd B ik n ts os))(hr:jr C.E.P (hd B ik n ts os) res=some l)(hle:bY (kk l) r):NS C (Nt C B res r (ra (oK B ik) os)) (.done e st):=
 ⟨tJ hx,_,hw,l,hr,hle,rfl⟩
theorem Iw(C:Cx){f:ar}{fn:aG}{c:aB}{args:List A}{r:A}{bR objs':List Ob}{B:Nat}{P:ak}(hP:C.E.P=P)(hent:jw P f=true)(hf:P.funcs[f]? =some fn)(hb:fn.body=some c)
  (h:Sat C (Nt C B fn.results.toList r objs') (nk (jZ fn.ntmps args bR) λst=>.more [] st) [.code c] ⟨B,B+fn.ntmps,false⟩):pb P f args bR B r objs':=by
 subst hP;unfold Sat at h;rw[pX]at h;have h1:=eH.hZ.1 h;simp only[Den]at h1;refine⟨hent,λw0 X w ρ vs hp hr hv=>?_⟩;refine(wQ (B':=B) (Q:=λx o=>bY x r/\o=objs') hp hr hf hb hv ?_).mono ?_
 .intro ro n w0 X a w ρ hro hr;refine wpIn_mono (h1 ro n w0 X a w ρ hro hr) ?_;rintro e' a' w' ⟨e,s,ρ',Ds,rfl,h2,h3,h4,h5⟩;have h2:Nt C B fn.results.toList r objs' e s:=by cases e<;>exact h2
  obtain⟨hx,s',hw,l,hl,hle,ho⟩:=h2;obtain⟨ρ'',h6,h7⟩:=hw _ _ _ _ _ h3;exact⟨e,s',ρ'',Ds,rfl,⟨hx,l,hl,hle,ho⟩,h6,h4.trans h7,h5⟩
 rintro e w' ⟨v,x,o,ρ',rfl,⟨hle,rfl⟩,h2,h3,h4⟩;exact⟨v,ρ',rfl,hle _ _ _ _ h2,h3,h4⟩
theorem AY{B:Nat}{st:St}(i:Nat){x:A}(hle:bY (bT st.tmps i) x):eo B st ⟨eS st.tmps i x,st.bR⟩:=by
 intro w0 X a w ρ h;refine⟨ρ,⟨by rw[h.len];simp[wI],λj=>?_,h.obj,h.dJ,h.kept,h.new,h.fu,h.jM⟩,ju.refl _ _ _ _⟩;simp only[th];split
 .rename_i hj;rw[hj.1];exact hle _ _ _ _ (h.tmp i)
 exact h.tmp j
end
section
variable {C:Cx} {Q:Ex->St->Prop} {t:OT} {s:List It} {fr kK:Fr}
theorem bU{b:Bool}{t1:OT}{s1 s2:List It}(h:oD (nx C t s fr) (.ite b t1 s1 .fail s2 kK))(hb:b=true)(h1:Sat C Q t1 s1 kK):Sat C Q t s fr:=Sat.go h (NS.dW hb h1)
theorem cD{b:Bool}{t1 t2:OT}{s1 s2:List It}(h:oD (nx C t s fr) (.ite b t1 s1 t2 s2 kK))(hb:b=true)(h1:Sat C Q t1 s1 kK):Sat C Q t s fr:=Sat.go h (NS.yes hb h1)
theorem b8{b:Bool}{t1 t2:OT}{s1 s2:List It}(h:oD (nx C t s fr) (.ite b t1 s1 t2 s2 kK))(hb:b=false)(h1:Sat C Q t2 s2 kK):Sat C Q t s fr:=Sat.go h (NS.no hb h1)
theorem cK{b:Bool}{t1 t2:OT}{s1 s2:List It}(h:oD (nx C t s fr) (.ite b t1 s1 t2 s2 kK))(h1:b=true->Sat C Q t1 s1 kK)(h2:b=false->Sat C Q t2 s2 kK):Sat C Q t s fr:=Sat.go h (NS.ite h1 h2)
theorem cN{b:Bool}{t1:OT}{s1:List It}(h:oD (nx C t s fr) (.iY b t1 s1 kK))(h1:Sat C Q t1 s1 kK)(hb:b=true:=by kernel_rfl):Sat C Q t s fr:=Sat.go h (NS.iY hb h1)
theorem cj{g:ar}{vals:List A}{cl:Bool}{kn:List (Nat×Bool)}{st:St}{dst:Option Tmp}{s1:List It}{r:A×Option Ob}(h:oD (nx C t s fr) (.call g vals cl kn st dst s1 kK))(hf:cJ C.E.P g vals r)(h1:Sat C Q (resume kK.base kn st dst cl r) s1 kK):Sat C Q t s fr:=Sat.go h (NS.call hf rfl h1)
theorem eG{body:aB}{st:St}{t0:OT}{s0:List It}{X1:Fr}(h:oD (nx C t0 s0 X1) (.loop body st s fr))(n:Nat)(ts:Nat->List (Nat×A))(os:Nat->List (Nat×Ob))
  (hw:eo fr.base st (hd fr.base st.bR st.tmps.length (ts 0) (os 0)))
  (step:∀ x:{ k:Nat // k<=n },Sat C (xb C Q s fr (λy:{ k:Nat // k<=n }=>hd fr.base st.bR st.tmps.length (ts y.1) (os y.1)) (λy=>n-y.1) x) (nk (hd fr.base st.bR st.tmps.length (ts x.1) (os x.1)) λst=>.more [] st) [.code body] fr):Sat C Q t0 s0 X1:=
 Sat.go h (NS.loop (σ:={ k:Nat // k<=n }) (λk=>ts k.1) (λk=>os k.1) (λk=>n-k.1) ⟨0,bF _⟩ hw step)
theorem cH{σ:Type}{jF:σ->St}{m:σ->Nat}{x:σ}{st:St}{s0:List It}(h:oD (nx C t s fr) (.done .normal st))(y:σ)(hm:m y<m x)(hw:eo kK.base st (jF y)):Sat C (xb C Q s0 kK jF m x) t s fr:=Sat.go h (NS.next y hm hw)
theorem dt{σ:Type}{jF:σ->St}{m:σ->Nat}{x:σ}{st:St}{s0:List It}{e:Ex}{t2:OT}{s2:List It}{Nu:Fr}(h:oD (nx C t s fr) (.done e st))(he:e.goes=false)(hl:GV (Sy.leave C.E.P e st s0 kK) (.go t2 s2 Nu))(h2:Sat C Q t2 s2 Nu):Sat C (xb C Q s0 kK jF m x) t s fr:=Sat.go h (NS.leave he hl h2)
theorem cL{res:List aq}{e:Ex}{st:St}{x r1:A}(h:oD (nx C t s fr) (.done e st))(hx:e.r8=true)(ho:Ns C.E.P res st= .more [] ⟨[x],[]⟩)(he:bY x r1):Sat C (w8 C res (r1,none)) t s fr:=Sat.go h (NS.ret hx ho he)
end
theorem c8(C:Cx){f:ar}{fn:aG}{c:aB}{args:List A}{r:A×Option Ob}{P:ak}(hf:P.funcs[f]? =some fn)(hb:fn.body=some c)
  (h:Sat C (w8 C fn.results.toList r) (nk (jZ fn.ntmps args []) λst=>.more [] st) [.code c] ⟨0,fn.ntmps,false⟩) (hP:C.E.P=P:=by rfl) (hent:jw P f=true:=by kernel_rfl):cJ P f args r:=aoW C hP hent hf hb h
end Go.Sy
namespace Go.Sy
open Go.RowKit Go.ChangeShapes Go.WideShapes
variable [fI]
inductive Sh where
 |int (k:aA)
 |bool
 |str
 |sl (c:Nat) (es:List Sh)
mutual
def GW:Sh->A->Prop
 | .int k,a=>∃ n,a= .int k n/\(Lit.int k n).wf=true
 | .bool,a=>∃ b,a= .bool b
 | .str,a=>∃ s,a= .str s/\s.size<=maxLen
 | .sl c es,a=>∃ n el,a= .sl c n el/\n<=maxLen/\ ∀i,i<n->jc es (el i) 0
def jc:List Sh->(Nat->A)->Nat->Prop
 |[],_,_=>True
 |s::l,f,j=>GW s (f j)/\jc l f (j+1)
end
def CV(P:ak)(sh:al->Option (List Sh)):Nat->List aH->Option (List Sh)
 |_,[]=>some []
 |off,f::fs=>match sh f.type with
  |some ks=>if f.offset=off/\P.cellsOf f.type=ks.length then(match CV P sh (off+ks.length) fs with
    |some m=>some (ks++m)
    |none=>none)else none
  |none=>none
def pY(P:ak):Nat->al->Option (List Sh)
 |0,_=>none
 |d+1,t=>match P.underlying t with
  |some .bool=>some [.bool]
  |some (.int k)=>some [.int k]
  |some .string=>some [.str]
  |some (.slice e)=>match pY P d e with
   |some es=>if P.cellsOf e=es.length then some [.sl es.length es]else none
   |none=>none
  |some (.struct fs)=>match CV P (pY P d) 0 fs.toList with
   |some m=>if P.cellsOf t=m.length then some m else none
   |none=>none
  |_=>none
theorem X2{f:Nat->A}:∀ {l m:List Sh} {j:Nat},jc (l++m) f j↔jc l f j/\jc m f (j+l.length)
 |[],m,j=>by simp[jc]
 |s::l,m,j=>by
  simp only[bq,jc,X2 (l:=l) (m:=m),bn,and_assoc];rw[bD,bA 1 l.length]
theorem Nv{f g:Nat->A}:∀ {l:List Sh} {j k:Nat},(∀i,i<l.length->f (j+i)=g (k+i))->jc l f j->jc l g k
 |[],_,_,_,_=>by simp[jc]
 |s::l,j,k,h,hs=>by
  simp only[jc]at hs⊢;refine⟨by have:=h 0 (by simp);rw[bE,bE]at this;rw[<-this];exact hs.1,Nv (λi hi=>?_) hs.2⟩;have:=h (i+1) (by simp;omega);rw[show j+1+i=j+(i+1)from by omega,show k+1+i=k+(i+1)from by omega];exact this
theorem X3{f:Nat->A}:∀ {l:List Sh} {j i:Nat} {s:Sh},jc l f j->l[i]? =some s->GW s (f (j+i))
 |[],_,_,_,_,h=>by simp at h
 |s::l,j,0,s',h,hs=>by simp at hs;subst hs;exact h.1
 |s::l,j,i+1,s',h,hs=>by
  have:=X3 (i:=i) h.2 (by simpa using hs);rwa[show j+1+i=j+(i+1)from by omega]at this
theorem aoY{s:Sh}{a:A}(h:GW s a):yG a=true:=by
 cases s with
 |int k=>obtain⟨n,rfl,_⟩:=h;rfl
 |bool=>obtain⟨b,rfl⟩:=h;rfl
 |str=>obtain⟨s,rfl,_⟩:=h;rfl
 |sl c es=>obtain⟨n,el,rfl,_⟩:=h;rfl
section
variable {H:Type} {enc:al×au->H} {P:ak} {w:az} {base:Nat} {spare:Nat->Bool} {held:Bool} {X:Nat->Prop}
theorem aoZ{a:Addr}{n:Nat}{cs:List au}(h:w.cells? base a n=some cs):cs.length=n/\ ∀j,j<n->w.cell? (a.add j)=cs[j]?:=by
 unfold World.cells? at h;split at h
 .exact⟨by simpa using mapM_some_length h,λj hj=>mapM_some_get h j j (by simp[hj])⟩
 cases h
theorem ao0{a:Addr}{u:au}(h:w.cell? a=some u):a.block<w.heap.size:=by
 rcases Nat.lt_or_ge a.block w.heap.size with h'|h'
 .exact h'
 simp[World.cell?,Array.getElem?_eq_none h']at h
theorem ao1{l m:List A}{vs us:List au}{ρ:Nat->Loc}(h:RL w X l ρ vs)(h':RL w X m ρ us):RL w X (l++m) ρ (vs++us):=RL.append h h'
theorem lift(hX:∀ b,¬ X b):∀ (d:Nat) {t:al} {tK:List Sh} {fuel:Nat} {cs:List au} {x:av H×List aC},pY P d t=some tK->aL enc P w base spare held fuel t cs=some x->
  ∃as:List A,as.length=tK.length/\RL w X as b7 cs/\jc tK (bT as) 0
 |0,t,tK,fuel,cs,x,hs,h=>by simp[pY]at hs
 |d+1,t,tK,fuel,cs,x,hs,h=>by
  simp only[pY]at hs;split at hs
  .rename_i hu;simp only[bJ]at hs;subst hs;obtain⟨b,rfl,_⟩:=DataW.trod_bool hu h;exact⟨[.bool b],rfl,⟨_,_,rfl,by simp only[R],by simp only[RL]⟩,⟨b,rfl⟩,bP⟩
  .rename_i k hu;simp only[bJ]at hs;subst hs;obtain⟨n,rfl,_,hw⟩:=DataW.trod_int hu h;exact⟨[.int k n],rfl,⟨_,_,rfl,by simp only[R],by simp only[RL]⟩,⟨n,rfl,hw⟩,bP⟩
  .rename_i hu;simp only[bJ]at hs;subst hs;obtain⟨s,rfl,_,hw⟩:=DataW.trod_string hu h;exact⟨[.str s],rfl,⟨_,_,rfl,by simp only[R],by simp only[RL]⟩,⟨s,rfl,hw⟩,bP⟩
  .rename_i e hu;split at hs
   .rename_i es hes;split at hs
    .rename_i hc;simp only[bJ]at hs;subst hs;rcases DataW.trod_slice hu h with ⟨rfl,_⟩|⟨a,len,cap,elems,rest,n,_,rfl,_,_,hlc,ki,hel,hget,_⟩
     .refine⟨[.sl es.length 0 λ_ _=>.dU],rfl,⟨_,_,rfl,?_,by simp only[RL]⟩,⟨0,_,rfl,bF _,λi hi=>by omega⟩,bP⟩;simp only[R];exact⟨none,0,rfl,bx _,bF _,λhp=>by simp at hp⟩
     have X4:∀ i,i<len-> ∃as:List A,∃ qT,w.cells? base (a.add (i*es.length)) es.length=some qT/\as.length=es.length/\RL w X as b7 qT/\jc es (bT as) 0:=by
      intro i hi;have h1:=hget i hi;rw[hc]at h1;have h2:elems[i]? =some elems[i]:=a6 (by omega);rw[h2,Option.bind_eq_some_iff]at h1;obtain⟨qT,h3,h4⟩:=h1;obtain⟨as,h5,h6,h7⟩:=lift hX d hes h4;exact⟨as,qT,h3,h5,h6,h7⟩
     have hch:∃ f:Nat->List A,∀ i,i<len-> ∃qT,w.cells? base (a.add (i*es.length)) es.length=some qT/\(f i).length=es.length/\RL w X (f i) b7 qT/\jc es (bT (f i)) 0:=by
      refine⟨λi=>@dite _ (i<len) (Classical.propDecidable _) (λhi=>Classical.choose (X4 i hi)) (λ_=>[]),λi hi=>?_⟩;simp only[dif_pos hi];exact Classical.choose_spec (X4 i hi)
     obtain⟨f,hf⟩:=hch;refine⟨[.sl es.length len λi j=>bT (f i) j],rfl,⟨_,_,rfl,?_,by simp only[RL]⟩,⟨len,_,rfl,bH hlc ki,λi hi=>?_⟩,bP⟩
     .simp only[R];refine⟨some a,cap,rfl,hlc,ki,λhp=>?_⟩;have hcell:∀ i,i<len-> ∀j,j<es.length-> ∃u,w.cell? (a.add (i*es.length+j))=some u/\u.oneCell'=true/\R w X (bT (f i) j) b7 u:=by
       intro i hi j hj;obtain⟨qT,h1,h2,h3,h4⟩:=hf i hi;obtain⟨h5,h6⟩:=aoZ h1;have h7:qT[j]? =some qT[j]:=a6 (by omega);have hr:=h3.get j _ h7;refine⟨qT[j],?_,?_,hr⟩
       .rw[<-add_add,h6 j hj,h7]
       have hs:=X3 (i:=j) h4 (a6 hj);rw[bz]at hs;exact hr.cell_of (aoY hs)
      have hn:0<len:=Nat.pos_of_mul_pos_right hp;have hc0:0<es.length:=Nat.pos_of_mul_pos_left hp;obtain⟨u,hu,_⟩:=hcell 0 hn 0 hc0;have hlt:=ao0 hu;rw[pD]at hlt;exact⟨a,rfl,⟨hlt,hX _⟩,hcell⟩
     obtain⟨_,_,_,_,h4⟩:=hf i hi;exact h4
    cases hs
   cases hs
  .rename_i fs hu;split at hs
   .rename_i m hm;split at hs
    .rename_i CI;simp only[bJ]at hs;subst hs;obtain⟨xs,n,_,_,hcl,hxl,hget⟩:=DataW.trod_struct hu h;have key:∀ (fl:List aH) (off:Nat) (m:List Sh),CV P (pY P d) off fl=some m->(∀f∈fl,∃ y,aL enc P w base spare held n f.type ((cs.drop f.offset).take (P.cellsOf f.type))=some y)->
       ∃as:List A,as.length=m.length/\RL w X as b7 ((cs.drop off).take m.length)/\jc m (bT as) 0:=by
      intro fl
      induction fl with
      |nil=>
       intro off m hm _;simp only[CV,bJ]at hm;subst hm;exact⟨[],rfl,by simp[RL],bP⟩
      |cons f fl ih=>
       intro off m hm hall;simp only[CV]at hm;split at hm
       .rename_i ks hks;split at hm
        .rename_i hoff;obtain⟨ho,oE⟩:=hoff;split at hm
         .rename_i m' hm';simp only[bJ]at hm;subst hm;obtain⟨y,hy⟩:=hall f aY;obtain⟨as1,l1,r1,s1⟩:=lift hX d hks hy;obtain⟨as2,l2,r2,s2⟩:=ih (off+ks.length) m' hm' λg hg=>hall g (aZ _ hg);refine⟨as1++as2,by simp[l1,l2],?_,?_⟩
          .have:=ao1 r1 r2;rw[ho,oE]at this;rw[bl,List.take_add,bc];exact this
          rw[X2];refine⟨Nv (λi hi=>?_) s1,Nv (λi hi=>?_) s2⟩
          .rw[bz,wJ,bS (by omega)]
          rw[bz,bz,wJ,bQ (by omega),l1,bB]
         cases hm
        cases hm
       cases hm
     have hall:∀ f∈fs.toList,∃ y,aL enc P w base spare held n f.type ((cs.drop f.offset).take (P.cellsOf f.type))=some y:=by
      intro f hf;obtain⟨i,hi,rfl⟩:=List.getElem_of_mem hf;have:=hget i fs.toList[i] (by simp);rw[a6 (by simp at hi;omega)]at this;exact⟨_,this⟩
     obtain⟨as,h1,h2,h3⟩:=key fs.toList 0 m hm hall;refine⟨as,h1,?_,h3⟩;rw[List.drop_zero,bd (by omega)]at h2;exact h2
    cases hs
   cases hs
  cases hs
def sd(P:ak)(t:al)(as:List A):A:=match jn P t with
 |some true=>.agg as
 |_=>bT as 0
theorem X5(hX:∀ b,¬ X b){D:Nat}{t:al}{tK:List Sh}{v:au}{dd:av H}{ps:List aC}{r:Reach}{b0:Nat}(hs:pY P D t=some tK)(hok:Value.okWide P w r b0 t v)(h:av.Trod enc P w base spare held t v dd ps):
  ∃as:List A,as.length=tK.length/\R w X (sd P t as) b7 v/\jc tK (bT as) 0:=by
 obtain⟨fuel,hf⟩:=h;obtain⟨as,h1,h2,h3⟩:=lift hX D hs hf;refine⟨as,h1,?_,h3⟩;have hcell:(∀cs,v≠ .agg cs)->jn P t≠some true->R w X (sd P t as) b7 v:=by
  intro hna hn;have hv:v.cells.toList=[v]:=by cases v<;>first|rfl|exact dP rfl (hna _)
  rw[hv]at h2;have:sd P t as=bT as 0:=by
   unfold sd;split
   .rename_i e;exact dP e hn
   rfl
  rw[this];exact h2.get 0 v rfl
 cases D with
 |zero=>simp[pY]at hs
 |succ D=>
  unfold Value.okWide at hok;cases hu:P.underlying t with
  |none=>simp[pY,hu]at hs
  |some td=>
   rw[hu]at hok;cases td with
   |struct fs=>
    obtain⟨cs,rfl,_⟩:=hok;have:sd P t as= .agg as:=by unfold sd jn;rw[hu]
    rw[this];simp only[R];exact⟨cs.toList,by simp,h2⟩
   |bool=>exact hcell (by rintro cs rfl;simp[aI,aJ,hu]at hok) (by unfold jn;rw[hu];simp)
   |int k=>exact hcell (by rintro cs rfl;simp[aI,aJ,hu]at hok) (by unfold jn;rw[hu];simp)
   |string=>exact hcell (by rintro cs rfl;simp[aI,aJ,hu]at hok) (by unfold jn;rw[hu];simp)
   |slice e=>exact hcell (by rintro cs rfl;simp[aI,aJ,hu]at hok) (by unfold jn;rw[hu];simp)
   |_=>simp[pY,hu]at hs
end
section
variable {H:Type} {enc:al×au->H} {P:ak}
theorem ao2{f:aG}{s:ChangeSpec}{apart fresh handsOn again:Bool}{W W':az}{args:Array au}{v:au}{ds gs:List (av H)}{before pa pv:List aC}
  (hW:av.Whole enc P f.params.toList s.vars apart W args.toList ds gs before)
  (hres:∀ (b:Nat) (sp:Nat->Bool) (hd:Bool),aK enc P W' b sp hd f.resultTypes.toList (v.resultList f.resultTypes.size) (s.fn H (ds++gs)).results [])
  (hargs:∀ sp:Nat->Bool,(∀p∈before,sp p.block=true)->aK enc P W' 0 sp true f.params.toList args.toList (s.fn H (ds++gs)).args pa)
  (hvars:∀ sp:Nat->Bool,(∀p∈before,sp p.block=true)->av.TrodVars enc P W' sp s.vars (s.fn H (ds++gs)).vars pv)
  (hps:before=pa++pv) (hb:fP W.heap.size W W')
  (hok:∀ (j:Nat) (t:al) (r:au),f.resultTypes[j]? =some t->(v.resultList f.resultTypes.size)[j]? =some r->Value.okWide P W' .any 0 t r):
  s.post enc P f apart fresh handsOn again W args v W':=by
 have hlt:∀ p∈before,p.block<W.heap.size:=λp hp=>hW.lt p hp;have hold:∀ p∈before,(λb=>decide (b<W.heap.size)) p.block=true:=λp hp=>by simpa using hlt p hp
 refine⟨ds,gs,before,[],pa,pv,hW,hres _ _ _,hargs _ hold,hvars _ hold,World.keptBut_mono (λp hp=>⟨hp,?_⟩) (hb.below.frame (· ∈before)),λ_=>?_⟩
 .rw[hps,List.mem_append]at hp;exact Or.inr hp
 obtain⟨_,_,_,_,_,hz,hn⟩:=hW;refine⟨hok,_,_,([]++pa)++pv,⟨[]++pa,pv,trodAll_append (hargs _ (λ_ _=>rfl)) (hres _ _ _),hvars _ (λ_ _=>rfl),rfl,?_,?_⟩,?_⟩
 .intro b off hp;have hin:MemPlace.cell b off∈before:=by rw[hps];simpa using hp
  rw[hb.below.frozen (hlt _ hin)];exact hz b off hin
 .intro ha;have:=hn ha;rw[hps]at this;simpa using this
 intro p hp _;rw[hps];simpa using hp
theorem X6(hl:laidOutB P=true){W W':az}{sp:Nat->Bool}(hb:fP W.heap.size W W'):∀ {ts:List al} {vs:List au} {ds:List (av H)} {ps:List aC},(∀t∈ts,P.readableRec t=true/\t<P.types.size)->aK enc P W 0 (λ_=>true) true ts vs ds ps->
  (∀p∈ps,p.block<W.heap.size)->(∀p∈ps,sp p.block=true)->aK enc P W' 0 sp true ts vs ds ps
 |[],vs,ds,ps,_,h,_,_=>by
  obtain⟨rfl,rfl,rfl⟩:=trodAll_nil h;exact trodAll_mk0
 |t::ts,vs,ds,ps,hr,h,hlt,hsp=>by
  obtain⟨v,vs',d,ds',p,q,rfl,rfl,rfl,h1,h2⟩:=trodAll_cons h;refine trodAll_cons_mk (WideElems.Trod_stays hl (hr t aY).1 (hr t aY).2 h1 (λx hx=>hb.below.same (hlt x (bj _ hx))) λx hx=>hsp x (bj _ hx)) ?_;exact X6 hl hb (λt ht=>hr t (aZ _ ht)) h2 (λx hx=>hlt x (bg _ hx)) λx hx=>hsp x (bg _ hx)
end
end Go.Sy
namespace Go.Sy
open Go.RowKit
variable [fI]
theorem ED{B:Nat}{st:St}(t id:Nat){e c n:Nat}{el:Nat->Nat->A}(ht:bT st.tmps t= .own id)(ho:bZ st.bR id= .row e c n el):eo B st ⟨eS st.tmps t (.sl c n el),cM st.bR id .dead⟩:=by
 intro w0 X a w ρ h;have cy:=h.obj id;rw[ho]at cy;have uL:=cy;obtain⟨v,xs,hl,_⟩:=uL
 let ρ':=dj ρ id .dead
 have hblk:∀ i b,(ρ' i).has b->i≠id/\(ρ i).has b:=by
  intro i b hb;by_cases cn:i=id
  .subst cn;simp only[ρ',dM]at hb;cases hb
  simp only[ρ',dX _ _ _ cn]at hb;exact⟨cn,hb⟩
 have how:∀ b,owned ρ' b->owned ρ b:=by rintro b ⟨i,hi⟩;exact⟨i,(hblk i b hi).2⟩
 have hL:dz w w (Ow X ρ) (Ow X ρ') ρ ρ':=⟨bx _,λ_ _ _=>rfl,λb _ hb=>by
  rcases hb with hb|hb
  .exact .inl hb
  .exact .inr (how b hb),λi=>by
  by_cases cn:i=id
  .subst cn;exact .inr (.inr (dM _ _ _))
  exact .inl (dX _ _ _ cn)⟩
 refine⟨ρ',⟨by simp[wI,h.len],λi=>?_,λi=>?_,λi j b hi hj=>h.dJ i j b (hblk i b hi).2 (hblk j b hj).2,h.kept,λb hb=>h.new b (how b hb),h.fu,h.jM⟩,hL.r6⟩
 .simp only[th];split
  .rename_i hi;obtain⟨rfl,_⟩:=hi;have ht':=h.tmp i;rw[ht]at ht';simp only[R,hl]at ht';obtain⟨hv,_⟩:=ht';rw[hv];refine yY cy hl hL.own (λb hb=>?_);refine⟨(h.new b ⟨id,hb⟩).2,?_⟩;rintro(hx|⟨j,hj⟩)
   .have h1:=h.fu b hx;have h2:=(h.new b ⟨id,hb⟩).1;omega
   obtain⟨h1,h2⟩:=hblk j b hj;exact h1 (h.dJ j id b h2 hb)
  exact R.later _ ρ ρ' _ hL (h.tmp i)
 simp only[ef];by_cases cn:i=id
 .subst cn;rw[bS rfl];exact dM _ _ _
 rw[bQ cn];simp only[ρ'];rw[dX _ _ _ cn];exact(h.obj i).later hL λ_ _=>rfl
theorem ajx{B:Nat}{st:St}(t id:Nat){ty:al}{ag:Bool}{n:Nat}{hh:List Int->Bool}{vv:List Int->A}(ht:bT st.tmps t= .dA id)(ho:bZ st.bR id= .mp ty ag n true [] hh vv):eo B st ⟨eS st.tmps t (.im ty ag n hh vv),cM st.bR id .dead⟩:=by
 intro w0 X a w ρ h;have cy:=h.obj id;rw[ho]at cy;obtain⟨b,es,clock,hl,hg,⟨m1,m2,m3⟩,hcl⟩:=cy
 let ρ':=dj ρ id .dead
 have hblk:∀ i b,(ρ' i).has b->i≠id/\(ρ i).has b:=by
  intro i b hb;by_cases cn:i=id
  .subst cn;simp only[ρ',dM]at hb;cases hb
  simp only[ρ',dX _ _ _ cn]at hb;exact⟨cn,hb⟩
 have how:∀ b,owned ρ' b->owned ρ b:=by rintro b ⟨i,hi⟩;exact⟨i,(hblk i b hi).2⟩
 have hL:dz w w (Ow X ρ) (Ow X ρ') ρ ρ':=⟨bx _,λ_ _ _=>rfl,λb _ hb=>by
  rcases hb with hb|hb
  .exact .inl hb
  .exact .inr (how b hb),λi=>by
  by_cases cn:i=id
  .subst cn;exact .inr (.inr (dM _ _ _))
  exact .inl (dX _ _ _ cn)⟩
 have Nw:(ρ id).has b:=by rw[hl];rfl
 refine⟨ρ',⟨by simp[wI,h.len],λi=>?_,λi=>?_,λi j b hi hj=>h.dJ i j b (hblk i b hi).2 (hblk j b hj).2,h.kept,λb hb=>h.new b (how b hb),h.fu,h.jM⟩,hL.r6⟩
 .simp only[th];split
  .rename_i hi;obtain⟨rfl,_⟩:=hi;have ht':=h.tmp i;rw[ht]at ht';simp only[R,hl]at ht';simp only[R];refine⟨b,es,clock,ht',⟨(h.new b ⟨id,Nw⟩).2,?_⟩,hg,m1,m2,λq hq=>?_⟩
   .rintro(hx|⟨j,hj⟩)
    .have h1:=h.fu b hx;have h2:=(h.new b ⟨id,Nw⟩).1;omega
    obtain⟨h1,h2⟩:=hblk j b hj;exact h1 (h.dJ j id b h2 Nw)
   have h3:=m3 q hq;have h4:=hcl rfl q;simp only[eu]at h3 h4;refine⟨λe=>?_,λe=>?_⟩
   .rw[e]at h3;exact h3
   rw[e]at h3 h4;obtain⟨x,hx,hk,hv⟩:=h3;exact⟨x,hx,hk,GN hL.b7 (h4 _ hq rfl) hv⟩
  exact R.later _ ρ ρ' _ hL (h.tmp i)
 simp only[ef];by_cases cn:i=id
 .subst cn;rw[bS rfl];exact dM _ _ _
 rw[bQ cn];simp only[ρ'];rw[dX _ _ _ cn];exact(h.obj i).later hL λ_ _=>rfl
theorem X7{B:Nat}{st:St}(b i id:Nat){cells:List A}{e c n:Nat}{el:Nat->Nat->A}(hb:bZ st.bR b= .box cells)(hi:bT cells i= .own id)(ho:bZ st.bR id= .row e c n el):eo B st ⟨st.tmps,cM (cM st.bR id .dead) b (.box (eS cells i (.sl c n el)))⟩:=by
 intro w0 X a w ρ h;have cy:=h.obj id;rw[ho]at cy;have uL:=cy;obtain⟨v,xs,hl,_⟩:=uL;have hbd:b≠id:=by rintro rfl;rw[hb]at ho;cases ho
 let ρ':=dj ρ id .dead
 have hblk:∀ i b,(ρ' i).has b->i≠id/\(ρ i).has b:=by
  intro i b hb;by_cases cn:i=id
  .subst cn;simp only[ρ',dM]at hb;cases hb
  simp only[ρ',dX _ _ _ cn]at hb;exact⟨cn,hb⟩
 have how:∀ b,owned ρ' b->owned ρ b:=by rintro b ⟨i,hi⟩;exact⟨i,(hblk i b hi).2⟩
 have hL:dz w w (Ow X ρ) (Ow X ρ') ρ ρ':=⟨bx _,λ_ _ _=>rfl,λb _ hb=>by
  rcases hb with hb|hb
  .exact .inl hb
  .exact .inr (how b hb),λi=>by
  by_cases cn:i=id
  .subst cn;exact .inr (.inr (dM _ _ _))
  exact .inl (dX _ _ _ cn)⟩
 refine⟨ρ',⟨h.len,λi=>R.later _ ρ ρ' _ hL (h.tmp i),λk=>?_,λi j b hi hj=>h.dJ i j b (hblk i b hi).2 (hblk j b hj).2,h.kept,λb hb=>h.new b (how b hb),h.fu,h.jM⟩,hL.r6⟩;simp only[ef];by_cases hk:k=b
 .subst hk;rw[bS rfl];simp only[ρ'];rw[dX _ _ _ hbd];have nK:=h.obj k;rw[hb]at nK;obtain⟨bb,vs,t,h1,h2,h3⟩:=nK;refine⟨bb,vs,t,h1,h2,ze i (RL.later _ _ _ _ hL h3) λu hu=>?_⟩;have ht':=h3.get i u hu;rw[hi]at ht';simp only[R,hl]at ht';obtain⟨hv,_⟩:=ht';rw[hv];refine yY cy hl hL.own (λb hb=>?_);refine⟨(h.new b ⟨id,hb⟩).2,?_⟩;rintro(hx|⟨j,hj⟩)
  .have h1:=h.fu b hx;have h2:=(h.new b ⟨id,hb⟩).1;omega
  obtain⟨h1,h2⟩:=hblk j b hj;exact h1 (h.dJ j id b h2 hb)
 rw[bQ hk];by_cases cn:k=id
 .subst cn;rw[bS rfl];exact dM _ _ _
 rw[bQ cn];simp only[ρ'];rw[dX _ _ _ cn];exact(h.obj k).later hL λ_ _=>rfl
theorem bY.Z5{c n n':Nat}{el el':Nat->Nat->A}(hn:n=n')(h:∀ i,i<n-> ∀j,j<c->bY (el i j) (el' i j)):bY (.sl c n el) (.sl c n' el'):=λw O ρ v hr=>by
 subst hn;simp only[R]at hr⊢;obtain⟨a,cap,rfl,h1,h2,h3⟩:=hr;refine⟨a,cap,rfl,h1,h2,λhp=>?_⟩;obtain⟨ad,rfl,hi,hc⟩:=h3 hp;refine⟨ad,rfl,hi,λi hin j hj=>?_⟩;obtain⟨u,mF,hu2,wG⟩:=hc i hin j hj;exact⟨u,mF,hu2,h i hin j hj _ _ _ _ wG⟩
theorem bY.kb(b:Bool):bY (.kb b) (.bool b):=λw O ρ v h=>by simpa only[R]using h
theorem cJ.lL{P:ak}{f:ar}{args:List A}{e c n:Nat}{el:Nat->Nat->A}(h:cJ P f args (.own 0,some (.row e c n el))):cJ P f args (.sl c n el,none):=by
 refine⟨h.lh,λw X vs hX hr=>(h.run w X vs hX hr).mono ?_⟩;rintro e' w' ⟨v,l,h1,h2,h3,h4,h5⟩;refine⟨v,.de,h1,h2,?_,rfl,λb hb=>by cases hb⟩;simp only[R,dM]at h3;have h4':=h4;obtain⟨v',xs,hl,_⟩:=h4';subst hl;simp only at h3;obtain⟨rfl,_⟩:=h3;refine yY h4 rfl (λ_ _ _=>trivial) (λb hb=>⟨(h5 b hb).2,?_⟩);rintro(hx|hx)
 .have h1:=hX b hx;have h2:=(h5 b hb).1;omega
 cases hx
theorem ao3{w0 w:az}{X:Nat->Prop}{st:St}{a:Act}{ρ:Nat->Loc}(id:Nat):(∀i b,((dj ρ id .dead) i).has b->i≠id/\(ρ i).has b)/\dz w w (Ow X ρ) (Ow X (dj ρ id .dead)) ρ (dj ρ id .dead):=by
 have hblk:∀ i b,((dj ρ id .dead) i).has b->i≠id/\(ρ i).has b:=by
  intro i b hb;by_cases cn:i=id
  .subst cn;simp only[dM]at hb;cases hb
  simp only[dX _ _ _ cn]at hb;exact⟨cn,hb⟩
 refine⟨hblk,bx _,λ_ _ _=>rfl,λb _ hb=>?_,λi=>?_⟩
 .rcases hb with hb|⟨i,hi⟩
  .exact .inl hb
  exact .inr ⟨i,(hblk i b hi).2⟩
 by_cases cn:i=id
 .subst cn;exact .inr (.inr (dM _ _ _))
 exact .inl (dX _ _ _ cn)
theorem AJ{st:St}(b i id id':Nat){cells:List A}{e c n:Nat}{el:Nat->Nat->A}(hb:bZ st.bR b= .box cells)(hi:bT cells i= .own id)(ho:bZ st.bR id= .row e c n el)(hv:bZ st.bR id'= .de):jJ st ⟨st.tmps,cM (cM (cM st.bR id .dead) id' (.row e c n el)) b (.box (eS cells i (.own id')))⟩:=by
 intro w0 X a w ρ h;have hne:id≠id':=by intro e1;subst e1;rw[ho]at hv;cases hv
 have hbi:b≠id:=by intro e1;subst e1;rw[ho]at hb;cases hb
 have ao4:b≠id':=by intro e1;subst e1;rw[hv]at hb;cases hb
 have cy:=h.obj id;rw[ho]at cy;have pZ:=h.obj id';rw[hv]at pZ;have pZ:ρ id'= .de:=pZ
 let ρ':=dj (dj ρ id .dead) id' (ρ id)
 have r1:ρ' id'=ρ id:=dM _ _ _;have r2:ρ' id= .dead:=by simp only[ρ'];rw[dX _ _ _ hne,dM]
 have r3:∀ i,i≠id->i≠id'->ρ' i=ρ i:=λi h1 h2=>by simp only[ρ'];rw[dX _ _ _ h2,dX _ _ _ h1]
 have hblk:∀ i b,(ρ' i).has b->(i=id'/\(ρ id).has b)\/(i≠id/\i≠id'/\(ρ i).has b):=by
  intro i b hb;by_cases h2:i=id'
  .subst h2;rw[r1]at hb;exact .inl ⟨rfl,hb⟩
  by_cases h1:i=id
  .subst h1;rw[r2]at hb;cases hb
  rw[r3 i h1 h2]at hb;exact .inr ⟨h1,h2,hb⟩
 have how:∀ b,owned ρ' b->owned ρ b:=by
  rintro b ⟨i,hi⟩;rcases hblk i b hi with ⟨_,h1⟩|⟨_,_,h1⟩
  .exact⟨_,h1⟩
  exact⟨_,h1⟩
 have hL:dz w w (Ow X ρ) (Ow X ρ') ρ ρ':=⟨bx _,λ_ _ _=>rfl,λb _ hb=>by
  rcases hb with hb|hb
  .exact .inl hb
  .exact .inr (how b hb),λi=>by
  by_cases h1:i=id
  .subst h1;exact .inr (.inr r2)
  by_cases h2:i=id'
  .subst h2;exact .inr (.inl pZ)
  exact .inl (r3 i h1 h2)⟩
 refine⟨ρ',⟨h.len,λi=>R.later _ ρ ρ' _ hL (h.tmp i),λk=>?_,λi j b hi hj=>?_,h.kept,λb hb=>h.new b (how b hb),h.fu,h.jM⟩,hL⟩
 .simp only[ef];by_cases hk:k=b
  .subst hk;rw[bS rfl,r3 k hbi ao4];have nK:=h.obj k;rw[hb]at nK;obtain⟨bb,vs,t,h1,h2,h3⟩:=nK;refine⟨bb,vs,t,h1,h2,ze i (RL.later _ _ _ _ hL h3) λu hu=>?_⟩;have ht':=h3.get i u hu;rw[hi]at ht';obtain⟨v,xs,hl,_⟩:=cy;simp only[R,hl]at ht';simp only[R,r1,hl];exact ht'
  rw[bQ hk];by_cases h2:k=id'
  .subst h2;rw[bS rfl,r1];obtain⟨v,xs,hl,h3,h4,h5⟩:=cy;refine⟨v,xs,hl,h3,h4,λp hp q hq=>?_⟩;obtain⟨u,h6,h7⟩:=h5 p hp q hq;exact⟨u,h6,R.later _ _ _ _ hL.b7 h7⟩
  rw[bQ h2];by_cases h1:k=id
  .subst h1;rw[bS rfl];exact r2
  rw[bQ h1,r3 k h1 h2];exact(h.obj k).later hL λ_ _=>rfl
 rcases hblk i b hi with ⟨h1,h2⟩|⟨h1,h2,h3⟩<;>rcases hblk j b hj with ⟨k1,k2⟩|⟨k1,k2,k3⟩
 .rw[h1,k1]
 .exact dP (h.dJ _ _ b h2 k3) (Ne.symm k1)
 .exact dP (h.dJ _ _ b k2 h3) (Ne.symm h1)
 exact h.dJ i j b h3 k3
def zl(keys:List Nat)(bR:List Ob):Nat->Nat->List Ob
 |0,_=>[]
 |B+1,i=>(match keys.contains i with|true=>.dead|false=>bZ bR i)::zl keys bR B (i+1)
theorem X8{keys:List Nat}{a b:List Ob}:∀ {B i:Nat},zl keys a B i=zl keys b B i-> ∀k,k<B->keys.contains (i+k)=true\/bZ a (i+k)=bZ b (i+k)
 |0,_,_,k,hk=>dP hk (Nat.not_lt_zero _)
 |B+1,i,h,k,hk=>by
  simp only[zl,bw]at h;cases k with
  |zero=>
   cases hc:keys.contains i with
   |true=>exact .inl rfl
   |false=>
    have:=h.1;rw[hc]at this;exact .inr this
  |succ k=>
   have:=X8 h.2 k (by omega);rwa[show i+1+k=i+(k+1) by omega]at this
theorem Nx{keys:List Nat}{bR:List Ob}:∀ {B i:Nat} {l:List Ob},(∀k,k<B->keys.contains (i+k)=true\/bZ bR (i+k)=bZ l k)->uR keys bR B i l
 |0,_,_,_=>trivial
 |B+1,i,[],h=>⟨by have:=h 0 (by omega);simpa[bZ]using this,Nx λk hk=>by
   have:=h (k+1) (by omega);rw[show i+(k+1)=i+1+k by omega]at this;simpa[bZ]using this⟩
 |B+1,i,o::l,h=>⟨by have:=h 0 (by omega);simpa[bZ]using this,Nx λk hk=>by
   have:=h (k+1) (by omega);rw[show i+(k+1)=i+1+k by omega]at this;simpa[bZ]using this⟩
theorem Er{keys:List Nat}{bR ik:List Ob}{B:Nat}(h:zl keys bR B 0=zl keys ik B 0):uR keys bR B 0 ik:=
 Nx λk hk=>by
  have:=X8 h k hk;rwa[bz]at this⊢
theorem dD{B n:Nat}{st:St}{ik:List Ob}(sg:List (Nat×Nat)){ts:List (Nat×A)}{os:List (Nat×Ob)}(ht:CE (qR sg) st.tmps ts)(ho:CG (qR sg) st.bR os)(hp:uR (iD os) st.bR B 0 ik:=by exact Er (by kernel_rfl))(hlen:st.tmps.length=n:=by rfl)(hc:GM B ik (qR sg) ts os=true:=by kernel_rfl):eo B st (hd B ik n ts os):=ph sg hlen ht ho hp hc
end Go.Sy
namespace Go.Sy
instance arZ:fI:=⟨λ_ _=>True,λ_=>trivial,λ_ _=>trivial,λ_=>trivial⟩
@[reducible] def x6:fI:=⟨λa b=>a<=b,bx,bH,id⟩
theorem cw{p:Prop}[Decidable p](h:p):decide p=true:=decide_eq_true h
theorem dQ{p:Prop}[Decidable p](h:¬ p):decide p=false:=decide_eq_false h
theorem er{a b:Nat}(h:a<b):decide ((a:Int)<(b:Int))=true:=decide_eq_true (by omega)
theorem eF{a:Nat}:decide ((a:Int)<(a:Int))=false:=decide_eq_false (Int.lt_irrefl _)
theorem dp{k n:Nat}(h:k<n):n-(k+1)<n-k:=by omega
end Go.Sy
namespace Go.Proofs
theorem dO{α:Type}{o:Option α}{a b:α}(h:o=some a)(e:a=b:=by kernel_rfl):o=some b:=h.trans (fU some e)
end Go.Proofs
namespace Go.Mb
open Go.Sy
theorem E7(n:Int):aS.wrap n=n%256:=by
 have hb:aS.bits=8:=rfl;have hs:aS.signed=false:=rfl;unfold aT;simp only[hb,hs,af,ab,ic];rfl
theorem ao5(n:Int):aU.wrap n=n%4294967296:=by
 have hb:aU.bits=32:=rfl;have hs:aU.signed=false:=rfl;unfold aT;simp only[hb,hs,af,ab,ic];rfl
theorem wrap_u32{n:Int}(h:0<=n)(h':n<=4294967295):aU.wrap n=n:=by rw[ao5];omega
def cO{α:Type}[Inhabited α](cells:α->List A)(l:List α):Nat->Nat->A:=λi j=>bT (cells (l.getD i aX)) j
section
variable {α:Type} [Inhabited α]
theorem cV{l:List α}{i:Nat}(h:i<l.length):l.getD i aX=l[i]:=by simp[bh,h]
theorem gg{l:List α}{k:Nat}(h:k<l.length):l.take (k+1)=l.take k++[l.getD k aX]:=by
 rw[List.take_succ_eq_append_getElem h,cV h]
theorem akD{l:List α}{k:Nat}(h:l.length<=k):l.take k=l:=bd h
theorem ao6{l m:List α}{i:Nat}(h:i<l.length):(l++m).getD i aX=l.getD i aX:=by
 simp[bh,List.getElem?_append_left h]
theorem ao7{l m:List α}{i:Nat}(h:l.length<=i):(l++m).getD i aX=m.getD (i-l.length) aX:=by
 simp[bh,List.getElem?_append_right h]
theorem Ep(cells:α->List A)(l m:List α)(i j:Nat):(if i<l.length then cO cells l i j else cO cells m (i-l.length) j)=cO cells (l++m) i j:=by
 unfold cO;split
 .rename_i h;rw[ao6 h]
 rename_i h;rw[ao7 (by omega)]
def idx(p:α->Bool)(l:List α):Int:=if l.findIdx p<l.length then(l.findIdx p:Int)else-1
theorem Ei{p:α->Bool}{l:List α}{k:Nat}(h:k<l.length)(hp:p (l.getD k aX)=true)(hn:∀ i,i<k->p (l.getD i aX)=false):idx p l=k:=by
 have:l.findIdx p=k:=by
  rw[List.findIdx_eq h];refine⟨by rw[<-cV h];exact hp,λj hj=>?_⟩;rw[<-cV (by omega)];exact hn j hj
 unfold idx;rw[this,bS h]
theorem Ej{p:α->Bool}{l:List α}(hn:∀ i,i<l.length->p (l.getD i aX)=false):idx p l= -1:=by
 have:¬ l.findIdx p<l.length:=by
  intro h;have h1:=bk (w:=h);have h2:=hn _ h;rw[cV h]at h2;rw[h1]at h2;cases h2
 unfold idx;rw[bQ this]
theorem X9(p:α->Bool)(l:List α):(idx p l= -1/\ ∀x∈l,p x=false)\/ ∃k,k<l.length/\idx p l=(k:Int)/\p (l.getD k aX)=true/\ ∀i,i<k->p (l.getD i aX)=false:=by
 by_cases h:l.findIdx p<l.length
 .refine .inr ⟨l.findIdx p,h,by unfold idx;rw[bS h],?_,λi hi=>?_⟩
  .rw[cV h];exact bk (w:=h)
  rw[cV (by omega)];simpa using List.not_of_lt_findIdx hi
 refine .inl ⟨by unfold idx;rw[bQ h],λx hx=>?_⟩;have:=List.findIdx_lt_length (p:=p) (xs:=l);rw[<-Bool.not_eq_true];intro hp;exact h (this.2 ⟨x,hx,hp⟩)
theorem Ny(p:α->Bool)(l:List α):-1<=idx p l/\idx p l<l.length:=by
 rcases X9 p l with ⟨h,_⟩|⟨k,hk,h,_⟩<;>rw[h]<;>omega
theorem ald(p:α->Bool)(l:List α):idx p l<0↔l.any p=false:=by
 rcases X9 p l with ⟨h,h2⟩|⟨k,hk,h,h2,_⟩
 .rw[h];simp;intro x hx;exact h2 x hx
 rw[h];rw[cV hk]at h2;constructor
 .intro h;omega
 intro h3;rw[List.any_eq_false]at h3;exact dP h2 (h3 _ (bp hk))
end
theorem TO{a b:ByteArray}:a.toList=b.toList↔a=b:=by
 constructor
 .intro h;have:a.data.toList=b.data.toList:=by simpa[ByteArray.toList_eq]using h
  cases a;cases b;simp only[ByteArray.mk.injEq];exact Array.toList_inj.1 this
 rintro rfl;rfl
def fY(n lo hi:Int):Bool:=decide (lo<=n/\n<=hi)
theorem T8{n lo hi:Int}(h:decide (n>=lo)=true):decide (n<=hi)=fY n lo hi:=by
 simp at h;unfold fY;rw[ae];simp;omega
theorem T9{n lo hi:Int}(h:decide (n>=lo)=false):false=fY n lo hi:=by
 simp at h;unfold fY;rw[ae];simp;omega
theorem gE{α:Type}[Inhabited α]{cells:α->List A}{l:List α}{x:α}{c:Nat}{cs:List A}(hcs:cs=cells x):∀ i,i<l.length+1-> ∀j,j<c->(if i<l.length then cO cells l i j else bT cs ((i-l.length)*c+j))=cO cells (l++[x]) i j:=by
 intro i hi j hj;rw[<-Ep];split
 .rfl
 have:i-l.length=0:=by omega
 rw[this,hcs];simp[cO]
theorem df{σ:Nat->Nat}{e c m n:Nat}{el' el:Nat->Nat->A}{b:Ob}(h:b= .row e c m el')(hm:m=n)(hel:∀ i,i<n-> ∀j,j<c->el' i j=el i j):wV σ (.row e c n el) b:=by
 subst hm;exact⟨el',h,hel⟩
theorem je{k n:Nat}(h:k<n)(hn:n<=9000000000000000000):aR.wrap ((k:Int)+1)=((k+1:Nat):Int):=by
 rw[wrap_i64 (by omega) (by omega)];omega
theorem dG{n:Int}(h1:-9223372036854775808<=n:=by omega)(h2:n<=9223372036854775807:=by omega):aR.wrap n=n:=wrap_i64 h1 h2
theorem c6{σ:Nat->Nat}{b:A}{k n:Nat}(h:k<n)(hb:b= .int .i64 (aR.wrap ((k:Int)+1)):=by rfl)(hn:n<=9000000000000000000:=by omega):jb σ (.int .i64 ((k+1:Nat):Int)) b:=c9 hb (je h hn)
theorem ee{σ:Nat->Nat}{e c n:Nat}{el:Nat->Nat->A}:wV σ (.row e c n el) (.row e c n el):=df rfl rfl λ_ _ _ _=>rfl
theorem fk{a b:Bool}(h:a=b):bY (.bool a) (.bool b):=bY.of (fU A.bool h)
theorem dY{k:aA}{a b:Int}(h:a=b):bY (.int k a) (.int k b):=bY.of (fU (A.int k) h)
theorem row_one{α:Type}[Inhabited α]{cells:α->List A}{x:α}{c:Nat}{cs:List A}(hcs:cs=cells x):∀ i,i<1-> ∀j,j<c->bT cs (i*c+j)=cO cells [x] i j:=by
 intro i hi j hj;have:i=0:=by omega
 subst this;rw[hcs];simp[cO]
theorem SR{cs:List A}(h:gC (flat 3) cs=true)(j:Nat):flat 3 (bT cs j)=true:=by
 induction cs generalizing j with
 |nil=>rfl
 |cons a l ih=>
  simp only[gC,aj]at h;cases j with
  |zero=>exact h.1
  |succ j=>exact ih h.2 j
theorem ur{b:Bool}(h:(!b)=true):b=false:=by cases b<;>first|rfl|cases h
theorem vZ{b:Bool}(h:(!b)=false):b=true:=by cases b<;>first|rfl|cases h
theorem drop_cons{α:Type}[Inhabited α]{l:List α}{k:Nat}(h:k<l.length):l.drop k=l.getD k aX::l.drop (k+1):=by
 rw[ba h,cV h]
theorem ao8{α:Type}{l:List α}{k:Nat}(h:l.length<=k):l.drop k=[]:=List.drop_eq_nil_of_le h
def nC(n:Int):List A:=[.int .i64 n]
def eD(l:List Int):A:=.sl 1 l.length (cO nC l)
theorem Bg{α:Type}[Inhabited α]{L:List α}{p:α->Prop}(h:∀ x∈L,p x){j:Nat}(hj:j<L.length):p (L.getD j aX):=by
 rw[cV hj];exact h _ (bp _)
theorem x9{α:Type}[Inhabited α](L:List α)(i:Nat)(x:α)(q:Nat)(hi:i<L.length):(L.set i x).getD q aX=if q=i then x else L.getD q aX:=by
 simp only[bh,List.getElem?_set];by_cases h:q=i
 .subst h;simp[hi]
 rw[bQ h,bQ (λe=>h e.symm)]
theorem ao9{k n:Nat}(h:k<n)(hn:n<=9000000000000000000):aR.wrap (((k+1:Nat):Int)-1)=(k:Int):=by
 rw[wrap_i64 (by omega) (by omega)];omega
end Go.Mb
