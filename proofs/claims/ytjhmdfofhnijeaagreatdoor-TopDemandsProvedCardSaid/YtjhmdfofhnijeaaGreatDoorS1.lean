import Derived.Calls
import Derived.KernelRfl
import Derived.Below
import Derived.Maps.AppendAt
import Derived.Laws.CopyRow
import Derived.Laws.IdiomCopy
import Derived.Laws.Cells
import Derived.Laws.Entries
import Derived.Laws.IdiomStrings
import Derived.Deep.AppendSrc
import Derived.Laws.Build
import Derived.Laws.StructEq
import Derived.Laws.BytesString
open BitVec renaming ofInt->aa
open Bool renaming and_eq_true->ab
open Go renaming Value->ae, TypeId->af, Oper->ai, Operand->aj, World->ak, Program->al, IntKind->aq, BinOp->ar, Addr->au, FuncId->av, MapEntry->ay
open Go.Builtin renaming len_->az, min_->aA, max_->aB
open Go.Instr renaming sureAddr->aC, sliceAt->aD, indexAt->aF, loadAt->aG, sliceBounds->aH, slice->aI, makeFunc->aJ, fieldAt->aK, index->aL, build->aM, sliceBound->aN, findKey->aO, field->aP, fill->aQ
open Go.Op renaming equalIn->aR, bytesLess->aS, equal->aT, unary->aU, stringOp->aV, intArith->aW
open Go.Result renaming andThen_ok->aX
open Go.Sem renaming run_bind->aY, run_pure->aZ
open Go.Value renaming int->a6, oneCell'->a7, cells->a8
open Go.Value.slice renaming injEq->ba
open List renaming toArray->bc, getElem?_append_right->bd, getElem?_append_left->bg, range->bh, getElem?_take_of_lt->bj, getElem?_eq_none->bk, map_cons->bl, getElem?_take->bn, map_map->bp, eq_nil_of_length_eq_zero->bq, take->br, getElem?_drop->bu, append_assoc->bw, cons_append->bx, foldl_cons->bz, mem_cons->bA, drop->bB
open Nat renaming beq->bD, le_refl->bE, mul_pos->bF, add_mul->bG, add_assoc->bH, lt_or_ge->bI, le_of_ble_eq_true->bJ, lt_of_lt_of_le->bK, eq_zero_or_pos->bL, ble->bM
open Option renaming map_eq_some_iff->AI, map_some->AS
open Option.some renaming injEq->AT
set_option linter.all false
namespace Go
def bQ:=@if_neg
def bS:=@if_pos
def dN:=@decide_eq_true_eq
def eY:=@of_decide_eq_false
def fv:=@of_decide_eq_true
def gU:=@decide_eq_false_iff_not
def gH:=@beq_iff_eq
def jd:=@beq_false_of_ne
def mX:=@bne_iff_ne
def np:=@bne_self_eq_false
def ie:=@eq_of_beq
def ic:=@if_false
def iI:=@if_true
def iP:=@eq_comm
def fU:=@congrArg
def dP:=@absurd
def pz:=@and_true
def pB:=@true_and
def bP:True:=.intro
end Go
namespace Go.Sy
inductive A where
 |dU
 |lM
 |kb (b:Bool)
 |bool (b:Bool)
 |int (k:aq) (n:Int)
 |str (s:ByteArray)
 |bN
 |sl (c n:Nat) (el:Nat->Nat->A)
 |ip (c:Nat) (el:Nat->A)
 |own (id:Nat)
 |ptr (id off:Nat)
 |rp (id c i off:Nat)
 |fn (f:av) (fN:List A)
 |agg (cs:List A)
 |cG (vs:List A)
 /-- some arz value -/
 |lF
 /-- the nil pointer -/
 |kh
 /-- the function 'arA of a loop over a function -/
 |dA (id:Nat)
 /-- a part of a row of the KR own:from element lo on,n elements -/
 |ov (id c lo n:Nat)
 /-- the address of a cell of a box,by a number that is not arB out -/
 |ap (id i:Nat)
 /-- a method of what arC at that place of a box -/
 |bm (f:av) (id off:Nat)
 /-- a method of a arD value -/
 |bv (f:av) (l:List A)
 /-- a slice of n slices of the KR own -/
 |rv (id n:Nat)
 /-- a map that Vj changes any more:which keys it has,and their values -/
 |im (t:af) (ag:Bool) (n:Nat) (h:List Int->Bool) (v:List Int->A)
instance:Inhabited A:=⟨.dU⟩
inductive T (α:Type) where
 |ret (a:α)
 |ite (b:Bool) (t e:T α)
 |fail
def T.eval{α:Type}:T α->Option α
 | .ret a=>some a
 | .ite b t e=>match b with|true=>t.eval|false=>e.eval
 | .fail=>none
def T.dW{α:Type}(b:Bool)(t:T α):T α:=.ite b t .fail
def yE{α:Type}(n:Nat)(k:Nat->T α):T α:=
 match n with
 |0=>k 0
 |m+1=>k (m+1)
theorem oV{α:Type}(n:Nat)(k:Nat->T α):yE n k=k n:=by cases n<;>rfl
inductive Ob where
 |de
 |dead
 |box (cells:List A)
 |row (e:af) (c n:Nat) (el:Nat->Nat->A)
 /-- a loop over a function:the slots at wx head,wx variables,wx two texts;wx state;the jump by which it was left -/
 |lp (ts:List A) (ps:List Nat) (gQ gL:Code) (gZ:LoopState) (iK:Option Code)
 /-- a map amk keys are n numbers (ag:in a struct);cl:wx values hold no object of the frame:what was changed last,arE first(none:arF);which keys it had before,and their values -/
 |mp (t:af) (ag:Bool) (n:Nat) (cl:Bool) (u:List (List Int×Option A)) (h:List Int->Bool) (v:List Int->A)
 /-- n slices of the KR own,in a row (of type te):their arG type,cells,their arH,their cells;hole:one of them is what a value says -/
 |rr (te e:af) (c n:Nat) (len:Nat->Nat) (el:Nat->Nat->Nat->A) (hole:Option (Nat×A))
 /-- a round about a map that Vj changes:the keys that have arI handed out,the last one first -/
 |it (t:af) (ag:Bool) (n:Nat) (h:List Int->Bool) (v:List Int->A) (seen:List (List Int))
structure St where
 tmps:List A
 bR:List Ob
def bT:List A->Nat->A
 |[],_=>.dU
 |a::_,0=>a
 |_::l,n+1=>bT l n
def bZ:List Ob->Nat->Ob
 |[],_=>.de
 |a::_,0=>a
 |_::l,n+1=>bZ l n
def eS{α:Type}:List α->Nat->α->List α
 |[],_,_=>[]
 |_::l,0,v=>v::l
 |a::l,n+1,v=>a::eS l n v
def cM:List Ob->Nat->Ob->List Ob
 |[],0,v=>[v]
 |[],n+1,v=>.de::cM [] n v
 |_::l,0,v=>v::l
 |a::l,n+1,v=>a::cM l n v
def FE:ae->A
 | .bool b=>.kb b
 | .int k n=>.int k n
 | .string s=>.str s
 | .slice none 0 0=>.bN
 | .pointer none=>.kh
 | .func (.func f) ⟨[]⟩ ⟨[]⟩=>.fn f []
 | .agg _=>.dU
 | .tuple _=>.dU
 |_=>.lM
def yF:List ae->List A
 |[]=>[]
 |v::l=>(match v with| .bool b=>.bool b|v=>FE v)::yF l
def BC:ae->A
 | .agg cs=>.agg (yF cs.toList)
 | .tuple ⟨[]⟩=>.cG []
 |v=>FE v
def cQ(tmps:List A):aj->A
 | .tmp t=>bT tmps t
 | .const v=>BC v
 | .global _=>.dU
 | .func f=>.fn f []
def cellsOf:A->Option (List A)
 | .agg cs=>some cs
 | .cG _=>none
 | .dU=>none
 |a=>some [a]
def yG:A->Bool
 | .agg _=>false
 | .cG _=>false
 | .dU=>false
 |_=>true
def uy:List A->Bool
 |[]=>true
 |a::l=>yG a&&uy l
def jn(P:al)(t:af):Option Bool:=
 match P.underlying t with
 |some (.struct _)|some (.array _ _)=>some true
 |some _=>some false
 |none=>none
def gY(P:al)(t:af):Option Nat:=(P.info? t).map (·.size)
def takeN{α:Type}:Nat->List α->Option (List α)
 |0,_=>some []
 |_+1,[]=>none
 |n+1,a::l=>match takeN n l with|some m=>some (a::m)|none=>none
def jE{α:Type}:Nat->List α->List α
 |0,l=>l
 |_+1,[]=>[]
 |n+1,_::l=>jE n l
def oo:List A->Nat->List A->Option (List A)
 |l,_,[]=>some l
 |[],_,_::_=>none
 |_::l,0,v::vs=>match oo l 0 vs with|some m=>some (v::m)|none=>none
 |a::l,n+1,v::vs=>match oo l n (v::vs)with|some m=>some (a::m)|none=>none
def rangeMap(el:Nat->A)(i:Nat):Nat->List A
 |0=>[]
 |n+1=>el i::rangeMap el (i+1) n
def kW(f:A->Option A):List A->Option (List A)
 |[]=>some []
 |a::l=>match f a,kW f l with
  |some b,some m=>some (b::m)
  |_,_=>none
def sV(k:aq):List A->Option (List Int)
 |[]=>some []
 | .int k' n::l=>if k'=k then(match sV k l with|some m=>some (n::m)|none=>none)else none
 |_::_=>none
def kindOf:List A->aq
 | .int k _::_=>k
 |_=>.i64
def eX(bR:List Ob):Nat->A->Option A
 |0,_=>none
 |d+1,a=>match a with
  | .own id=>match bZ bR id with
   | .row _ c n el=>some (.sl c n el)
   |_=>none
  | .ptr id off=>match bZ bR id with
   | .box cells=>match kW (eX bR d) cells with
    |some cs=>some (.ip (cs.length-off) (bT (jE off cs)))
    |none=>none
   |_=>none
  | .rp _ _ _ _=>none
  | .dA _=>some .dU
  | .ap _ _=>none
  | .bm _ _ _=>none
  | .rv _ _=>none
  | .ov id c lo n=>match bZ bR id with
   | .row _ c' _ el=>if c=c' then some (.sl c n (λi=>el (lo+i)))else none
   | .box cells=>match sV (kindOf cells) cells with
    |some l=>if c=1/\lo+n<=l.length then some (.sl 1 n (λi _=>.int (kindOf cells) (l.getD (lo+i) 0)))else none
    |none=>none
   |_=>none
  | .kb b=>some (.bool b)
  | .fn f fN=>match kW (eX bR d) fN with|some l=>some (.fn f l)|none=>none
  | .bv f fN=>match kW (eX bR d) fN with|some l=>some (.bv f l)|none=>none
  | .agg cs=>match kW (eX bR d) cs with|some l=>some (.agg l)|none=>none
  | .cG cs=>match kW (eX bR d) cs with|some l=>some (.cG l)|none=>none
  |a=>some a
def KS(id:Nat)(bR:List Ob)(a:A):Option A:=
 match a with
 | .own j=>bif bD j id then some (.own 0)else eX bR 5 (.own j)
 |a=>eX bR 5 a
def uz(id:Nat)(bR:List Ob):List A->Option (List A)
 |[]=>some []
 |a::l=>match KS id bR a,uz id bR l with
  |some b,some m=>some (b::m)
  |_,_=>none
def gC(f:A->Bool):List A->Bool
 |[]=>true
 |a::l=>f a&&gC f l
def closed:Nat->A->Bool
 |0,_=>false
 |d+1,a=>match a with
  | .own _| .ptr _ _| .rp _ _ _ _| .dA _| .ov _ _ _ _| .ap _ _| .bm _ _ _| .rv _ _=>false
  | .fn _ l| .agg l| .cG l| .bv _ l=>gC (closed d) l
  |_=>true
def flat:Nat->A->Bool
 |0,_=>false
 |d+1,a=>match a with
  | .kb _| .bool _| .int _ _| .str _| .dU| .lM| .bN| .own 0| .dA 0| .lF| .kh=>true
  | .agg l| .cG l| .fn _ l| .bv _ l=>gC (flat d) l
  |_=>false
def eP(f:A->A):List A->List A
 |[]=>[]
 |a::l=>f a::eP f l
def eU(i t:Nat):Nat->A->A
 |0,_=>.dU
 |d+1,a=>match a with
  | .own j=>if j=i then .own t else .dU
  | .ptr _ _=>.dU
  | .rp _ _ _ _=>.dU
  | .dA j=>if j=i then .dA t else .dU
  | .ov _ _ _ _=>.dU
  | .ap _ _=>.dU
  | .bm _ _ _=>.dU
  | .rv _ _=>.dU
  | .agg l=>.agg (eP (eU i t d) l)
  | .cG l=>.cG (eP (eU i t d) l)
  | .fn f l=>.fn f (eP (eU i t d) l)
  | .bv f l=>.bv f (eP (eU i t d) l)
  |a=>a
def nth{α:Type}:List α->Nat->Option α
 |[],_=>none
 |a::_,0=>some a
 |_::l,n+1=>nth l n
def KT(P:al)(s:af)(f:Nat):Option Nat:=
 match P.underlying s with
 |some (.struct fs)=>match nth fs.toList f with
  |some fl=>match P.info? fl.type with
   |some i=>if i.size=0 then none else some fl.offset
   |none=>none
  |none=>none
 |_=>none
def wy(place:Nat->Option (Nat×Nat))(cells:List A):List (Nat×A)->Option (List A)
 |[]=>some cells
 |(i,v)::rest=>match place i,cellsOf v with
  |some (off,size),some cs=>if cs.length=size/\0<size then match oo cells off cs with
    |some c'=>wy place c' rest
    |none=>none
   else none
  |_,_=>none
def zeroCells(P:al)(t:af):Option (List A):=
 match P.info? t with
 |some i=>match i.zero with
  |some v=>some (yF v.cells.toList)
  |none=>none
 |none=>none
def uA(z:List A):Nat->List A
 |0=>[]
 |n+1=>z++uA z n
inductive CK where
 |b
 |s
 |i (k:aq)
def KU:CK->A->A->Option Bool
 | .b,.bool a,.bool b| .b,.kb a,.kb b| .b,.kb a,.bool b| .b,.bool a,.kb b=>some (a==b)
 | .i q,.int k a,.int k' b=>if k=q/\k'=q then some (a==b)else none
 | .s,.str a,.str b=>some (a.toList==b.toList)
 |_,_,_=>none
def sW:List CK->List A->List A->Option Bool
 |[],[],[]=>some true
 |c::cs,a::l,b::m=>match KU c a b,sW cs l m with
  |some x,some y=>some (x&&y)
  |_,_=>none
 |_,_,_=>none
def rO:CK->ae->ae->Option Bool
 | .b,.bool a,.bool b=>some (a==b)
 | .i q,.int k a,.int k' b=>if k=q/\k'=q then some (a==b)else none
 | .s,.string a,.string b=>some (a.toList==b.toList)
 |_,_,_=>none
def iL:List CK->List ae->List ae->Option Bool
 |[],[],[]=>some true
 |c::cs,a::l,b::m=>match rO c a b,iL cs l m with
  |some x,some y=>some (x&&y)
  |_,_=>none
 |_,_,_=>none
def arith(op:ar)(k:aq)(a b:Int):T A:=
 match op with
 | .add=>.ret (.int k (k.wrap (a+b)))
 | .sub=>.ret (.int k (k.wrap (a-b)))
 | .mul=>.ret (.int k (k.wrap (a*b)))
 | .quo=>.dW (b !=0) (.ret (.int k (k.wrap (a.tdiv b))))
 | .rem=>.dW (b !=0) (.ret (.int k (a.tmod b)))
 | .eql=>.ret (.bool (a==b))
 | .neq=>.ret (.bool (a !=b))
 | .lss=>.ret (.bool (decide (a<b)))
 | .leq=>.ret (.bool (decide (a<=b)))
 | .gtr=>.ret (.bool (decide (a>b)))
 | .geq=>.ret (.bool (decide (a>=b)))
 | .and=>.ret (.int k (k.wrap ((aa k.bits a &&& aa k.bits b).toNat:Int)))
 | .or=>.ret (.int k (k.wrap ((aa k.bits a ||| aa k.bits b).toNat:Int)))
 | .xor=>.ret (.int k (k.wrap ((aa k.bits a ^^^ aa k.bits b).toNat:Int)))
 | .andNot=>.ret (.int k (k.wrap ((aa k.bits a &&& ~~~aa k.bits b).toNat:Int)))
 |_=>.fail
def KV(op:ar)(k:aq)(a b:Int):T A:=
 match op with
 | .shl=>.dW (decide (0<=b)) (.ret (.int k (k.wrap (a*2^(min b.toNat k.bits)))))
 | .shr=>.dW (decide (0<=b)) (.ret (.int k (a.fdiv (2^(min b.toNat k.bits)))))
 |_=>.fail
def KW:ar->Bool
 | .shl=>true
 | .shr=>true
 |_=>false
def KX(op:ar)(a b:ByteArray):T A:=
 match op with
 | .add=>.dW (decide (a.size+b.size<=9223372036854775807)) (.ret (.str (a++b)))
 | .eql=>.ret (.bool (a.toList==b.toList))
 | .neq=>.ret (.bool (!(a.toList==b.toList)))
 | .lss=>.ret (.bool (aS a.toList b.toList))
 | .leq=>.ret (.bool (aS a.toList b.toList||a.toList==b.toList))
 | .gtr=>.ret (.bool (!(aS a.toList b.toList||a.toList==b.toList)))
 | .geq=>.ret (.bool (!(aS a.toList b.toList)))
 |_=>.fail
structure Env where
 P:al
 lJ:af->Option (List CK)
 /-- arJ that change a row of their aml:known by arK -/
 mu:List av:=[]
 /-- slots amk new rows Vj changes -/
 lL:List Nat:=[]
 /-- types of maps:amm the keys are structs,how many numbers arL have -/
 nO:af->Option (Bool×Nat):=λ_=>none
def KY(op:ar)(a b:Bool):T A:=
 match op with
 | .eql=>.ret (.bool (a==b))
 | .neq=>.ret (.bool (!(a==b)))
 |_=>.fail
def yH(E:Env)(op:ar)(t:af)(yes no:A):T A:=
 match E.P.underlying t with
 |some (.slice _)=>(match op with
  | .eql=>.ret yes
  | .neq=>.ret no
  |_=>.fail)
 |_=>.fail
def FF(E:Env)(op:ar)(t:af)(b:Bool):T A:=
 match E.P.underlying t with
 |some (.pointer _)=>(match op with
  | .eql=>.ret (.kb b)
  | .neq=>.ret (.kb (!b))
  |_=>.fail)
 |_=>.fail
def KZ(E:Env)(op:ar)(t:af)(x y:A):T A:=
 match x,y with
 | .int k a,.int k' b=>match KW op with
  |true=>KV op k a b
  |false=>if k=k' then arith op k a b else .fail
 | .str a,.str b=>KX op a b
 | .bool a,.bool b| .kb a,.bool b| .bool a,.kb b| .kb a,.kb b=>match E.P.underlying t with
  |some .bool=>KY op a b
  |_=>.fail
 | .agg l,.agg m=>match E.lJ t with
  |some ks=>match sW ks l m with
   |some b=>(match op with
    | .eql=>.ret (.bool b)
    | .neq=>.ret (.bool (!b))
    |_=>.fail)
   |none=>.fail
  |none=>.fail
 | .bN,.bN=>yH E op t (.kb true) (.kb false)
 | .sl c n _,.bN=>if 0<c then .ite (decide (n=0)) (yH E op t .lF .lF) (yH E op t (.kb false) (.kb true))else .fail
 | .own _,.bN=>yH E op t .lF .lF
 | .kh,.kh=>FF E op t true
 | .ip _ _,.kh| .ptr _ _,.kh| .rp _ _ _ _,.kh=>FF E op t false
 |_,_=>.fail
def K0(op:UnOp)(x:A):T A:=
 match op,x with
 | .neg,.int k n=>.ret (.int k (k.wrap (0-n)))
 | .not,.bool b=>.ret (.bool (!b))
 | .not,.kb b=>.ret (.kb (!b))
 | .not,.lF=>.ret .lF
 |_,_=>.fail
def yn(k:aq)(i:Nat)(v:Int):Nat->List Int->List A
 |_,[]=>[]
 |j,n::l=>.int k (if j=i then v else n)::yn k i v (j+1) l
def lG(P:al)(bR:List Ob)(t:af)(a:A):T A:=
 match jn P t,gY P t with
 |some ag,some s=>match a with
  | .ptr id off=>match bZ bR id with
   | .box cells=>match ag with
    |true=>match takeN s (jE off cells)with|some cs=>.ret (.agg cs)|none=>.fail
    |false=>match jE off cells with|c::_=>.ret c|[]=>.fail
   |_=>.fail
  | .ip c el=>match ag with
   |true=>if s<=c then .ret (.agg (rangeMap el 0 s))else .fail
   |false=>if 1<=c then .ret (el 0)else .fail
  | .rp id c i off=>match bZ bR id with
   | .row _ c' n el=>if c=c' then .dW (decide (i<n)) (match ag with
     |true=>if off+s<=c then .ret (.agg (rangeMap (el i) off s))else .fail
     |false=>if off+1<=c then .ret (el i off)else .fail)
    else .fail
   |_=>.fail
  | .ap id i=>match bZ bR id with
   | .box cells=>match ag with
    |true=>.fail
    |false=>match sV (kindOf cells) cells with
     |some l=>.dW (decide (i<l.length)) (.ret (.int (kindOf cells) (l.getD i 0)))
     |none=>.fail
   | .rr _ _ _ _ _ _ (some (k,x))=>match ag with
    |true=>.fail
    |false=>.dW (decide (i=k)) (.ret x)
   |_=>.fail
  |_=>.fail
 |_,_=>.fail
def pJ(a:A)(o:Nat):T A:=
 match a with
 | .ptr id off=>.ret (.ptr id (off+o))
 | .ip c el=>.ret (.ip (c-o) (λj=>el (o+j)))
 | .rp id c i off=>.ret (.rp id c i (off+o))
 |_=>.fail
def yI{α:Type}(i:Int)(k:Nat->T α):Nat->Nat->T α
 |0,_=>.fail
 |m+1,j=>.ite (i==(j:Int)) (k j) (yI i k m (j+1))
def amn(P:al)(e:af):Bool:=
 match P.underlying e with
 |some (.int _)=>true
 |_=>false
def sX(P:al)(bR:List Ob)(t:af)(x i:A):T A:=
 match i with
 | .int _ n=>match P.underlying t with
  |some (.slice e)=>match x,gY P e with
   | .sl c m el,some s=>if c=s/\0<s then .dW (decide (0<=n/\n<m)) (.ret (.ip c (el n.toNat)))else .fail
   | .own id,some s=>match bZ bR id with
    | .row _ c m _=>if c=s then .dW (decide (0<=n/\n<m)) (.ret (.rp id c n.toNat 0))else .fail
    |_=>.fail
   | .ov id c lo m,some s=>match bZ bR id with
    | .row _ _ _ _=>if c=s then .dW (decide (0<=n/\n<m)) (.ret (.rp id c (lo+n.toNat) 0))else .fail
    | .box _=>if c=s/\s=1 then .dW (decide (0<=n/\n<m)) (.ret (.ptr id (lo+n.toNat)))else .fail
    |_=>.fail
   | .rv id m,some s=>if s=1 then .dW (decide (0<=n/\n<m)) (.ret (.ap id n.toNat))else .fail
   |_,_=>.fail
  |some (.array len e)=>match gY P e with
   |some s=>match bM 5 len&&(bD s 1&&amn P e),x with
    |true,.ptr id 0=>.dW (decide (0<=n/\n<(len:Int))) (.ret (.ap id n.toNat))
    |_,_=>yI n (λj=>pJ x (j*s)) len 0
   |none=>.fail
  |_=>.fail
 |_=>.fail
def BD(ag:Bool)(s:Nat)(cs:List A)(o:Nat):T A:=
 match ag with
 |true=>match takeN s (jE o cs)with|some l=>.ret (.agg l)|none=>.fail
 |false=>match jE o cs with|c::_=>.ret c|[]=>.fail
def K2(P:al)(t:af)(x i:A):T A:=
 match i with
 | .int _ n=>match P.underlying t,x with
  |some (.array len e),.agg cs=>match gY P e,jn P e with
   |some s,some ag=>yI n (λj=>BD ag s cs (j*s)) len 0
   |_,_=>.fail
  |some .string,.str s=>.dW (decide (0<=n/\n<s.size)) (.ret (.int .u8 ((s.data.toList.getD n.toNat 0).toNat:Int)))
  |_,_=>.fail
 |_=>.fail
def oq(x:Option A)(d:Nat):Option Int:=
 match x with
 |none=>some d
 |some (.int _ n)=>some n
 |some _=>none
def yJ(P:al)(bR:List Ob)(t:af)(x:A)(lo hi:Option A):T A:=
 match P.underlying t,x with
 |some .string,.str s=>match oq lo 0,oq hi s.size with
  |some l,some h=>.dW (decide (0<=l/\l<=h/\h<=s.size)) (.ret (.str (s.extract l.toNat h.toNat)))
  |_,_=>.fail
 |some (.slice e),.bN=>match gY P e,oq lo 0,oq hi 0 with
  |some _,some l,some h=>.dW (decide (0<=l/\l<=h/\h<=0)) (.ret .bN)
  |_,_,_=>.fail
 |some (.slice e),.sl c n el=>match gY P e,oq lo 0,oq hi n with
  |some s,some l,some h=>if c=s then .dW (decide (0<=l/\l<=h/\h<=n)) (.ret (.sl c (h-l).toNat (λi=>el (l.toNat+i))))else .fail
  |_,_,_=>.fail
 |some (.slice e),.own id=>match bZ bR id with
  | .row _ c n _=>match gY P e,oq lo 0,oq hi n with
   |some s,some l,some h=>if c=s then .dW (decide (0<=l/\l<=h/\h<=n)) (.ret (.ov id c l.toNat (h-l).toNat))else .fail
   |_,_,_=>.fail
  |_=>.fail
 |some (.slice e),.ov id c lo' n=>match bZ bR id with
  | .row _ c' _ _=>match gY P e,oq lo 0,oq hi n with
   |some s,some l,some h=>if c=s/\c'=c then .dW (decide (0<=l/\l<=h/\h<=n)) (.ret (.ov id c (lo'+l.toNat) (h-l).toNat))else .fail
   |_,_,_=>.fail
  |_=>.fail
 |some (.array m e),.ptr id off=>match lo,hi,gY P e with
  |none,none,some s=>if s=1/\off=0/\m<=65536 then .ret (.ov id 1 0 m)else .fail
  |_,_,_=>.fail
 |_,_=>.fail
def K3(P:al)(bR:List Ob)(t:af)(x:A):T A:=
 match P.underlying t,x with
 |some .string,.str s=>.ret (.int .i64 s.size)
 |some (.slice _),.sl _ n _=>.ret (.int .i64 n)
 |some (.slice _),.bN=>.ret (.int .i64 0)
 |some (.slice _),.own id=>match bZ bR id with
  | .row _ _ n _=>.ret (.int .i64 n)
  |_=>.fail
 |some (.slice _),.ov _ _ _ n=>.ret (.int .i64 n)
 |some (.slice _),.rv _ n=>.ret (.int .i64 n)
 |_,_=>.fail
def K4(P:al)(t:af)(x h m:A):T A:=
 match P.underlying t,h,m with
 |some (.slice e),.int _ a,.int _ b=>match gY P e with
  |some _=>if a=0/\b=0 then(match x with
   | .bN=>.ret .bN
   |_=>.fail)else .fail
  |none=>.fail
 |_,_,_=>.fail
def FG:A->Bool
 | .int .u8 _=>true
 |_=>false
def oP:A->Int
 | .int _ n=>n
 |_=>0
def oQ(f:Nat->Bool):Nat->Bool
 |0=>true
 |n+1=>oQ f n&&f n
def bytesOf(el:Nat->Nat->A)(n:Nat):ByteArray:=⟨((bh n).map λi=>UInt8.ofNat (oP (el i 0)).toNat).toArray⟩
def oW(P:al)(bR:List Ob)(src dst:af)(x:A):T A:=
 match P.underlying src,P.underlying dst with
 |some (.int _),some (.int k)=>match x with
  | .int _ n=>.ret (.int k (k.wrap n))
  |_=>.fail
 |some .string,some .string=>match x with
  | .str s=>.ret (.str s)
  |_=>.fail
 |some (.slice e),some .string=>match P.underlying e with
  |some (.int .u8)=>match x with
   | .bN=>.ret (.str .empty)
   | .sl c n el=>if c=1 then .dW (oQ (λi=>FG (el i 0)) n) (.ret (.str (bytesOf el n)))else .fail
   | .own id=>match bZ bR id with
    | .row _ c n el=>if c=1 then .dW (oQ (λi=>FG (el i 0)) n) (.ret (.str (bytesOf el n)))else .fail
    |_=>.fail
   |_=>.fail
  |_=>.fail
 |_,_=>.fail
def FH(mx:Bool):List A->T A
 |[.int k a,.int k' b]=>if k=k' then .ret (.int k (match mx with|true=>(if b>a then b else a)|false=>(if b<a then b else a)))else .fail
 |_=>.fail
def T.map{α β:Type}(f:α->β):T α->T β
 | .ret a=>.ret (f a)
 | .ite b t e=>.ite b (t.map f) (e.map f)
 | .fail=>.fail
def kX(ev:aj->A):List aj->List A
 |[]=>[]
 |x::l=>ev x::kX ev l
def qF(ev:aj->A):List (Nat×aj)->List (Nat×A)
 |[]=>[]
 |(i,x)::l=>(i,ev x)::qF ev l
def pK(ev:aj->A):Option aj->Option A
 |none=>none
 |some x=>some (ev x)
def placesOf(P:al):List Field->Option (List (Nat×Nat))
 |[]=>some []
 |f::l=>match P.info? f.type,placesOf P l with
  |some i,some m=>some ((f.offset,i.size)::m)
  |_,_=>none
def BE:List A->Option (List Int)
 |[]=>some []
 | .int .i64 n::l=>match BE l with|some m=>some (n::m)|none=>none
 |_::_=>none
def FI:Bool->A->Option (List Int)
 |false,.int .i64 n=>some [n]
 |true,.agg cs=>BE cs
 |_,_=>none
def kE:List Int->List Int->Bool
 |[],[]=>true
 |[a],[b]=>a==b
 |a::l,b::m=>a==b&&kE l m
 |_,_=>false
def eu(h:List Int->Bool)(v:List Int->A):List (List Int×Option A)->List Int->Option A
 |[],q=>match h q with|true=>some (v q)|false=>none
 |(k,x)::u,q=>match kE q k with|true=>x|false=>eu h v u q
def BF(h:List Int->Bool)(v:List Int->A)(q:List Int)(k:Option A->T A):List (List Int×Option A)->T A
 |[]=>.ite (h q) (k (some (v q))) (k none)
 |(p,x)::u=>.ite (kE q p) (k x) (BF h v q k u)
def BG(E:Env)(t:af)(r:Option A):Option Ob:=
 match E.nO t with
 |some (ag,n)=>match r with
  |none=>some (.mp t ag n true [] (λ_=>false) (λ_=>.dU))
  |some (.int _ _)=>some (.mp t ag n true [] (λ_=>false) (λ_=>.dU))
  |_=>none
 |none=>none
def mapOf(bR:List Ob):A->Option (af×Bool×Nat×List (List Int×Option A)×(List Int->Bool)×(List Int->A))
 | .dA id=>match bZ bR id with
  | .mp t ag n _ u h v=>some (t,ag,n,u,h,v)
  |_=>none
 | .im t ag n h v=>some (t,ag,n,[],h,v)
 |_=>none
def K5(E:Env)(bR:List Ob)(t:af)(m key:A)(ok:Bool):T A:=
 match E.P.underlying t with
 |some (.map _ e)=>match E.P.info? e with
  |some i=>match i.zero,mapOf bR m with
   |some z,some (t',ag,n,u,h,v)=>(match FI ag key with
     |some q=>if t'=t/\q.length=n/\E.nO t=some (ag,n)then BF h v q (λr=>match r with
       |some x=>(match ok with|true=>.ret (.cG [x,.kb true])|false=>.ret x)
       |none=>(match ok with|true=>.ret (.cG [BC z,.kb false])|false=>.ret (BC z))) u else .fail
     |none=>.fail)
   |_,_=>.fail
  |none=>.fail
 |_=>.fail
def K6(P:al)(t:af)(f:Nat)(x:A):T A:=
 match P.underlying t with
 |some (.struct fs)=>match nth fs.toList f with
  |some fl=>match jn P fl.type,gY P fl.type,x with
   |some ag,some s,.agg cs=>BD ag s cs fl.offset
   |_,_,_=>.fail
  |none=>.fail
 |_=>.fail
def dZ(E:Env)(bR:List Ob)(op:Op)(ev:aj->A):T A:=
 match op with
 | .move x| .assign x=>.ret (ev x)
 | .pick c a b=>match ev c with
  | .bool q=>.ite q (.ret (ev a)) (.ret (ev b))
  | .kb true=>.ret (ev a)
  | .kb false=>.ret (ev b)
  |_=>.fail
 | .build t parts=>match E.P.underlying t,zeroCells E.P t with
  |some (.struct fs),some z=>match placesOf E.P fs.toList with
   |some pl=>match wy (nth pl) z (qF ev parts.toList)with
    |some cs=>.ret (.agg cs)
    |none=>.fail
   |none=>.fail
  |some (.array _ e),some z=>match gY E.P e with
   |some s=>match wy (λi=>some (i*s,s)) z (qF ev parts.toList)with
    |some cs=>.ret (.agg cs)
    |none=>.fail
   |none=>.fail
  |_,_=>.fail
 | .load t a=>lG E.P bR t (ev a)
 | .binOp op t x y _=>KZ E op t (ev x) (ev y)
 | .unOp op _ x=>K0 op (ev x)
 | .convert s d x=>oW E.P bR s d (ev x)
 | .makeFunc (.func f) ⟨[]⟩ fN=>.ret (.fn f (kX ev fN.toList))
 | .makeFunc (.func f) ⟨[x]⟩ ⟨[]⟩=>match ev x with
  | .ptr id off=>.ret (.bm f id off)
  | .agg l=>.ret (.bv f l)
  |_=>.fail
 | .slice t x lo hi none=>yJ E.P bR t (ev x) (pK ev lo) (pK ev hi)
 | .slice t x none (some h) (some m)=>K4 E.P t (ev x) (ev h) (ev m)
 | .fieldAddr s x f=>match KT E.P s f with
  |some off=>pJ (ev x) off
  |none=>.fail
 | .indexAddr t x i=>sX E.P bR t (ev x) (ev i)
 | .index t x i=>K2 E.P t (ev x) (ev i)
 | .field t x f=>K6 E.P t f (ev x)
 | .extract x i=>match ev x with
  | .cG l=>match jE i l with|a::_=>.ret a|[]=>.fail
  |_=>.fail
 | .nilCheck x=>match ev x with
  | .ptr id off=>.ret (.ptr id off)
  | .ip c el=>.ret (.ip c el)
  | .rp id c i off=>.ret (.rp id c i off)
  | .fn f l=>.ret (.fn f l)
  |_=>.fail
 | .call ⟨.builtin .len,⟨[x]⟩,⟨[t]⟩⟩=>K3 E.P bR t (ev x)
 | .call ⟨.builtin .min,args,_⟩=>FH false (kX ev args.toList)
 | .call ⟨.builtin .max,args,_⟩=>FH true (kX ev args.toList)
 | .lookup t m q ok=>K5 E bR t (ev m) (ev q) ok
 |_=>.fail
def du:Nat:=1099511627776
def BH(b:ByteArray):Nat->Nat->A:=λi _=>.int .u8 ((b.data.toList.getD i 0).toNat:Int)
def mC(P:al):Op->Bool
 | .convert s d _=>match P.underlying s,P.underlying d with
  |some .string,some (.slice e)=>(match P.underlying e with|some (.int .u8)=>true|_=>false)
  |_,_=>false
 |_=>false
def sY(P:al)(op:Op)(ev:aj->A):T Ob:=
 match op with
 | .convert _ d x=>match P.underlying d,ev x with
  |some (.slice e),.str b=>.dW (decide (b.size<=du)) (.ret (.row e 1 b.size (BH b)))
  |_,_=>.fail
 |_=>.fail
def amo(P:al)(e:af):Bool:=
 match P.underlying e with
 |some (.pointer _)=>true
 |some (.func _ _ _)=>true
 |_=>false
def nz(E:Env)(op:Op)(ev:aj->A):T (Bool×Ob):=
 match op with
 | .box _ x=>match cellsOf (ev x)with
  |some cs=>.ret (false,.box cs)
  |none=>.fail
 | .alloc t=>match zeroCells E.P t with
  |some cs=>.ret (false,.box cs)
  |none=>.fail
 | .buildSlice t 0 parts=>match E.P.underlying t,parts.toList with
  |some (.slice e),[]=>match gY E.P e with
   |some s=>.ret (true,.row e s 0 λ_ _=>.dU)
   |none=>.fail
  |_,_=>.fail
 | .buildSlice t len parts=>match E.P.underlying t with
  |some (.slice e)=>match zeroCells E.P e,gY E.P e with
   |some z,some s=>match wy (λi=>some (i*s,s)) (uA z len) (qF ev parts.toList)with
    |some cs=>match amo E.P e with
     |true=>if z.length=s/\s=1/\len*s<=65536/\0<len then .ret (true,.box cs)else .fail
     |false=>if gC (closed 5) cs=true/\uy cs=true/\z.length=s/\0<s/\len*s<=65536/\0<len then .ret (true,.row e s len (λi j=>bT cs (i*s+j)))else .fail
    |none=>.fail
   |_,_=>.fail
  |_=>.fail
 | .makeSlice t l c=>match E.P.underlying t with
  |some (.slice e)=>match E.P.info? e,zeroCells E.P e with
   |some i,some z=>match ev l,ev c with
    | .int _ n,.int _ m=>if z.length=i.size/\0<i.size/\gC (closed 5) z=true/\uy z=true then yE i.bytes λwz=>.dW (decide (0<=n/\n<=m/\m.toNat*(wz+1)<=du)) (.ret (true,.row e i.size n.toNat (λ_ j=>bT z j)))else .fail
    |_,_=>.fail
   |_,_=>.fail
  |_=>.fail
 |_=>.fail
def rP(rw:Bool)(d:Nat)(ob:Ob):A:=
 match rw with
 |true=>match ob with
  | .box cs=>.ov d 1 0 cs.length
  |_=>.own d
 |false=>.ptr d 0
def Bg:List Nat->Nat->Bool
 |[],_=>false
 |a::l,n=>bif bD a n then true else Bg l n
def nA(fz:List Nat)(B d:Nat):Bool×Ob->A×Ob
 |(true,.row e c n el)=>match Bg fz d with
  |true=>(.sl c n el,.dead)
  |false=>(.own (B+d),.row e c n el)
 |(rw,ob)=>(rP rw (B+d) ob,ob)
def kG:Op->Bool
 | .box ..=>true
 | .alloc ..=>true
 | .buildSlice ..=>true
 | .makeSlice ..=>true
 |_=>false
def K7(bR:List Ob)(f:A)(args:List A):Option (av×List A×Bool):=
 match f with
 | .fn g fN=>match kW (eX bR 5) (args++fN)with
  |some vals=>some (g,vals,gC (closed 5) (args++fN))
  |none=>none
 |_=>none
def l9(P:al)(bR:List Ob)(t:af)(a x:A):T (Nat×Ob):=
 match gY P t,cellsOf x with
 |some s,some cs=>if cs.length=s/\0<s/\uy cs=true then match a with
   | .ptr id off=>match bZ bR id with
    | .box cells=>match oo cells off cs with
     |some cells'=>.ret (id,.box cells')
     |none=>.fail
    |_=>.fail
   | .ap id i=>match bZ bR id with
    | .box cells=>match cs,sV (kindOf cells) cells with
     |[.int k v],some l=>if k=kindOf cells then .dW (decide (i<l.length)) (.ret (id,.box (yn k i v 0 l)))else .fail
     |_,_=>.fail
    | .rr te e c n len el (some (k,_))=>match cs with
     |[x]=>.dW (decide (i=k)) (.ret (id,.rr te e c n len el (some (k,x))))
     |_=>.fail
    |_=>.fail
   | .rp id c i off=>match bZ bR id with
    | .row e c' n el=>if c=c'/\off+s<=c/\gC (closed 5) cs=true then
      yE s λs=>.dW (decide (i<n)) (.ret (id,.row e c n λi' j=>if i'=i/\off<=j/\j<off+s then bT cs (j-off)else el i' j))
     else .fail
    |_=>.fail
   |_=>.fail
  else .fail
 |_,_=>.fail
def BI(P:al)(bR:List Ob)(t:af)(x:A):T (Nat×Ob):=
 match P.underlying t with
 |some (.slice e)=>match zeroCells P e with
  |some z=>match x with
   | .ov id c lo n=>match bZ bR id with
    | .row e' c' m el=>if c=c'/\z.length=c/\0<c/\gC (closed 5) z=true/\uy z=true then
      .dW (decide (0<n)) (.ret (id,.row e' c' m λi j=>if lo<=i/\i<lo+n then bT z j else el i j))else .fail
    |_=>.fail
   |_=>.fail
  |none=>.fail
 |_=>.fail
def BJ(k:aq)(m:Nat)(ey:Nat->Nat->A):Nat->List Int->List A
 |_,[]=>[]
 |j,n::l=>.int k (if j<m then oP (ey j 0)else n)::BJ k m ey (j+1) l
def K8(k:aq):A->Bool
 | .int k' _=>if k'=k then true else false
 |_=>false
def rowOf(bR:List Ob)(s:Nat):A->Option (Nat×(Nat->Nat->A))
 | .bN=>some (0,λ_ _=>.dU)
 | .sl c n el=>if c=s then some (n,el)else none
 | .own id=>match bZ bR id with
  | .row _ c n el=>if c=s then some (n,el)else none
  |_=>none
 | .ov id c lo n=>match bZ bR id with
  | .row _ c' _ el=>if c=s/\c'=s then some (n,λq j=>el (lo+q) j)else none
  |_=>none
 | .str b=>if s=1 then some (b.size,BH b)else none
 |_=>none
def yK(P:al)(t t':af):A->Bool
 | .str _=>(match P.underlying t' with|some .string=>true|_=>false)
 |_=>bD t t'
def K9(bR:List Ob):A->Option (Nat×Nat×Nat)
 | .own id=>match bZ bR id with
  | .row _ _ n _=>some (id,0,n)
  |_=>none
 | .ov id c lo n=>match bZ bR id with
  | .row _ c' _ _=>if c=c' then some (id,lo,n)else none
  |_=>none
 |_=>none
def FJ(P:al)(bR:List Ob)(t t':af)(x y:A):T (Nat×Ob×Nat):=
 match yK P t t' y,P.underlying t with
 |true,some (.slice e)=>match gY P e,K9 bR x with
  |some s,some (id,lo,n)=>match rowOf bR s y,bZ bR id with
   |some (m,ey),.row e' c N el=>if c=s/\0<s/\e'=e then .ret (id,.row e' c N (λi j=>if lo<=i/\i<lo+min m n then ey (i-lo) j else el i j),min m n)else .fail
   |_,_=>.fail
  |_,_=>.fail
 |_,_=>.fail
def BK(P:al)(bR:List Ob)(t t':af)(x y:A):T (Nat×Ob×Nat):=
 match P.underlying t,P.underlying t',x,y with
 |some (.slice e),some (.slice e'),.ov id c lo n,.sl c' m ey=>match bZ bR id,gY P e,gY P e' with
  | .box cells,some s,some s'=>match sV (kindOf cells) cells with
   |some l=>if s=1/\s'=1/\c=1/\c'=1/\lo=0/\l.length=n then .dW (oQ (λi=>K8 (kindOf cells) (ey i 0)) (min m n)) (.ret (id,.box (BJ (kindOf cells) m ey 0 l),min m n))else .fail
   |none=>.fail
  |_,_,_=>FJ P bR t t' (.ov id c lo n) (.sl c' m ey)
 |_,_,x,y=>FJ P bR t t' x y
def nB(P:al)(bR:List Ob)(t t':af)(x y:A):T (Option Nat×Ob):=
 match yK P t t' y with
 |false=>.fail
 |true=>match P.underlying t with
 |some (.slice e)=>match P.info? e with
  |some i=>match rowOf bR i.size y,zeroCells P e with
   |some (m,ey),some z=>if z.length=i.size/\0<i.size then(match x with
    | .bN=>yE i.bytes λwz=>.dW (decide (m*(wz+1)<=du)) (.ret (none,.row e i.size m ey))
    | .own id=>match bZ bR id with
     | .row e' c n ex=>if c=i.size/\e'=e then yE i.bytes λwz=>.dW (decide ((n+m)*(wz+1)<=du)) (.ret (some id,.row e c (n+m) λq j=>if q<n then ex q j else ey (q-n) j))else .fail
     |_=>.fail
    | .ov id c0 lo n=>match bZ bR id with
     | .row e' c _ ex=>if c=i.size/\e'=e/\c0=c then yE i.bytes λwz=>.dW (decide ((n+m)*(wz+1)<=du)) (.ret (some id,.row e c (n+m) λq j=>if q<n then ex (lo+q) j else ey (q-n) j))else .fail
     |_=>.fail
    |_=>.fail)else .fail
   |_,_=>.fail
  |none=>.fail
 |_=>.fail
def Vk:Option A->Bool
 |none=>true
 |some x=>closed 5 x
def oX(E:Env)(bR:List Ob)(t:af)(m key:A)(x:Option A):T (Nat×Ob):=
 match m with
 | .dA id=>match bZ bR id with
  | .mp t' ag n cl u h v=>match FI ag key with
   |some q=>if t'=t/\q.length=n/\E.nO t=some (ag,n)then .ret (id,.mp t ag n (cl&&Vk x) ((q,x)::u) h v)else .fail
   |none=>.fail
  |_=>.fail
 |_=>.fail
inductive Ex where
 |normal
 |exit (id:Nat)
 |ret
inductive OT where
 |more (kn:List (Nat×Bool)) (st:St)
 |ite (b:Bool) (t e:OT)
 |fail
 |call (kn:List (Nat×Bool)) (st:St) (dst:Option Tmp) (f:A) (args:List A)
def T.go{α:Type}:T α->(α->OT)->OT
 | .ret a,k=>k a
 | .ite b t e,k=>.ite b (t.go k) (e.go k)
 | .fail,_=>.fail
def qG:List A->(List A->OT)->OT
 |[],k=>k []
 |a::l,k=>qG l λl'=>(match a with
  | .dU=>k (.dU::l')
  | .lM=>k (.lM::l')
  | .kb true=>k (.kb true::l')
  | .kb false=>k (.kb false::l')
  | .bool b=>k (.bool b::l')
  | .int q n=>k (.int q n::l')
  | .str s=>k (.str s::l')
  | .bN=>k (.bN::l')
  | .sl c n el=>k (.sl c n el::l')
  | .ip c el=>k (.ip c el::l')
  | .own id=>k (.own id::l')
  | .ptr id off=>k (.ptr id off::l')
  | .rp id c i off=>k (.rp id c i off::l')
  | .fn f c=>k (.fn f c::l')
  | .agg c=>k (.agg c::l')
  | .cG c=>k (.cG c::l')
  | .lF=>k (.lF::l')
  | .kh=>k (.kh::l')
  | .dA i=>k (.dA i::l')
  | .ap i j=>k (.ap i j::l')
  | .bm f i j=>k (.bm f i j::l')
  | .bv f c=>k (.bv f c::l')
  | .rv i n=>k (.rv i n::l')
  | .im t ag n h v=>k (.im t ag n h v::l')
  | .ov i c lo n=>k (.ov i c lo n::l'))
def FK(a:A)(k:A->OT):OT:=
 match a with
  | .dU=>k .dU
  | .lM=>k .lM
  | .kb true=>k (.kb true)
  | .kb false=>k (.kb false)
  | .bool b=>k (.bool b)
  | .int q n=>k (.int q n)
  | .str s=>k (.str s)
  | .bN=>k .bN
  | .sl c n el=>k (.sl c n el)
  | .ip c el=>k (.ip c el)
  | .own id=>k (.own id)
  | .ptr id off=>(match off with
   |0=>k (.ptr id 0)
   |m+1=>k (.ptr id (m+1)))
  | .rp id c i off=>(match off with
   |0=>k (.rp id c i 0)
   |m+1=>k (.rp id c i (m+1)))
  | .fn f c=>qG c λc=>k (.fn f c)
  | .agg c=>qG c λc=>k (.agg c)
  | .cG c=>qG c λc=>k (.cG c)
  | .lF=>k .lF
  | .kh=>k .kh
  | .dA i=>k (.dA i)
  | .ap i j=>k (.ap i j)
  | .bm f i j=>k (.bm f i j)
  | .bv f c=>qG c λc=>k (.bv f c)
  | .ov i c lo n=>k (.ov i c lo n)
  | .rv i n=>k (.rv i n)
  | .im t ag n h v=>k (.im t ag n h v)
def BL(o:Ob)(k:Ob->OT):OT:=
 match o with
 | .de=>k .de
 | .dead=>k .dead
 | .box cs=>qG cs λcs=>k (.box cs)
 | .row e c n el=>k (.row e c n el)
 | .lp ts ps a b y p=>qG ts λts=>k (.lp ts ps a b y p)
 | .mp t ag n true u h v=>k (.mp t ag n true u h v)
 | .mp t ag n false u h v=>k (.mp t ag n false u h v)
 | .it t ag n h v s=>k (.it t ag n h v s)
 | .rr te e c n len el none=>k (.rr te e c n len el none)
 | .rr te e c n len el (some (i,x))=>FK x λx=>k (.rr te e c n len el (some (i,x)))
def uB:List Ob->Nat->Ob->(List Ob->OT)->OT
 |[],0,v,k=>k [v]
 |[],n+1,v,k=>uB [] n v λl=>k (.de::l)
 |_::l,0,v,k=>k (v::l)
 |a::l,n+1,v,k=>uB l n v λl'=>k (a::l')
def yL{α:Type}:List α->Nat->α->(List α->OT)->OT
 |[],_,_,k=>k []
 |_::l,0,v,k=>k (v::l)
 |a::l,n+1,v,k=>yL l n v λl'=>k (a::l')
def FL(l:List A)(n:Nat)(v:A)(k:List A->OT):OT:=FK v λv=>yL l n v k
def ma(l:List Ob)(n:Nat)(v:Ob)(k:List Ob->OT):OT:=BL v λv=>uB l n v k
def gM:St->Option Tmp->A->(St->OT)->OT
 |⟨ts,os⟩,some d,v,k=>FL ts d v λt=>k ⟨t,os⟩
 |⟨ts,os⟩,none,_,k=>k ⟨ts,os⟩
inductive Gd where
 |no
 |known (b:Bool)
 |free (b:Bool) (d:Nat)
 |bad
def rQ(ops:List ai)(tmps:List A)(j:Nat):Gd:=
 match(jE j ops)with
 |o::_=>match o.dst with
  |some d=>match bT tmps d with
   | .kb b=>.known b
   | .bool b=>.free b d
   | .cG []=>.no
   |_=>.bad
  |none=>.bad
 |[]=>.bad
def pL:List (Nat×Bool)->Nat->Option Bool
 |[],_=>none
 |(d,v)::l,n=>if n=d then some v else pL l n
def nb:List (Nat×Bool)->Option Nat->List (Nat×Bool)
 |l,none=>l
 |[],some _=>[]
 |(d,v)::l,some n=>if d=n then nb l (some n)else(d,v)::nb l (some n)
def BM:List (Nat×Bool)->Option Nat->(List (Nat×Bool)->OT)->OT
 |[],_,k=>k []
 |(d,v)::l,none,k=>k ((d,v)::l)
 |(d,v)::l,some n,k=>if d=n then BM l (some n) k else BM l (some n) λl=>k ((d,v)::l)
def ei:List Nat->List Ob->List Ob
 |[],l=>l
 |d::F,l=>cM (ei F l) d .dead
def wA:Nat->List Ob->(List Ob->List Ob)->List Ob
 |0,[],k=>.dead::k []
 |0,_::l,k=>.dead::k l
 |d+1,[],k=>.de::wA d [] k
 |d+1,a::l,k=>a::wA d l k
def BN:Nat->List Nat->List Ob->List Ob
 |_,[],l=>l
 |n,d::F,l=>wA (d-n) l (BN (d+1) F)
def wB:Nat->List Nat->Bool
 |_,[]=>true
 |n,d::F=>bM n d&&wB (d+1) F
def BO(F:List Nat)(l:List Ob):List Ob:=bif wB 0 F then BN 0 F l else ei F l
theorem La:∀ (F:List Nat) (a:Ob) (l:List Ob),ei (F.map (· +1)) (a::l)=a::ei F l
 |[],a,l=>rfl
 |d::F,a,l=>by
  show cM (ei (F.map (· +1)) (a::l)) (d+1) .dead=_;rw[La F a l];rfl
theorem Lb:∀ (F:List Nat),F≠[]->ei (F.map (· +1)) []= .de::ei F []
 |[],h=>(h rfl).elim
 |[d],_=>rfl
 |d::e::F,_=>by
  show cM (ei ((e::F).map (· +1)) []) (d+1) .dead=_;rw[Lb (e::F) (by simp)];rfl
theorem Lc:∀ (m:Nat) (l:List Ob) (G:List Nat) (k:List Ob->List Ob),(∀l,k l=ei G l)->wA m l k=cM (ei (G.map (· +(m+1))) l) m .dead
 |0,[],G,k,h=>by
  show Ob.dead::k []=cM (ei (G.map (· +1)) []) 0 .dead;rw[h];by_cases e:G=[]
  .subst e;rfl
  rw[Lb G e];rfl
 |0,a::l,G,k,h=>by
  show Ob.dead::k l=cM (ei (G.map (· +1)) (a::l)) 0 .dead;rw[h,La];rfl
 |m+1,[],G,k,h=>by
  show Ob.de::wA m [] k=cM (ei (G.map (· +(m+1+1))) []) (m+1) .dead;rw[Lc m [] G k h];have e1:G.map (· +(m+1+1))=(G.map (· +(m+1))).map (· +1):=by rw[bp];rfl
  by_cases e:G=[]
  .subst e;rfl
  rw[e1,Lb _ (by simpa using e)];rfl
 |m+1,a::l,G,k,h=>by
  show a::wA m l k=cM (ei (G.map (· +(m+1+1))) (a::l)) (m+1) .dead;rw[Lc m l G k h];have e1:G.map (· +(m+1+1))=(G.map (· +(m+1))).map (· +1):=by rw[bp];rfl
  rw[e1,La];rfl
theorem Vl:∀ {F:List Nat} {n:Nat},wB n F=true-> ∀d∈F,n<=d
 |[],n,_,d,h=>by cases h
 |e::F,n,h,d,hd=>by
  rw[wB,ab]at h;have h1:=bJ h.1;rcases bA.1 hd with rfl|hd
  .exact h1
  have:=Vl h.2 d hd;omega
theorem Vm:∀ (F:List Nat) (n:Nat) (l:List Ob),wB n F=true->BN n F l=ei (F.map (· -n)) l
 |[],n,l,_=>rfl
 |d::F,n,l,h=>by
  rw[wB,ab]at h;have h1:=bJ h.1;show wA (d-n) l (BN (d+1) F)=cM (ei (F.map (· -n)) l) (d-n) .dead;rw[Lc (d-n) l (F.map (· -(d+1))) _ λl=>Vm F (d+1) l h.2];congr 2;rw[bp];refine List.map_congr_left λx hx=>?_;have:=Vl h.2 x hx;show x-(d+1)+(d-n+1)=x-n;omega
theorem Ld(F:List Nat)(l:List Ob):BO F l=ei F l:=by
 unfold BO;cases h:wB 0 F with
 |false=>rfl
 |true=>
  show BN 0 F l=_;rw[Vm F 0 l h];congr 1;simp
def sZ(B:Nat):St->Nat->A->Ob->(St->OT)->OT
 |⟨ts,os⟩,d,v,ob,k=>match bZ os (B+d)with
  | .de=>ma os (B+d) ob λos=>FL ts d v λt=>k ⟨t,os⟩
  |_=>.fail
def BP(B d:Nat)(cl:Bool)(r:A×Option Ob):Option (A×Option Ob):=
 match flat 5 r.1||cl with
 |true=>some (eU 0 (B+d) 6 r.1,r.2)
 |false=>none
def fZ(kn:List (Nat×Bool))(dst:Option Tmp)(st:St):OT:=BM kn dst λkn=>.more kn st
def tmpsOf:List aj->List Nat
 |[]=>[]
 | .tmp t::l=>t::tmpsOf l
 |_::l=>tmpsOf l
def FM(B:Nat):List Nat->Nat->Bool
 |[],_=>false
 |t::l,s=>bD s (B+t)||FM B l s
def BQ(B:Nat):List Nat->List Nat->List Nat
 |[],_=>[]
 |s::F,ts=>match FM B ts s with
  |true=>BQ B F ts
  |false=>s::BQ B F ts
def ga(B:Nat)(F:List Nat)(o:ai):List Nat:=
 match F with
 |[]=>[]
 |s::F=>BQ B (s::F) (tmpsOf o.op.operands.toList)
def Le(all:Array ai)(B:Nat)(F:List Nat):Nat->List Nat
 |0=>F
 |j+1=>match F with
  |[]=>[]
  |s::F=>match jE j all.toList with
   |o::_=>ga B (s::F) o
   |[]=>s::F
def FN(E:Env)(B:Nat)(F:List Nat):St->List (Nat×Bool)->ai->OT
 |⟨ts,os⟩,kn,o=>match o.op with
 | .store t a x=>(l9 E.P os t (cQ ts a) (cQ ts x)).go λr=>ma os r.1 r.2 λos=>gM ⟨ts,os⟩ o.dst (.cG []) (fZ kn o.dst)
 | .call ⟨.builtin .clear,⟨[x]⟩,⟨[t]⟩⟩=>(BI E.P os t (cQ ts x)).go λr=>ma os r.1 r.2 λos=>gM ⟨ts,os⟩ o.dst (.cG []) (fZ kn o.dst)
 | .call ⟨.builtin .copy,⟨[x,y]⟩,⟨[t,t']⟩⟩=>(BK E.P os t t' (cQ ts x) (cQ ts y)).go λr=>ma os r.1 r.2.1 λos=>gM ⟨ts,os⟩ o.dst (.int .i64 (r.2.2:Nat)) (fZ kn o.dst)
 | .call ⟨.builtin .append,⟨[x,y]⟩,⟨[t,t']⟩⟩=>match o.dst with
  |some d=>(nB E.P os t t' (cQ ts x) (cQ ts y)).go λr=>match r.1 with
    |none=>sZ B ⟨ts,os⟩ d (.own (B+d)) r.2 (fZ kn o.dst)
    |some id=>ma os id .dead λos=>sZ B ⟨ts,os⟩ d (.own (B+d)) r.2 (fZ kn o.dst)
  |none=>.fail
 | .call ⟨.builtin .delete,⟨[m,q]⟩,⟨[t,_]⟩⟩=>(oX E os t (cQ ts m) (cQ ts q) none).go λr=>ma os r.1 r.2 λos=>gM ⟨ts,os⟩ o.dst (.cG []) (fZ kn o.dst)
 | .makeMap t r=>match o.dst with
  |some d=>match BG E t (pK (cQ ts) r)with
   |some ob=>sZ B ⟨ts,os⟩ d (.dA (B+d)) ob (fZ kn o.dst)
   |none=>.fail
  |none=>.fail
 | .mapUpdate t m q x=>(oX E os t (cQ ts m) (cQ ts q) (some (cQ ts x))).go λr=>ma os r.1 r.2 λos=>gM ⟨ts,os⟩ o.dst (.cG []) (fZ kn o.dst)
 | .insert t m q x=>(oX E os t (cQ ts m) (cQ ts q) (some (cQ ts x))).go λr=>ma os r.1 r.2 λos=>gM ⟨ts,os⟩ o.dst (.cG []) (fZ kn o.dst)
 | .call ⟨.value f,args,_⟩=>.call kn ⟨ts,os⟩ o.dst (cQ ts f) (kX (cQ ts) args.toList)
 | .pick (.tmp c) a b=>match pL kn c with
  |some true=>gM ⟨ts,os⟩ o.dst (cQ ts a) (fZ kn o.dst)
  |some false=>gM ⟨ts,os⟩ o.dst (cQ ts b) (fZ kn o.dst)
  |none=>(dZ E (BO (ga B F o) os) (.pick (.tmp c) a b) (cQ ts)).go λv=>gM ⟨ts,os⟩ o.dst v (fZ kn o.dst)
 |op=>match kG op with
  |true=>match o.dst with
   |some d=>(nz E op (cQ ts)).go λr=>BL r.2 λob=>match nA E.lL B d (r.1,ob)with|(v,ob)=>sZ B ⟨ts,os⟩ d v ob (fZ kn o.dst)
   |none=>.fail
  |false=>match mC E.P op with
   |true=>(match o.dst with
    |some d=>(sY E.P op (cQ ts)).go λr=>match nA E.lL B d (true,r)with|(v,ob)=>sZ B ⟨ts,os⟩ d v ob (fZ kn o.dst)
    |none=>.fail)
   |false=>(dZ E (BO (ga B F o) os) op (cQ ts)).go λv=>gM ⟨ts,os⟩ o.dst v (fZ kn o.dst)
def BR:List ai->Nat->Option Op
 |[],_=>none
 |o::l,t=>match o.dst with
  |some d=>(match bD d t with|true=>some o.op|false=>BR l t)
  |none=>BR l t
def yM(ops:List ai):Nat->Nat->Nat
 |0,t=>t
 |n+1,t=>match BR ops t with
  |some (.fieldAddr _ (.tmp u) _)=>yM ops n u
  |some (.nilCheck (.tmp u))=>yM ops n u
  |some (.move (.tmp u))=>yM ops n u
  |_=>t
def hQ(ops:List ai):aj->Option Nat
 | .tmp t=>(match BR ops (yM ops 6 t)with|none=>some (yM ops 6 t)|some _=>none)
 |_=>none
def amp(ops:List ai):aj->Bool
 | .tmp t=>(match BR ops (yM ops 6 t)with|some (.indexAddr _ _ _)=>true|_=>false)
 |_=>false
def pM(ops:List ai)(o c:ai):Option Nat:=
 match o.op,c.op with
 | .load _ a,.store _ b _=>(match hQ ops b with
  |some q=>(match hQ ops a with
   |some r=>(match bD r q with|true=>none|false=>some q)
   |none=>(match amp ops a with|true=>some q|false=>none))
  |none=>none)
 |_,_=>none
def yN:A->A->Bool
 | .ip _ _,_=>true
 | .ptr i _,.ptr j _=>!bD i j
 | .ptr _ _,.rp _ _ _ _=>true
 | .rp _ _ _ _,.ptr _ _=>true
 | .ap i _,.ptr j _=>!bD i j
 | .ap _ _,.rp _ _ _ _=>true
 |_,_=>false
def yO:A->A->Bool
 | .ptr i _,.ptr j _=>bD i j
 | .rp i _ _ _,.rp j _ _ _=>bD i j
 |_,_=>false
def wC(ops:List ai)(o:ai):List ai->List Nat
 |[]=>[]
 |c::l=>match pM ops o c with|some q=>q::wC ops o l|none=>wC ops o l
def qH(ops:List ai)(o c:ai):Option Nat:=
 match o.op,c.op with
 | .convert _ _ _,.store _ b _=>hQ ops b
 |_,_=>none
def rR(ops:List ai)(o:ai):List ai->List Nat
 |[]=>[]
 |c::l=>match qH ops o c with|some q=>q::rR ops o l|none=>rR ops o l
def FO(ops:List ai)(o:ai):List Nat:=
 match o.op with
 | .load ..=>wC ops o ops
 | .convert ..=>rR ops o ops
 | .store _ b _=>(match hQ ops b with|some q=>[q]|none=>[])
 |_=>[]
def rS(f:Nat->Bool):List Nat->Bool
 |[]=>true
 |q::l=>f q&&rS f l
def FP(ops:List ai)(ts:List A)(o:ai)(a:aj):Bool:=rS (λq=>yN (cQ ts a) (bT ts q)) (wC ops o ops)
def stM(ops:List ai)(ts:List A)(b:aj):Bool:=
 match hQ ops b with
 |some q=>yO (cQ ts b) (bT ts q)
 |none=>true
def FQ:A->Bool
 | .ptr _ _=>true
 |_=>false
def Lf(ops:List ai)(ts:List A)(o:ai)(a:aj):Bool:=
 match cQ ts a with
 | .own _=>rS (λq=>FQ (bT ts q)) (rR ops o ops)
 | .int _ _=>true
 | .sl _ _ _=>true
 | .bN=>true
 |_=>(match rR ops o ops with|[]=>true|_=>false)
def Vn:Op->Bool
 | .alloc _=>true
 | .box _ _=>true
 |_=>false
def BS:List ai->Nat->Bool
 |[],_=>false
 |o::l,t=>(match o.dst with|some d=>bD d t&&Vn o.op|none=>false)||BS l t
def rT(ops:List ai)(o:ai):Option Nat:=
 match o.op with
 | .store _ (.tmp t) _=>match BS ops t with|true=>some t|false=>none
 |_=>none
def yP(B:Nat)(F:List Nat)(ops:List ai)(ts:List A)(o:ai):Bool:=
 match F with
 |[]=>true
 |_::_=>match rT ops o with
  |none=>true
  |some t=>match bT ts t with
   | .ptr id _=>bD id (B+t)
   |_=>false
def wD(F:List Nat)(ops:List ai)(ts:List A)(o:ai):Bool:=
 match F with
 |[]=>true
 |_::_=>match o.op with
  | .store _ b _=>stM ops ts b
  |_=>true
def uv:List Nat->Nat->Bool
 |[],_=>false
 |i::F,n=>bD i n||uv F n
def FR(F:List Nat):A->Bool
 | .ptr i _=>!uv F i
 | .rp i _ _ _=>!uv F i
 | .ap i _=>!uv F i
 |_=>true
def yQ(F:List Nat)(ops:List ai)(ts:List A)(o:ai):Bool:=
 match F with
 |[]=>true
 |_::_=>match o.op with
  | .store _ b _=>(match hQ ops b with
   |some _=>FR F (cQ ts b)
   |none=>true)
  |_=>true
def FT:A->Bool
 | .own _=>false
 | .ov _ _ _ _=>false
 |_=>true
def cls:Op->Nat
 | .store ..=>2
 | .call ⟨.builtin .append,_,_⟩=>2
 | .call ⟨.builtin .clear,_,_⟩=>2
 | .call ⟨.builtin .copy,_,_⟩=>2
 | .call ⟨.builtin .delete,_,_⟩=>2
 | .makeMap .. | .mapUpdate .. | .insert ..=>2
 | .call _=>1
 | .lookup .. | .load .. | .indexAddr .. | .box .. | .alloc .. | .buildSlice .. | .makeSlice .. | .convert .. | .slice ..=>1
 |_=>0
def dK(ops:List ai)(o:ai):List Nat:=
 tmpsOf o.op.operands.toList++((match o.guard with
  |some (j,_)=>(match jE j ops with|g::_=>g.dst.toList|[]=>[])
  |none=>[])++FO ops o)
def ta(o:ai):Bool:=
 match o.op with
 | .buildSlice ..=>true
 |_=>false
def BT(B:Nat)(ops:List ai)(rd:List Nat):A->Bool
 | .own id| .ov id _ _ _=>ops.all λc=>match ta c,c.dst with
  |true,some d=>rd.contains d|| !(bD id (B+d))
  |_,_=>true
 |_=>true
def yR(B:Nat)(F:List Nat)(ops:List ai)(ts:List A)(o:ai):Bool:=
 match F with
 |[]=>true
 |_::_=>match o.op with
  | .call ⟨.builtin .append,⟨[x,z]⟩,_⟩=>BT B ops (dK ops o) (cQ ts x)&&BT B ops (dK ops o) (cQ ts z)
  |_=>true
def jo(B:Nat)(F:List Nat)(ops:List ai)(ts:List A)(o:ai):Bool:=((yP B F ops ts o&&wD F ops ts o)&&yQ F ops ts o)&&yR B F ops ts o
def FU(ops:List ai)(o:ai):Bool:=
 match o.dst with
 |some d=>ops.any λc=>cls c.op==2&& !(dK ops c).contains d
 |none=>false
def FV:List Nat->List Nat->List Nat
 |[],acc=>acc
 |x::l,acc=>FV l (if acc.contains x then acc else x::acc)
def isApp:Op->Bool
 | .call ⟨.builtin .append,_,_⟩=>true
 |_=>false
def Lh:A->Bool
 | .ptr _ _=>true
 | .ap _ _=>true
 | .ip _ _=>true
 |_=>false
def Vo(ops:List ai):Nat->List Nat->List Nat
 |0,ts=>ts
 |n+1,ts=>Vo ops n (FV (ops.flatMap λo=>match o.dst with|some d=>(match ts.contains d with|true=>dK ops o|false=>[])|none=>[]) ts)
def Vp(c:ai):List ai->List ai
 |[]=>[]
 |o::l=>match o.dst==c.dst with
  |true=>[]
  |false=>o::Vp c l
def wF(ops:List ai)(o:ai):Bool:=
 match o.dst with
 |some d=>ops.any λc=>isApp c.op&& !(Vo (Vp c ops) 8 (dK ops c)).contains d
 |none=>false
def Li(ops:List ai):Bool:=bM 2 (ops.filter λo=>isApp o.op).length
def Lj:A->Bool
 | .rv _ _=>true
 | .sl _ _ _=>true
 |_=>false
def mD(F:List Nat)(ops:List ai)(ts:List A)(o:ai):Bool:=
 match F with
 |[]=>true
 |_::_=>match o.op with
  | .slice _ x _ _ _=>(match FU ops o with
   |true=>FT (cQ ts x)
   |false=>true)
  | .load _ x=>(match Lh (cQ ts x)with
   |true=>true
   |false=>!wF ops o)&&FP ops ts o x
  | .convert _ _ x=>Lf ops ts o x
  | .indexAddr _ x _=>(match Lj (cQ ts x)with
   |true=>true
   |false=>!(Li ops&&wF ops o))
  |_=>true
def tb(E:Env)(B:Nat)(F:List Nat)(ops:List ai):St->List (Nat×Bool)->ai->OT
 |⟨ts,os⟩,kn,o=>match jo B F ops ts o with
  |true=>(match mD F ops ts o with
   |true=>FN E B F ⟨ts,os⟩ kn o
   |false=>.fail)
  |false=>.fail
def yS(b want:Bool)(x y:OT):OT:=
 match b,want with
 |true,true=>x
 |false,false=>x
 |_,_=>y
def Lk(E:Env)(B:Nat)(F:List Nat)(ops:List ai):St->List (Nat×Bool)->ai->OT
 |⟨ts,os⟩,kn,o=>match o.guard with
 |none=>tb E B F ops ⟨ts,os⟩ kn o
 |some (j,want)=>match rQ ops ts j with
  | .free b d=>match pL kn d with
   |some v=>yS v want (tb E B F ops ⟨ts,os⟩ kn o) (gM ⟨ts,os⟩ o.dst (.cG []) (fZ kn o.dst))
   |none=>.ite b
    (yS true want (tb E B F ops ⟨ts,os⟩ ((d,true)::kn) o) (gM ⟨ts,os⟩ o.dst (.cG []) (fZ ((d,true)::kn) o.dst)))
    (yS false want (tb E B F ops ⟨ts,os⟩ ((d,false)::kn) o) (gM ⟨ts,os⟩ o.dst (.cG []) (fZ ((d,false)::kn) o.dst)))
  | .known b=>yS b want (tb E B F ops ⟨ts,os⟩ kn o) (gM ⟨ts,os⟩ o.dst (.cG []) (fZ kn o.dst))
  | .no=>gM ⟨ts,os⟩ o.dst (.cG []) (fZ kn o.dst)
  | .bad=>.fail
def Ll(ops:List ai)(a b:ai):Bool:=
 match cls a.op,cls b.op with
 |2,1=>(match rT ops a with|some t=>!(dK ops b).contains t|none=>false)
 |1,2=>(match rT ops b with|some t=>!(dK ops a).contains t|none=>false)
 |2,2=>(match rT ops a,rT ops b with|some t,some u=>t !=u|_,_=>false)
 |_,_=>false
def BU(ops:List ai)(o:ai):Bool:=
 match o.op with
 | .slice ..=>FU ops o
 |_=>false
def Lm(ops:List ai)(a b:ai):Bool:=
 match cls a.op,cls b.op with
 |2,1=>BU ops b
 |1,2=>BU ops a
 |_,_=>false
def BV(ops:List ai)(o:ai):Bool:=
 match o.op with
 | .load ..=>wF ops o
 | .indexAddr ..=>Li ops&&wF ops o
 |_=>false
def Ln(ops:List ai)(a b:ai):Bool:=
 match cls a.op,cls b.op with
 |2,1=>isApp a.op&&BV ops b
 |1,2=>isApp b.op&&BV ops a
 |_,_=>false
def Lo(ops:List ai)(a b:ai):Bool:=
 match cls a.op,cls b.op with
 |2,1=>b.dst.isSome&&(pM ops b a).isSome&&ops.any (λo=>match o.op,a.op with| .store _ x _,.store _ y _=>hQ ops x==hQ ops y|_,_=>false)
 |1,2=>a.dst.isSome&&(pM ops a b).isSome&&ops.any (λo=>match o.op,b.op with| .store _ x _,.store _ y _=>hQ ops x==hQ ops y|_,_=>false)
 |_,_=>false
def Lp(ops:List ai)(a b:ai):Bool:=
 match cls a.op,cls b.op with
 |2,1=>b.dst.isSome&&(qH ops b a).isSome&&ops.any (λo=>match o.op,a.op with| .store _ x _,.store _ y _=>hQ ops x==hQ ops y|_,_=>false)
 |1,2=>a.dst.isSome&&(qH ops a b).isSome&&ops.any (λo=>match o.op,b.op with| .store _ x _,.store _ y _=>hQ ops x==hQ ops y|_,_=>false)
 |_,_=>false
def BW(o:ai):Bool:=
 match o.op with
 | .indexAddr ..=>true
 |_=>false
def FW(o:ai):Bool:=
 match o.op with
 | .store ..=>true
 |_=>false
def Lq(a b:ai):Bool:=
 match cls a.op,cls b.op with
 |2,1=>FW a&&BW b
 |1,2=>FW b&&BW a
 |_,_=>false
def FX(ops:List ai)(o:ai):Bool:=
 match o.op with
 | .store _ b _=>(hQ ops b).isSome
 |_=>false
def Lr(ops:List ai)(a b:ai):Bool:=
 match cls a.op,cls b.op with
 |2,1=>FX ops a&&ta b
 |1,2=>FX ops b&&ta a
 |_,_=>false
def Ls(ops:List ai)(a b:ai):Bool:=
 match cls a.op,cls b.op with
 |2,1=>isApp a.op&&ta b
 |1,2=>isApp b.op&&(ta a&&ops.any λc=>ta c&&c.dst==a.dst)
 |_,_=>false
def indep(ops:List ai)(a b:ai):Bool:=
 (match a.dst with|some d=>!(dK ops b).contains d&&b.dst !=some d|none=>true)&&
 (match b.dst with|some d=>!(dK ops a).contains d|none=>true)&&
 ((cls a.op+cls b.op<=2&& !(cls a.op==2&&cls b.op==2))&& !(cls a.op==1&&cls b.op==2)&& !(cls a.op==2&&cls b.op==1)||(Ll ops a b||(Lm ops a b||(Ln ops a b||(Lo ops a b||(Lq a b||(Lr ops a b||(Ls ops a b||Lp ops a b))))))))
def kY:List ai->List (List Nat)->List (List Nat)
 |[],acc=>acc
 |o::rest,acc=>kY rest (acc++[o.after.toList.flatMap λe=>if Region.binds .any e then e.on::(acc[e.on]?).getD []else[]])
def FY:List ai->List (List Nat)->List (List Nat)
 |[],acc=>acc
 |o::rest,acc=>FY rest (acc++[FV (o.after.toList.flatMap λe=>if Region.binds .any e then e.on::(acc[e.on]?).getD []else[]) []])
def Vq(ops:List ai)(an:List (List Nat)):Bool:=
 (bh ops.length).all λj=>(bh j).all λi=>((an[j]?).getD []).contains i||(match ops[i]?,ops[j]? with|some a,some b=>indep ops a b|_,_=>false)
def pN(ops:Array ai):Bool:=
 Vq ops.toList (FY ops.toList [])&&
 ((bh ops.size).all λi=>((ops[i]?).map λo=>o.after.all λe=>e.on<i|| !(Region.binds .text e)).getD false)&&
 (Region.linearise .gc ops 0).length==ops.size
def cutAt(ops:Array ai)(c:Nat):Bool:=
 match FY ops.toList []with
 |an=>(bh ops.size).all λj=>Nat.blt j c||(bh c).all λi=>((an[j]?).getD []).contains i
def uC(dr:Bool)(ops:Array ai)(i:Nat):Bool:=
 match dr with
 |false=>true
 |true=>cutAt ops (i-1)&&cutAt ops i
def ot(B:Nat):List ai->List Nat
 |[]=>[]
 |o::l=>if cls o.op=1 then(match o.dst with|some d=>(B+d)::ot B l|none=>ot B l)else ot B l
end Go.Sy
namespace Go.Sy
open Go.RowKit
inductive Loc where
 |de
 |dead
 |blk (b:Nat)
 |row (v:ae)
 |loop (b:Nat)
 |map (b:Nat)
 /-- a row of rows:wx value,arM in it;one that is not wx own -/
 |pO (v:ae) (vs:List ae) (hi:Option Nat)
def eQ:ae->Option Nat
 | .slice (some a) _ (_+1)=>some a.block
 |_=>none
def Loc.has:Loc->Nat->Prop
 | .blk b',b=>b'=b
 | .row v,b=>eQ v=some b
 | .loop b',b=>b'=b
 | .map b',b=>b'=b
 | .pO v vs hi,b=>eQ v=some b\/ ∃i u,vs[i]? =some u/\hi≠some i/\eQ u=some b
 |_,_=>False
def amq(w:ak)(g c:Nat)(cur:Array ae)(e:af):Prop:=∃ fz,w.heap[g]? =some (.cells cur e fz)/\((cur.size<=fz.1/\c=1)\/fz.2=0)
theorem vL{c s:Nat}{fz:Nat×Nat}(h:(s<=fz.1/\c=1)\/fz.2=0):s<=fz.1\/fz.2=0:=h.imp And.left id
def jP(w:ak)(e:af)(c:Nat)(v:ae)(n:Nat)(xs:List ae):Prop:=
 xs.length=n*c/\((n=0/\ ∃a,v= .slice a 0 0)\/
  ∃g o cap cur,v= .slice (some ⟨g,o,none⟩) n (cap+1)/\amq w g c cur e/\n<=cap+1/\cap+1<=maxLen/\cur.size=o+(cap+1)*c/\(cur.toList.drop o).take (n*c)=xs)
def b7:Nat->Loc:=λ_=>.de
def uD(w:ak)(O:Nat->Prop)(b:Nat):Prop:=b<w.heap.size/\ ¬O b
def ep:Bool->List Int->ae
 |true,q=>.agg (q.map (a6 .i64)).toArray
 |false,q=>.int .i64 (q.headD 0)
def Lt(es:List ay)(ck:Nat):Prop:=es.Pairwise (λa b=>a.born≠b.born)/\ ∀e∈es,e.born<ck
def Lu(n:Nat)(v:ae):Prop:=∃ a cap,v= .slice a n cap/\(0<n-> ∃b o,a=some ⟨b,o,none⟩)
mutual
def R(w:ak)(O:Nat->Prop):A->(Nat->Loc)->ae->Prop
 | .dU,_,_=>True
 | .lM,_,v=>v.oneCell'=true
 | .kb b,_,v=>v= .bool b
 | .bool b,_,v=>v= .bool b
 | .int k n,_,v=>v= .int k n
 | .str s,_,v=>v= .string s
 | .bN,_,v=>v= .slice none 0 0
 | .sl c n el,_,v=>∃ a cap,v= .slice a n cap/\n<=cap/\cap<=maxLen/\
   (0<n*c-> ∃ad,a=some ad/\uD w O ad.block/\ ∀i,i<n-> ∀j,j<c-> ∃u,w.cell? (ad.add (i*c+j))=some u/\u.oneCell'=true/\R w O (el i j) b7 u)
 | .ip c el,_,v=>∃ ad,v= .pointer (some ad)/\(0<c->uD w O ad.block/\ ∀j,j<c-> ∃u,w.cell? (ad.add j)=some u/\R w O (el j) b7 u)
 | .own id,ρ,v=>match ρ id with
  | .row v'=>v=v'/\ ∃a n c,v= .slice a n c
  | .dead=>∃ a n c,v= .slice a n c
  |_=>False
 | .ptr id off,ρ,v=>match ρ id with
  | .blk b=>v= .pointer (some ⟨b,off,none⟩)
  | .dead=>∃ ad,v= .pointer (some ad)
  |_=>False
 | .rp id c i off,ρ,v=>match ρ id with
  | .row v'=>∃ ad n cap,v'= .slice (some ad) n cap/\v= .pointer (some (ad.add (i*c+off)))
  | .dead=>∃ ad,v= .pointer (some ad)
  |_=>False
 | .fn f fN,ρ,v=>∃ vs,v= .func (.func f) #[] (bc vs)/\RL w O fN ρ vs
 | .bv f cs,ρ,v=>∃ vs,v= .func (.func f) #[.agg (bc vs)] #[]/\RL w O cs ρ vs
 | .agg cs,ρ,v=>∃ vs,v= .agg (bc vs)/\RL w O cs ρ vs
 | .cG cs,ρ,v=>∃ vs,v= .tuple (bc vs)/\RL w O cs ρ vs
 | .lF,_,v=>∃ b,v= .bool b
 | .kh,_,v=>v= .pointer none
 | .dA id,ρ,v=>match ρ id with
  | .loop b=>v= .func (.yield b) #[] #[]
  | .map b=>v= .map (some b)
  | .dead=>v.oneCell'=true
  |_=>False
 | .ov id c lo n,ρ,v=>match ρ id with
  | .row v'=>∃ a N cap a',v'= .slice a N cap/\lo+n<=N/\v= .slice a' n (cap-lo)/\(lo=0->a'=a)/\(0<n-> ∃ad,a=some ad/\a'=some (ad.add (lo*c)))/\(lo<cap-> ∃ad,a=some ad/\a'=some (ad.add (lo*c)))
  | .blk b=>∃ cap,v= .slice (some ⟨b,lo*c,none⟩) n cap/\n<=cap/\cap<=maxLen
  | .dead=>∃ a cap,v= .slice a n cap
  |_=>False
 | .ap id off,ρ,v=>match ρ id with
  | .blk b=>v= .pointer (some ⟨b,off,none⟩)
  | .pO v' _ _=>∃ b o n cap,v'= .slice (some ⟨b,o,none⟩) n cap/\v= .pointer (some ⟨b,o+off,none⟩)
  | .dead=>∃ ad,v= .pointer (some ad)
  |_=>False
 | .rv id n,ρ,v=>match ρ id with
  | .pO v' _ _=>v=v'/\Lu n v
  | .dead=>Lu n v
  |_=>False
 | .bm f id off,ρ,v=>match ρ id with
  | .blk b=>v= .func (.func f) #[.pointer (some ⟨b,off,none⟩)] #[]
  | .dead=>∃ ad,v= .func (.func f) #[.pointer (some ad)] #[]
  |_=>False
 | .im _ ag n h el,_,v=>∃ b es clock,v= .map (some b)/\uD w O b/\w.heap[b]? =some (.map es clock)/\(∀e∈es.toList,∃ q,q.length=n/\e.key=ep ag q)/\(es.toList.Pairwise (λa b=>a.key≠b.key)/\Lt es.toList clock)/\
   ∀q,q.length=n->(h q=false-> ∀e∈es.toList,e.key≠ep ag q)/\(h q=true-> ∃e∈es.toList,e.key=ep ag q/\R w O (el q) b7 e.val)
def RL(w:ak)(O:Nat->Prop):List A->(Nat->Loc)->List ae->Prop
 |[],_,vs=>vs=[]
 |a::l,ρ,vs=>∃ v vs',vs=v::vs'/\R w O a ρ v/\RL w O l ρ vs'
end
class fI where
 r:Nat->Nat->Prop
 refl:∀ a,r a a
 trans:∀ {a b c},r a b->r b c->r a c
 le:∀ {a b},a<=b->r a b
section
variable [fI]
structure fP(B:Nat)(w w':ak):Prop where
 os:w'.os=w.os
 tape:w'.tape=w.tape
 output:w'.output=w.output
 size:w.heap.size<=w'.heap.size
 block:∀ k,k<B->w'.heap[k]? =w.heap[k]?
 drawn:fI.r w.drawn w'.drawn
structure GB(w w':ak)(row:Option Nat):Prop where
 os:w'.os=w.os
 tape:w'.tape=w.tape
 output:w'.output=w.output
 size:w.heap.size<=w'.heap.size
 block:∀ k,k<w.heap.size->some k≠row->w'.heap[k]? =w.heap[k]?
 drawn:fI.r w.drawn w'.drawn
theorem GB.refl(w:ak)(row:Option Nat):GB w w row:=⟨rfl,rfl,rfl,bE _,λ_ _ _=>rfl,fI.refl _⟩
theorem fP.refl(B:Nat)(w:ak):fP B w w:=⟨rfl,rfl,rfl,bE _,λ_ _=>rfl,fI.refl _⟩
theorem fP.trans{B:Nat}{a b c:ak}(h:fP B a b)(k:fP B b c):fP B a c:=
 ⟨k.os.trans h.os,k.tape.trans h.tape,k.output.trans h.output,Nat.le_trans h.size k.size,λi hi=>(k.block i hi).trans (h.block i hi),fI.trans h.drawn k.drawn⟩
theorem fP.mono{B B':Nat}{w w':ak}(h:fP B w w')(hB:B'<=B):fP B' w w':=⟨h.os,h.tape,h.output,h.size,λk hk=>h.block k (bK hk hB),h.drawn⟩
theorem fP.below{B:Nat}{w w':ak}(h:fP B w w'):Go.RowKit.Below B w w':=⟨h.os,h.tape,h.output,h.size,h.block⟩
theorem fP.alloc{B:Nat}{a w:ak}(h:fP B a w)(hB:B<=w.heap.size)(o:Obj):fP B a (w.alloc o):=
 h.trans ⟨rfl,rfl,rfl,by simp,λk hk=>Go.RowKit.Below.heap_alloc _ _ _ (by omega),fI.refl _⟩
theorem fP.grown{B:Nat}{a w w':ak}{row:Option Nat}(h:fP B a w)(hg:GB w w' row)(hB:B<=w.heap.size)(hr:∀ k,row=some k->B<=k):fP B a w':=
 h.trans ⟨hg.os,hg.tape,hg.output,hg.size,λk hk=>hg.block k (by omega) (λe=>by have:=hr k e.symm;omega),hg.drawn⟩
end
structure dz(w w':ak)(O O':Nat->Prop)(ρ ρ':Nat->Loc):Prop where
 size:w.heap.size<=w'.heap.size
 same:∀ b,b<w.heap.size-> ¬O b->w'.heap[b]? =w.heap[b]?
 own:∀ b,b<w.heap.size->O' b->O b
 loc:∀ id,ρ' id=ρ id\/ρ id= .de\/ρ' id= .dead
theorem dz.b7{w w':ak}{O O':Nat->Prop}{ρ ρ':Nat->Loc}(h:dz w w' O O' ρ ρ'):dz w w' O O' b7 b7:=
 ⟨h.size,h.same,h.own,λ_=>.inl rfl⟩
theorem dz.tc{w w':ak}{O O':Nat->Prop}{ρ ρ':Nat->Loc}(h:dz w w' O O' ρ ρ'){b:Nat}(hb:uD w O b):uD w' O' b:=
 ⟨bK hb.1 h.size,λho=>hb.2 (h.own b hb.1 ho)⟩
theorem dz.cell{w w':ak}{O O':Nat->Prop}{ρ ρ':Nat->Loc}(h:dz w w' O O' ρ ρ'){p:au}(hb:uD w O p.block):w'.cell? p=w.cell? p:=
 World.cell?_of_block (w:=w) (h.same p.block hb.1 hb.2)
theorem pD(a:au)(n:Nat):(a.add n).block=a.block:=by unfold Addr.add;split<;>rfl
theorem add_add(a:au)(i j:Nat):(a.add i).add j=a.add (i+j):=by
 unfold Addr.add;by_cases hi:i=0<;>by_cases hj:j=0<;>simp[hi,hj,bH]
theorem R.Lw{w:ak}{O:Nat->Prop}{id:Nat}{ρ:Nat->Loc}{v:ae}(h:R w O (.own id) ρ v):∃ a n c,v= .slice a n c:=by
 simp only[R]at h;split at h
 .exact h.2
 .exact h
 exact h.elim
theorem R.FZ{w:ak}{O:Nat->Prop}{id off:Nat}{ρ:Nat->Loc}{v:ae}(h:R w O (.ptr id off) ρ v):∃ ad,v= .pointer (some ad):=by
 simp only[R]at h;split at h
 .exact⟨_,h⟩
 .exact h
 exact h.elim
theorem R.Vr{w:ak}{O:Nat->Prop}{id off:Nat}{ρ:Nat->Loc}{v:ae}(h:R w O (.ap id off) ρ v):∃ ad,v= .pointer (some ad):=by
 simp only[R]at h;split at h
 .exact⟨_,h⟩
 .obtain⟨_,_,_,_,_,rfl⟩:=h;exact⟨_,rfl⟩
 .exact h
 exact h.elim
theorem R.F1{w:ak}{O:Nat->Prop}{id n:Nat}{ρ:Nat->Loc}{v:ae}(h:R w O (.rv id n) ρ v):Lu n v:=by
 simp only[R]at h;split at h
 .exact h.2
 .exact h
 exact h.elim
theorem R.BX{w:ak}{O:Nat->Prop}{f:av}{id off:Nat}{ρ:Nat->Loc}{v:ae}(h:R w O (.bm f id off) ρ v):∃ ad,v= .func (.func f) #[.pointer (some ad)] #[]:=by
 simp only[R]at h;split at h
 .exact⟨_,h⟩
 .exact h
 exact h.elim
theorem R.Lx{w:ak}{O:Nat->Prop}{id c i off:Nat}{ρ:Nat->Loc}{v:ae}(h:R w O (.rp id c i off) ρ v):∃ ad,v= .pointer (some ad):=by
 simp only[R]at h;split at h
 .obtain⟨_,_,_,_,rfl⟩:=h;exact⟨_,rfl⟩
 .exact h
 exact h.elim
theorem R.Vs{w:ak}{O:Nat->Prop}{id:Nat}{ρ:Nat->Loc}{v:ae}(h:R w O (.dA id) ρ v):v.oneCell'=true:=by
 simp only[R]at h;split at h
 .subst h;rfl
 .subst h;rfl
 .exact h
 exact h.elim
theorem R.Ly{w:ak}{O:Nat->Prop}{id c lo n:Nat}{ρ:Nat->Loc}{v:ae}(h:R w O (.ov id c lo n) ρ v):∃ a cap,v= .slice a n cap:=by
 simp only[R]at h;split at h
 .obtain⟨_,_,_,_,_,_,rfl,_⟩:=h;exact⟨_,_,rfl⟩
 .obtain⟨_,rfl,_⟩:=h;exact⟨_,_,rfl⟩
 .exact h
 exact h.elim
theorem R.cell_of{w:ak}{O:Nat->Prop}{a:A}{ρ:Nat->Loc}{v:ae}(h:R w O a ρ v)(hc:yG a=true):v.oneCell'=true:=by
 cases a with
 |dU=>cases hc
 |agg _=>cases hc
 |cG _=>cases hc
 |own id=>obtain⟨_,_,_,rfl⟩:=h.Lw;rfl
 |ptr id off=>obtain⟨_,rfl⟩:=h.FZ;rfl
 |rp id c i off=>obtain⟨_,rfl⟩:=h.Lx;rfl
 |dA id=>exact h.Vs
 |ov id c lo n=>obtain⟨_,_,rfl⟩:=h.Ly;rfl
 |ap id off=>obtain⟨_,rfl⟩:=h.Vr;rfl
 |bm f id off=>obtain⟨_,rfl⟩:=h.BX;rfl
 |rv id n=>obtain⟨_,_,rfl,_⟩:=h.F1;rfl
 |lF=>simp only[R]at h;obtain⟨_,rfl⟩:=h;rfl
 |kh=>simp only[R]at h;subst h;rfl
 |lM=>simpa only[R]using h
 |kb b=>simp only[R]at h;subst h;rfl
 |bool b=>simp only[R]at h;subst h;rfl
 |int k n=>simp only[R]at h;subst h;rfl
 |str s=>simp only[R]at h;subst h;rfl
 |bN=>simp only[R]at h;subst h;rfl
 |sl c n el=>simp only[R]at h;obtain⟨_,_,rfl,_⟩:=h;rfl
 |ip c el=>simp only[R]at h;obtain⟨_,rfl,_⟩:=h;rfl
 |im t ag n hh el=>simp only[R]at h;obtain⟨_,_,_,rfl,_⟩:=h;rfl
 |fn f l=>simp only[R]at h;obtain⟨_,rfl,_⟩:=h;rfl
 |bv f l=>simp only[R]at h;obtain⟨_,rfl,_⟩:=h;rfl
mutual
theorem R.later{w w':ak}{O O':Nat->Prop}:∀ (a:A) (ρ ρ':Nat->Loc) (v:ae),dz w w' O O' ρ ρ'->R w O a ρ v->R w' O' a ρ' v
 | .dU,_,_,_,_,_=>by simp only[R]
 | .lM,_,_,_,_,h=>by simpa only[R]using h
 | .kb _,_,_,_,_,h=>by simpa only[R]using h
 | .bool _,_,_,_,_,h=>by simpa only[R]using h
 | .int _ _,_,_,_,_,h=>by simpa only[R]using h
 | .str _,_,_,_,_,h=>by simpa only[R]using h
 | .bN,_,_,_,_,h=>by simpa only[R]using h
 | .sl c n el,_,_,_,hl,h=>by
  simp only[R]at h⊢;obtain⟨a,cap,rfl,h1,h2,h3⟩:=h;refine⟨a,cap,rfl,h1,h2,λhp=>?_⟩;obtain⟨ad,rfl,hi,hc⟩:=h3 hp;refine⟨ad,rfl,hl.tc hi,λi hin j hj=>?_⟩;obtain⟨u,hu,h1,hr⟩:=hc i hin j hj;exact⟨u,(hl.cell (by rw[pD];exact hi)).trans hu,h1,R.later (el i j) b7 b7 u hl.b7 hr⟩
 | .ip c el,_,_,_,hl,h=>by
  simp only[R]at h⊢;obtain⟨ad,rfl,h3⟩:=h;refine⟨ad,rfl,λhp=>?_⟩;obtain⟨hi,hc⟩:=h3 hp;refine⟨hl.tc hi,λj hj=>?_⟩;obtain⟨u,hu,hr⟩:=hc j hj;exact⟨u,(hl.cell (by rw[pD];exact hi)).trans hu,R.later (el j) b7 b7 u hl.b7 hr⟩
 | .own id,ρ,ρ',v,hl,h=>by
  have hc:=h.Lw;simp only[R]at h⊢;rcases hl.loc id with e|e|e
  .rw[e];exact h
  .rw[e]at h;exact h.elim
  rw[e];exact hc
 | .ptr id off,ρ,ρ',v,hl,h=>by
  have hc:=h.FZ;simp only[R]at h⊢;rcases hl.loc id with e|e|e
  .rw[e];exact h
  .rw[e]at h;exact h.elim
  rw[e];exact hc
 | .rp id c i off,ρ,ρ',v,hl,h=>by
  have hc:=h.Lx;simp only[R]at h⊢;rcases hl.loc id with e|e|e
  .rw[e];exact h
  .rw[e]at h;exact h.elim
  rw[e];exact hc
 | .fn f l,ρ,ρ',v,hl,h=>by
  simp only[R]at h⊢;obtain⟨vs,rfl,h⟩:=h;exact⟨vs,rfl,RL.later l ρ ρ' vs hl h⟩
 | .agg l,ρ,ρ',v,hl,h=>by
  simp only[R]at h⊢;obtain⟨vs,rfl,h⟩:=h;exact⟨vs,rfl,RL.later l ρ ρ' vs hl h⟩
 | .bv f l,ρ,ρ',v,hl,h=>by
  simp only[R]at h⊢;obtain⟨vs,rfl,h⟩:=h;exact⟨vs,rfl,RL.later l ρ ρ' vs hl h⟩
 | .cG l,ρ,ρ',v,hl,h=>by
  simp only[R]at h⊢;obtain⟨vs,rfl,h⟩:=h;exact⟨vs,rfl,RL.later l ρ ρ' vs hl h⟩
 | .lF,_,_,_,_,h=>by simpa only[R]using h
 | .kh,_,_,_,_,h=>by simpa only[R]using h
 | .dA id,ρ,ρ',v,hl,h=>by
  have hc:=h.Vs;simp only[R]at h⊢;rcases hl.loc id with e|e|e
  .rw[e];exact h
  .rw[e]at h;exact h.elim
  rw[e];exact hc
 | .ov id c lo n,ρ,ρ',v,hl,h=>by
  have hc:=h.Ly;simp only[R]at h⊢;rcases hl.loc id with e|e|e
  .rw[e];exact h
  .rw[e]at h;exact h.elim
  rw[e];exact hc
 | .ap id off,ρ,ρ',v,hl,h=>by
  have hc:=h.Vr;simp only[R]at h⊢;rcases hl.loc id with e|e|e
  .rw[e];exact h
  .rw[e]at h;exact h.elim
  rw[e];exact hc
 | .bm f id off,ρ,ρ',v,hl,h=>by
  have hc:=h.BX;simp only[R]at h⊢;rcases hl.loc id with e|e|e
  .rw[e];exact h
  .rw[e]at h;exact h.elim
  rw[e];exact hc
 | .rv id n,ρ,ρ',v,hl,h=>by
  have hc:=h.F1;simp only[R]at h⊢;rcases hl.loc id with e|e|e
  .rw[e];exact h
  .rw[e]at h;exact h.elim
  rw[e];exact hc
 | .im t ag n h el,_,_,_,hl,hr=>by
  simp only[R]at hr⊢;obtain⟨b,es,clock,rfl,hi,hg,h1,h2,h3⟩:=hr;refine⟨b,es,clock,rfl,hl.tc hi,(hl.same b hi.1 hi.2).trans hg,h1,h2,λq hq=>⟨(h3 q hq).1,λhh=>?_⟩⟩;obtain⟨e,he,hk,hv⟩:=(h3 q hq).2 hh;exact⟨e,he,hk,R.later (el q) b7 b7 _ hl.b7 hv⟩
theorem RL.later{w w':ak}{O O':Nat->Prop}:∀ (l:List A) (ρ ρ':Nat->Loc) (vs:List ae),dz w w' O O' ρ ρ'->RL w O l ρ vs->RL w' O' l ρ' vs
 |[],_,_,_,_,h=>by simpa only[RL]using h
 |a::l,ρ,ρ',vs,hl,h=>by
  simp only[RL]at h⊢;obtain⟨v,vs',rfl,h1,h2⟩:=h;exact⟨v,vs',rfl,R.later a ρ ρ' v hl h1,RL.later l ρ ρ' vs' hl h2⟩
end
section lists
variable {w:ak} {O:Nat->Prop} {ρ:Nat->Loc}
theorem RL.len:∀ {l:List A} {vs:List ae},RL w O l ρ vs->vs.length=l.length
 |[],vs,h=>by simp only[RL]at h;subst h;rfl
 |a::l,vs,h=>by simp only[RL]at h;obtain⟨v,vs',rfl,_,h2⟩:=h;simp[RL.len h2]
theorem RL.get:∀ {l:List A} {vs:List ae} (i:Nat) (v:ae),RL w O l ρ vs->vs[i]? =some v->R w O (bT l i) ρ v
 |[],vs,i,v,h,hv=>by simp only[RL]at h;subst h;simp at hv
 |a::l,vs,i,v,h,hv=>by
  simp only[RL]at h;obtain⟨v',vs',rfl,h1,h2⟩:=h;cases i with
  |zero=>simp at hv;subst hv;exact h1
  |succ i=>simp at hv;exact RL.get i v h2 hv
theorem RL.append:∀ {l m:List A} {vs us:List ae},RL w O l ρ vs->RL w O m ρ us->RL w O (l++m) ρ (vs++us)
 |[],m,vs,us,h,h'=>by simp only[RL]at h;subst h;simpa using h'
 |a::l,m,vs,us,h,h'=>by
  simp only[RL]at h;obtain⟨v,vs',rfl,h1,h2⟩:=h;simp only[bx,RL];exact⟨v,vs'++us,rfl,h1,RL.append h2 h'⟩
theorem RL.drop:∀ (n:Nat) {l:List A} {vs:List ae},RL w O l ρ vs->RL w O (jE n l) ρ (vs.drop n)
 |0,l,vs,h=>by simpa[jE]using h
 |n+1,[],vs,h=>by simp only[RL]at h;subst h;simp[jE,RL]
 |n+1,a::l,vs,h=>by
  simp only[RL]at h;obtain⟨v,vs',rfl,h1,h2⟩:=h;simpa[jE]using RL.drop n h2
theorem RL.take:∀ (n:Nat) {l m:List A} {vs:List ae},RL w O l ρ vs->takeN n l=some m->RL w O m ρ (vs.take n)/\(vs.take n).length=n
 |0,l,m,vs,h,hm=>by simp[takeN]at hm;subst hm;simp[RL]
 |n+1,[],m,vs,h,hm=>by simp[takeN]at hm
 |n+1,a::l,m,vs,h,hm=>by
  simp only[RL]at h;obtain⟨v,vs',rfl,h1,h2⟩:=h;simp only[takeN]at hm;split at hm
  .rename_i m' hm';simp at hm;subst hm;obtain⟨h3,h4⟩:=RL.take n h2 hm';simp only[List.take_succ_cons,RL];exact⟨⟨v,vs'.take n,rfl,h1,h3⟩,by simp[h4]⟩
  cases hm
theorem RL.oo:∀ {l:List A} {o:Nat} {cs m:List A} {vs us:List ae},RL w O l ρ vs->RL w O cs ρ us->Sy.oo l o cs=some m->
  RL w O m ρ (vs.take o++us++vs.drop (o+us.length))/\o+us.length<=vs.length\/(cs=[]/\m=l)
 |l,o,[],m,vs,us,h,h',hm=>by simp[Sy.oo]at hm;exact .inr ⟨rfl,hm.symm⟩
 |[],o,c::cs,m,vs,us,h,h',hm=>by simp[Sy.oo]at hm
 |a::l,0,c::cs,m,vs,us,h,h',hm=>by
  simp only[RL]at h h';obtain⟨v,vs',rfl,h1,h2⟩:=h;obtain⟨u,F2,rfl,h3,h4⟩:=h';simp only[Sy.oo]at hm;split at hm
  .rename_i m' hm';simp at hm;subst hm;left;rcases RL.oo h2 h4 hm' with ⟨h5,h6⟩|⟨rfl,rfl⟩
   .simp only[RL];refine⟨⟨u,F2++vs'.drop F2.length,by simp,h3,by simpa using h5⟩,by simp;omega⟩
   simp only[RL]at h4;subst h4;simp only[RL];exact⟨⟨u,vs',by simp,h3,h2⟩,by simp⟩
  cases hm
 |a::l,o+1,c::cs,m,vs,us,h,h',hm=>by
  simp only[RL]at h;obtain⟨v,vs',rfl,h1,h2⟩:=h;simp only[Sy.oo]at hm;split at hm
  .rename_i m' hm';simp at hm;subst hm;left;rcases RL.oo h2 h' hm' with ⟨h5,h6⟩|⟨h7,_⟩
   .simp only[RL];refine⟨⟨v,_,rfl,h1,?_⟩,by simp;omega⟩;have e:o+1+us.length=(o+us.length)+1:=by omega
    simpa[e]using h5
   cases h7
  cases hm
theorem RL.yv:∀ {l:List A} {vs:List ae},RL w O l ρ vs->uy l=true-> ∀v∈vs,v.oneCell'=true
 |[],vs,h,_=>by simp only[RL]at h;subst h;simp
 |a::l,vs,h,hc=>by
  simp only[RL]at h;obtain⟨v,vs',rfl,h1,h2⟩:=h;simp only[uy,ab]at hc;intro u hu;rcases bA.1 hu with rfl|hu
  .exact h1.cell_of hc.1
  exact RL.yv h2 hc.2 u hu
end lists
theorem R.closed{w:ak}{O:Nat->Prop}{ρ:Nat->Loc}(ρ':Nat->Loc):∀ (d:Nat),
  (∀(a:A) (v:ae),Sy.closed d a=true->R w O a ρ v->R w O a ρ' v)/\(∀(l:List A) (vs:List ae),gC (Sy.closed d) l=true->RL w O l ρ vs->RL w O l ρ' vs)
 |0=>⟨λa v h=>by simp[Sy.closed]at h,λl vs h hr=>by
   cases l with
   |nil=>simpa only[RL]using hr
   |cons a l=>simp[gC,Sy.closed]at h⟩
 |d+1=>by
  obtain⟨_,ih2⟩:=R.closed ρ' d;have H:∀ (a:A) (v:ae),Sy.closed (d+1) a=true->R w O a ρ v->R w O a ρ' v:=by
   intro a v hc hr;cases a with
   |own id=>simp[Sy.closed]at hc
   |ptr id off=>simp[Sy.closed]at hc
   |rp id c i off=>simp[Sy.closed]at hc
   |dA id=>simp[Sy.closed]at hc
   |ov id c lo n=>simp[Sy.closed]at hc
   |ap id off=>simp[Sy.closed]at hc
   |bm f id off=>simp[Sy.closed]at hc
   |rv id n=>simp[Sy.closed]at hc
   |fn f l=>
    simp only[R]at hr⊢;obtain⟨vs,rfl,h⟩:=hr;exact⟨vs,rfl,ih2 l vs hc h⟩
   |agg l=>
    simp only[R]at hr⊢;obtain⟨vs,rfl,h⟩:=hr;exact⟨vs,rfl,ih2 l vs hc h⟩
   |bv f l=>
    simp only[R]at hr⊢;obtain⟨vs,rfl,h⟩:=hr;exact⟨vs,rfl,ih2 l vs hc h⟩
   |cG l=>
    simp only[R]at hr⊢;obtain⟨vs,rfl,h⟩:=hr;exact⟨vs,rfl,ih2 l vs hc h⟩
   |dU=>simp only[R]
   |_=>simpa only[R]using hr
  refine⟨H,?_⟩;intro l
  induction l with
  |nil=>intro vs _ h;simpa only[RL]using h
  |cons a l ih=>
   intro vs hc h;simp only[gC,ab]at hc;simp only[RL]at h⊢;obtain⟨v,vs',rfl,h1,h2⟩:=h;exact⟨v,vs',rfl,H a v hc.1 h1,ih vs' hc.2 h2⟩
def ou(w:ak)(O:Nat->Prop)(ρ:Nat->Loc)(ag:Bool)(n:Nat)(f:List Int->Option A)(es:List ay)(ck:Nat):Prop:=
 (∀e∈es,∃ q,q.length=n/\e.key=ep ag q)/\(es.Pairwise (λa b=>a.key≠b.key)/\Lt es ck)/\
 ∀q,q.length=n->match f q with
  |some a=>∃ e∈es,e.key=ep ag q/\R w O a ρ e.val
  |none=>∀ e∈es,e.key≠ep ag q
def rU(w:ak)(O:Nat->Prop)(te e:af)(c n:Nat)(len:Nat->Nat)(el:Nat->Nat->Nat->A)(hi:Option Nat)(v:ae)(us vs:List ae):Prop:=
 (jP w te 1 v n us/\ ∀u∈us,u.oneCell'=true)/\(us.length=vs.length/\ ∀i,hi≠some i->us[i]? =vs[i]?)/\
 (∀i u,vs[i]? =some u->hi≠some i-> ∃xs,jP w e c u (len i) xs/\(∀x∈xs,x.oneCell'=true)/\ ∀q,q<len i-> ∀j,j<c-> ∃x,xs[q*c+j]? =some x/\R w O (el i q j) b7 x)/\
 (∀i u,vs[i]? =some u->hi≠some i-> ∀b,eQ u=some b->eQ v≠some b/\ ∀j u',vs[j]? =some u'->j≠i->hi≠some j->eQ u'≠some b)
def uE:Option (Nat×A)->Option Nat
 |none=>none
 |some (i,_)=>some i
def fR(w:ak)(O:Nat->Prop)(ρ:Nat->Loc)(o:Ob)(l:Loc):Prop:=
 match o with
 | .de=>l= .de
 | .dead=>l= .dead
 | .box cells=>∃ b vs t,l= .blk b/\w.heap[b]? =some (.cells (bc vs) t (0,0))/\RL w O cells ρ vs
 | .row e c n el=>∃ v xs,l= .row v/\jP w e c v n xs/\(∀u∈xs,u.oneCell'=true)/\
   ∀i,i<n-> ∀j,j<c-> ∃u,xs[i*c+j]? =some u/\R w O (el i j) b7 u
 | .lp ts ps gQ gL gZ iK=>∃ b r vs,l= .loop b/\w.heap[b]? =some (.loop r)/\r.tmps=bc vs/\RL w O ts ρ vs/\r.params.toList=ps/\r.assign=gQ/\r.body=gL/\r.state=gZ/\r.pending=iK
 | .mp _ ag n cl u h v=>∃ b es clock,l= .map b/\w.heap[b]? =some (.map es clock)/\ou w O ρ ag n (eu h v u) es.toList clock/\(cl=true-> ∀q a,q.length=n->eu h v u q=some a->closed 5 a=true)
 | .it _ ag n h v seen=>∃ b bm es clock sn,l= .blk b/\w.heap[b]? =some (.mapIter (some bm) clock sn clock)/\uD w O bm/\w.heap[bm]? =some (.map es clock)/\ou w O b7 ag n (eu h v []) es.toList clock/\
   (ag=false->n=1)/\ ∃bo:List Int->Nat,sn.toList=(seen.map bo).reverse/\ ∀q∈seen,q.length=n/\h q=true/\ ∃e∈es.toList,e.key=ep ag q/\e.born=bo q
 | .rr te e c n len el h=>∃ v us vs,l= .pO v vs (uE h)/\rU w O te e c n len el (uE h) v us vs/\ ∀i a,h=some (i,a)->yG a=true/\ ∃u,us[i]? =some u/\R w O a ρ u
def owned(ρ:Nat->Loc)(b:Nat):Prop:=∃ id,(ρ id).has b
def mb(D:Nat):Deferred:={ target:=.collected D,args:=#[] }
section
variable [fI]
structure Rel(w0:ak)(X:Nat->Prop)(st:St)(a:Act)(w:ak)(ρ:Nat->Loc):Prop where
 len:a.tmps.size=st.tmps.length
 tmp:∀ i,R w (λb=>X b\/owned ρ b) (bT st.tmps i) ρ (a.tmps.getD i undef)
 obj:∀ id,fR w (λb=>X b\/owned ρ b) ρ (bZ st.bR id) (ρ id)
 dJ:∀ i j b,(ρ i).has b->(ρ j).has b->i=j
 kept:fP w0.heap.size w0 w
 new:∀ b,owned ρ b->w0.heap.size<=b/\b<w.heap.size
 fu:∀ b,X b->b<w0.heap.size
 jM:∃ Ds:List Nat,a.defers=Ds.map mb/\Ds.Nodup/\ ∀D∈Ds,w.heap[D]? =some (.deferred (some []))/\w0.heap.size<=D
end
theorem Vt(w:ak)(O:Nat->Prop)(ρ:Nat->Loc)(v:ae):R w O (FE v) ρ v:=by
 unfold FE;split<;>simp[R,RL,a7]
theorem LA(w:ak)(O:Nat->Prop)(ρ:Nat->Loc):∀ vs:List ae,RL w O (yF vs) ρ vs
 |[]=>by simp[yF,RL]
 |v::vs=>by
  simp only[yF,RL];refine⟨v,vs,rfl,?_,LA w O ρ vs⟩;split
  .simp only[R]
  exact Vt w O ρ _
theorem LB(w:ak)(O:Nat->Prop)(ρ:Nat->Loc)(v:ae):R w O (BC v) ρ v:=by
 unfold BC;split
 .rename_i cs;simp only[R];exact⟨cs.toList,by simp,LA w O ρ _⟩
 .simp[R,RL]
 exact Vt w O ρ v
theorem mE{w:ak}{O:Nat->Prop}{ρ:Nat->Loc}{tmps:List A}{a:Act}(h:∀ i,R w O (bT tmps i) ρ (a.tmps.getD i undef))(x:aj):R w O (cQ tmps x) ρ (a.eval x):=by
 cases x with
 |tmp t=>exact h t
 |const v=>exact LB w O ρ v
 |global g=>simp[cQ,R]
 |func f=>simp[cQ,R,Act.eval,RL]
section
variable {P:al} {w:ak} {O:Nat->Prop} {ρ:Nat->Loc}
theorem yT{t:af}{b:Bool}(h:jn P t=some b):(isAgg t).run P w= .ok b w:=by
 unfold jn at h;unfold isAgg;split at h<;>simp at h<;>subst h<;>rename_i hu<;>simp[run_underlying hu]
theorem iy{t:af}{s:Nat}(h:gY P t=some s):(sizeOf t).run P w= .ok s w:=by
 unfold gY at h;simp only[AI]at h;obtain⟨i,hi,rfl⟩:=h;simp[sizeOf,typeInfo,hi]
theorem Ff{t:af}{s:Nat}(h:jn P t=some true)(hs:gY P t=some s)(ad:au)(vs:List ae)(hl:vs.length=s)
  (hc:∀ j v,vs[j]? =some v->w.cell? (ad.add j)=some v):(loadVar t ad).run P w= .ok (.agg vs.toArray) w:=by
 subst hl;simp[loadVar,yT h,iy hs,run_loadCells_list w ad vs hc]
theorem BZ{t:af}(h:jn P t=some false)(ad:au)(v:ae)(hc:w.cell? ad=some v):(loadVar t ad).run P w= .ok v w:=by
 simp[loadVar,yT h,hc]
theorem add_zero(a:au):a.add 0=a:=by simp[Addr.add]
theorem Vu{vs:List ae}{el:Nat->A}:∀ (n i:Nat),vs.length=n->(∀j v,vs[j]? =some v->R w O (el (i+j)) ρ v)->RL w O (rangeMap el i n) ρ vs:=by
 intro n
 induction n generalizing vs with
 |zero=>intro i hl _;simp[rangeMap,RL];exact bq hl
 |succ n ih=>
  intro i hl h;cases vs with
  |nil=>simp at hl
  |cons v vs=>
   simp only[rangeMap,RL];refine⟨v,vs,rfl,by simpa using h 0 v rfl,ih (i+1) (by simpa using hl) λj u hu=>?_⟩;have:=h (j+1) u (by simpa using hu);rwa[show i+(j+1)=i+1+j by omega]at this
theorem LC(n:Nat)(p:Nat->ae->Prop)(h:∀ j,j<n-> ∃u,p j u):∃ vs:List ae,vs.length=n/\ ∀j v,vs[j]? =some v->p j v:=by
 induction n with
 |zero=>exact⟨[],rfl,λj v h=>by simp at h⟩
 |succ n ih=>
  obtain⟨vs,hl,hv⟩:=ih λj hj=>h j (by omega);obtain⟨u,hu⟩:=h n (by omega);refine⟨vs++[u],by simp[hl],λj v hj=>?_⟩;rw[List.getElem?_append]at hj;split at hj
  .exact hv j v hj
  rename_i hge;have:j-vs.length=0:=by
   rcases bL (j-vs.length)with h0|h0
   .exact h0
   rw[bk (by simp;omega)]at hj;cases hj
  rw[this]at hj;simp at hj;subst hj;have:j=n:=by omega
  subst this;exact hu
theorem F3{a:A}{v:ae}(h:R w O a b7 v):R w O a ρ v:=R.later a b7 ρ v ⟨bE _,λ_ _ _=>rfl,λ_ _ h=>h,λ_=>.inr (.inl rfl)⟩ h
theorem amr(b off j:Nat):(⟨b,off,none⟩:au).add j=⟨b,off+j,none⟩:=by
 unfold Addr.add;by_cases h:j=0<;>simp[h]
theorem qI{e c n:Nat}{v:ae}{xs:List ae}(h:jP w e c v n xs)(hn:0<n):
  ∃g o cap,v= .slice (some ⟨g,o,none⟩) n (cap+1)/\n<=cap+1/\cap+1<=maxLen/\ ∀j u,xs[j]? =some u->w.cell? ((⟨g,o,none⟩:au).add j)=some u:=by
 obtain⟨hl,h⟩:=h;rcases h with ⟨rfl,_⟩|⟨g,o,cap,cur,rfl,⟨fz,hg,_⟩,hnc,ki,hcs,ht⟩
 .omega
 refine⟨g,o,cap,rfl,hnc,ki,λj u hu=>?_⟩;rw[amr];simp only[World.cell?,hg];have hj:j<n*c:=by
  rw[<-hl];rcases bI j xs.length with h|h
  .exact h
  rw[bk h]at hu;cases hu
 rw[<-ht,bn]at hu;rw[bS hj,bu]at hu;simpa using hu
def nc(w:ak)(O:Nat->Prop)(ρ:Nat->Loc)(bR:List Ob):Prop:=∀ id,bZ bR id= .dead\/fR w O ρ (bZ bR id) (ρ id)
theorem sC{b:Nat}{vs:List ae}{t:af}{f:Nat×Nat}(h:w.heap[b]? =some (.cells (bc vs) t f))(j:Nat):w.cell? ⟨b,j,none⟩=vs[j]?:=by
 simp[World.cell?,h]
theorem ams{te:af}{n i:Nat}{vs:List ae}{u:ae}{b o N cap:Nat}(h:jP w te 1 (.slice (some ⟨b,o,none⟩) N cap) n vs)(hu:vs[i]? =some u):w.cell? ⟨b,o+i,none⟩=some u:=by
 obtain⟨hl,hh⟩:=h;rcases hh with ⟨rfl,a,ha⟩|⟨g,o',cap',cur,hv,⟨fz,hg,hz⟩,h1,h2,h3,h4⟩
 .have:vs=[]:=bq (by simpa using hl);subst this;cases hu
 simp only[ba,AT,Addr.mk.injEq]at hv;obtain⟨⟨rfl,rfl,_⟩,rfl,rfl⟩:=hv;have vM:w.heap[b]? =some (.cells (bc cur.toList) te fz):=by simpa using hg
 rw[sC vM];rw[<-h4,bn]at hu;split at hu
 .rw[bu]at hu;exact hu
 cases hu
theorem na(b off j:Nat):(⟨b,off,none⟩:au).add j=⟨b,off+j,none⟩:=by
 unfold Addr.add;split
 .rename_i h;subst h;rfl
 rfl
theorem B0{k:aq}:∀ {cells:List A} {l:List Int} {vs:List ae},RL w O cells ρ vs->sV k cells=some l->vs=l.map (a6 k)
 |[],l,vs,h,hl=>by simp only[sV,AT]at hl;subst hl;simp only[RL]at h;subst h;rfl
 |a::cells,l,vs,h,hl=>by
  cases a with
  |int k' n=>
   simp only[sV]at hl;split at hl
   .rename_i hk;subst hk;split at hl
    .rename_i m hm;simp only[AT]at hl;subst hl;simp only[RL]at h;obtain⟨v,vs',rfl,h1,h2⟩:=h;simp only[R]at h1;subst h1;rw[B0 h2 hm];rfl
    cases hl
   cases hl
  |_=>simp[sV]at hl
theorem F4{k:aq}:∀ (l:List Int),RL w O (l.map (A.int k)) ρ (l.map (a6 k))
 |[]=>by simp[RL]
 |n::l=>by simp only[bl,RL];exact⟨_,_,rfl,rfl,F4 l⟩
theorem J5(k:aq)(i:Nat)(v:Int):∀ (j:Nat) (l:List Int),yn k i v j l=if j<=i then(l.set (i-j) v).map (A.int k)else l.map (A.int k)
 |j,[]=>by simp[yn]
 |j,n::l=>by
  rw[yn,J5 k i v (j+1) l];by_cases h:j=i
  .subst h;rw[bS rfl,bQ (by omega),bS (bE _)];simp
  rw[bQ h];by_cases h2:j<i
  .rw[bS (by omega),bS (by omega)];obtain⟨m,hm⟩:∃ m,i-j=m+1:=⟨i-j-1,by omega⟩;rw[hm,show i-(j+1)=m by omega];simp
  rw[bQ (by omega),bQ (by omega)];simp
theorem amt(k:aq)(i:Nat)(v:Int)(l:List Int)(hi:i<l.length):(l.map (a6 k)).take i++[a6 k v]++(l.map (a6 k)).drop (i+[a6 k v].length)=(l.set i v).map (a6 k):=by
 rw[<-List.map_take,<- List.map_drop,List.set_eq_take_append_cons_drop,bS hi];simp
theorem J9{bR:List Ob}{t:af}{a a':A}{v:ae}(cy:nc w O ρ bR)(ha:R w O a ρ v)(h:(lG P bR t a).eval=some a'):
  ∃v',(aG t v).run P w= .ok v' w/\R w O a' ρ v':=by
 unfold lG at h;split at h
 .rename_i ag s hag hs;cases a with
  |ptr id off=>
   simp only at h;split at h
   .rename_i cells hcells;rcases cy id with hd|eZ
    .rw[hcells]at hd;cases hd
    rw[hcells]at eZ;obtain⟨b,vs,bt,hρ,hg,hr⟩:=eZ;simp only[R,hρ]at ha;subst ha;simp only[aG,aC,aY,aZ,aX];cases ag with
    |true=>
     simp only at h;split at h
     .rename_i cs hcs;simp[T.eval]at h;subst h;obtain⟨h1,h2⟩:=RL.take s (RL.drop off hr) hcs;refine⟨_,Ff hag hs _ _ h2 (λj v hj=>?_),?_⟩
      .rw[na,sC hg];rw[bn]at hj;split at hj
       .simpa using hj
       cases hj
      simp only[R];exact⟨_,rfl,h1⟩
     simp[T.eval]at h
    |false=>
     simp only at h;split at h
     .rename_i c rest hd;simp[T.eval]at h;subst h;have h1:=RL.drop off hr;rw[hd]at h1;simp only[RL]at h1;obtain⟨u,us,hu,h2,_⟩:=h1;refine⟨u,BZ hag _ _ ?_,h2⟩;rw[sC hg];have:(vs.drop off)[0]? =some u:=by rw[hu];rfl
      simpa using this
     simp[T.eval]at h
   simp[T.eval]at h
  |ip c el=>
   simp only[R]at ha;obtain⟨ad,rfl,hc⟩:=ha;simp only[aG,aC,aY,aZ,aX];cases ag with
   |true=>
    simp only at h;split at h
    .rename_i hsc;simp[T.eval]at h;subst h;obtain⟨vs,hl,hv⟩:=LC s (λj u=>w.cell? (ad.add j)=some u/\R w O (el j) b7 u) (λj hj=>(hc (by omega)).2 j (by omega));refine⟨_,Ff hag hs _ vs hl (λj v hj=>(hv j v hj).1),?_⟩;simp only[R];exact⟨vs,rfl,Vu s 0 hl λj v hj=>by simpa using F3 (hv j v hj).2⟩
    simp[T.eval]at h
   |false=>
    simp only at h;split at h
    .rename_i hsc;simp[T.eval]at h;subst h;obtain⟨u,hu,hr⟩:=(hc (by omega)).2 0 (by omega);rw[add_zero]at hu;exact⟨u,BZ hag _ _ hu,F3 hr⟩
    simp[T.eval]at h
  |ap id i=>
   simp only at h;split at h
   .rename_i cells hcells;cases ag with
    |true=>simp[T.eval]at h
    |false=>
     simp only at h;split at h
     .rename_i l hint;simp only[T.dW,T.eval]at h;split at h
      .rename_i hin;simp only[dN]at hin;simp only[AT]at h;subst h;rcases cy id with hd|eZ
       .rw[hcells]at hd;cases hd
       rw[hcells]at eZ;obtain⟨b,vs,bt,hρ,hg,hr⟩:=eZ;simp only[R,hρ]at ha;subst ha;simp only[aG,aC,aY,aZ,aX];have hvs:=B0 hr hint;refine⟨_,BZ hag _ (.int (kindOf cells) (l.getD i 0)) ?_,by simp only[R]⟩;rw[sC hg,hvs];simp[List.getD,hin]
      cases h
     simp[T.eval]at h
   .rename_i te e c n len el k x uF;cases ag with
    |true=>simp[T.eval]at h
    |false=>
     simp only[T.dW,T.eval]at h;split at h
     .rename_i hin;simp only[dN]at hin;subst hin;simp only[AT]at h;subst h;rcases cy id with hd|eZ
      .rw[uF]at hd;cases hd
      rw[uF]at eZ;obtain⟨rv,us,vs,hρ,hR,hh⟩:=eZ;obtain⟨Vv,u,hu,ij⟩:=hh i x rfl;simp only[R,hρ]at ha;obtain⟨b,o,N,cap,rfl,rfl⟩:=ha;simp only[aG,aC,aY,aZ,aX];exact⟨u,BZ hag _ _ (ams hR.1.1 hu),ij⟩
     cases h
   simp[T.eval]at h
  |rp id c i off=>
   simp only at h;split at h
   .rename_i e c' n el hrow;rcases cy id with hd|eZ
    .rw[hrow]at hd;cases hd
    rw[hrow]at eZ;obtain⟨rv,xs,hρ,hown,hxs,hel⟩:=eZ;split at h
    .rename_i lx;subst lx;simp only[T.dW,T.eval]at h;split at h
     .rename_i hin;simp only[dN]at hin;obtain⟨g,o,cap,rfl,_,_,hcell⟩:=qI hown (by omega);simp only[R,hρ]at ha;obtain⟨ad,n',cap',hv',rfl⟩:=ha;simp only[ba,AT]at hv';obtain⟨rfl,_,_⟩:=hv';simp only[aG,aC,aY,aZ,aX];cases ag with
      |true=>
       simp only at h;split at h
       .rename_i hsc;simp[T.eval]at h;subst h;obtain⟨vs,hl,hv⟩:=LC s (λj u=>w.cell? ((⟨g,o,none⟩:au).add (i*c+off+j))=some u/\R w O (el i (off+j)) b7 u) (λj hj=>by
         obtain⟨u,hu,hr⟩:=hel i hin (off+j) (by omega);exact⟨u,hcell _ _ (by rw[<-hu];congr 1;omega),hr⟩)
        refine⟨_,Ff hag hs _ vs hl (λj v hj=>?_),?_⟩
        .rw[add_add];exact(hv j v hj).1
        simp only[R];exact⟨vs,rfl,Vu s off hl λj v hj=>F3 (hv j v hj).2⟩
       simp[T.eval]at h
      |false=>
       simp only at h;split at h
       .rename_i hsc;simp[T.eval]at h;subst h;obtain⟨u,hu,hr⟩:=hel i hin off (by omega);refine⟨u,BZ hag _ _ ?_,F3 hr⟩;exact hcell _ _ hu
       simp[T.eval]at h
     simp at h
    simp[T.eval]at h
   simp[T.eval]at h
  |_=>simp[T.eval]at h
 simp[T.eval]at h
theorem F5{α:Type}:∀ (l:List α),nth l=λi=>l[i]?
 |[]=>by funext i;simp[nth]
 |a::l=>by funext i;cases i<;>simp[nth,F5 l]
theorem amu{s:af}{f off:Nat}{a a':A}{v:ae}(ha:R w O a ρ v)(hf:KT P s f=some off)(h:(pJ a off).eval=some a'):
  ∃v',(aK s v f).run P w= .ok v' w/\R w O a' ρ v':=by
 unfold KT at hf;split at hf
 .rename_i fs hu;split at hf
  .rename_i fl gx;have gx:fs[f]? =some fl:=by rw[F5]at gx;simpa using gx
   split at hf
   .rename_i i hi;split at hf
    .cases hf
    rename_i hsz;simp at hf;subst hf;have key:∀ ad:au,(aK s (.pointer (some ad)) f).run P w= .ok (.pointer (some (ad.add fl.offset))) w:=by
     intro ad;simp[aK,run_underlying hu,gx,aC,fieldPlace,sizeOf,typeInfo,hi,hsz]
    cases a with
    |ptr id o=>
     simp[pJ,T.eval]at h;subst h;simp only[R]at ha⊢;split at ha
     .subst ha;exact⟨_,key _,by simp[na]⟩
     .obtain⟨ad,rfl⟩:=ha;exact⟨_,key _,_,rfl⟩
     exact ha.elim
    |ip c el=>
     simp[pJ,T.eval]at h;subst h;simp only[R]at ha⊢;obtain⟨ad,rfl,hc⟩:=ha;refine⟨_,key _,_,rfl,λhp=>?_⟩;obtain⟨hi,hc⟩:=hc (by omega);refine⟨by rw[pD];exact hi,λj hj=>?_⟩;rw[add_add];exact hc _ (by omega)
    |rp id c i o=>
     simp[pJ,T.eval]at h;subst h;simp only[R]at ha⊢;split at ha
     .obtain⟨ad,n,cap,rfl,rfl⟩:=ha;exact⟨_,key _,ad,n,cap,rfl,by rw[add_add,bH]⟩
     .obtain⟨ad,rfl⟩:=ha;exact⟨_,key _,_,rfl⟩
     exact ha.elim
    |_=>simp[pJ,T.eval]at h
   cases hf
  cases hf
 cases hf
theorem LD{α:Type}{i:Int}{k:Nat->T α}{x:α}:∀ (m j:Nat),(yI i k m j).eval=some x-> ∃q:Nat,j<=q/\q<j+m/\i=(q:Int)/\(k q).eval=some x
 |0,j,h=>by simp[yI,T.eval]at h
 |m+1,j,h=>by
  simp only[yI,T.eval]at h;split at h
  .rename_i hb;exact⟨j,bE _,by omega,by simpa using hb,h⟩
  obtain⟨q,h1,h2,h3,h4⟩:=LD m (j+1) h;exact⟨q,by omega,by omega,h3,h4⟩
theorem amv{a a':A}{v:ae}{o:Nat}(ha:R w O a ρ v)(h:(pJ a o).eval=some a'):
  ∃ad,v= .pointer (some ad)/\R w O a' ρ (.pointer (some (ad.add o))):=by
 cases a with
 |ptr id off=>
  simp[pJ,T.eval]at h;subst h;simp only[R]at ha⊢;split at ha
  .subst ha;exact⟨_,rfl,by simp[na]⟩
  .obtain⟨ad,rfl⟩:=ha;exact⟨_,rfl,_,rfl⟩
  exact ha.elim
 |ip c el=>
  simp[pJ,T.eval]at h;subst h;simp only[R]at ha⊢;obtain⟨ad,rfl,hc⟩:=ha;refine⟨_,rfl,_,rfl,λhp=>?_⟩;obtain⟨hi,hc⟩:=hc (by omega);refine⟨by rw[pD];exact hi,λj hj=>?_⟩;rw[add_add];exact hc _ (by omega)
 |rp id c i off=>
  simp[pJ,T.eval]at h;subst h;simp only[R]at ha⊢;split at ha
  .obtain⟨ad,n,cap,rfl,rfl⟩:=ha;exact⟨_,rfl,ad,n,cap,rfl,by rw[add_add,bH]⟩
  .obtain⟨ad,rfl⟩:=ha;exact⟨_,rfl,_,rfl⟩
  exact ha.elim
 |_=>simp[pJ,T.eval]at h
theorem amw{bR:List Ob}{t:af}{x i a':A}{vx vi:ae}(cy:nc w O ρ bR)(hx:R w O x ρ vx)(hi:R w O i ρ vi)(h:(sX P bR t x i).eval=some a'):
  ∃v',(aF t vx vi).run P w= .ok v' w/\R w O a' ρ v':=by
 unfold sX at h;split at h
 .rename_i k n;simp only[R]at hi;subst hi;split at h
  .rename_i e hu;split at h
   .rename_i c m el s hs;split at h
    .rename_i hcs;obtain⟨rfl,hc0⟩:=hcs;simp only[T.dW,T.eval]at h;split at h
     .rename_i hb;simp only[dN]at hb;simp at h;subst h;simp only[R]at hx⊢;obtain⟨a,cap,rfl,h1,h2,h3⟩:=hx;have hm:0<m:=by omega
      cases a with
      |none=>obtain⟨ad,hh,_⟩:=h3 (bF hm hc0);cases hh
      |some ad=>
       refine⟨_,by simp[aF,asIntOf,run_underlying hu,iy hs,hb.1,hb.2];rfl,_,rfl,λhc=>?_⟩;obtain⟨ad',hh,him,hcell⟩:=h3 (bF hm hc);cases hh;refine⟨by rw[pD];exact him,λj hj=>?_⟩;obtain⟨u,mF,_,hu2⟩:=hcell n.toNat (by omega) j hj;exact⟨u,by rw[add_add];exact mF,hu2⟩
     cases h
    simp[T.eval]at h
   .rename_i id s hs;split at h
    .rename_i e' c m el hrow;split at h
     .rename_i hcs;subst hcs;simp only[T.dW,T.eval]at h;split at h
      .rename_i hb;simp only[dN]at hb;simp at h;subst h;rcases cy id with hd|eZ
       .rw[hrow]at hd;cases hd
       rw[hrow]at eZ;obtain⟨rv,xs,hρ,hown,hxs,hel⟩:=eZ;obtain⟨g,o,cap,rfl,_,_,hcell⟩:=qI hown (by omega);simp only[R,hρ]at hx⊢;obtain⟨rfl,_⟩:=hx;refine⟨_,by simp[aF,asIntOf,run_underlying hu,iy hs,hb.1,hb.2];rfl,_,_,_,rfl,by simp⟩
      cases h
     simp[T.eval]at h
    simp[T.eval]at h
   .rename_i id c lo m s hs;split at h
    .rename_i e' c' m' el hrow;split at h
     .rename_i hcs;subst hcs;simp only[T.dW,T.eval]at h;split at h
      .rename_i hb;simp only[dN]at hb;simp at h;subst h;rcases cy id with hd|eZ
       .rw[hrow]at hd;cases hd
       rw[hrow]at eZ;obtain⟨rv,xs,hρ,hown,hxs,hel⟩:=eZ;simp only[R,hρ]at hx⊢;obtain⟨a,N,cap,a',h1,h2,rfl,h4,h5,_⟩:=hx;obtain⟨ad,rfl,rfl⟩:=h5 (by omega);refine⟨_,by simp[aF,asIntOf,run_underlying hu,iy hs,hb.1,hb.2];rfl,ad,N,cap,h1,?_⟩;rw[add_add,bG,Nat.add_zero]
      cases h
     simp[T.eval]at h
    .rename_i cells F6;split at h
     .rename_i hcs;obtain⟨hcs,hs1⟩:=hcs;subst hcs hs1;simp only[T.dW,T.eval]at h;split at h
      .rename_i hb;simp only[dN]at hb;simp at h;subst h;rcases cy id with hd|eZ
       .rw[F6]at hd;cases hd
       rw[F6]at eZ;obtain⟨b,vs,tt,hρ,_,_⟩:=eZ;simp only[R,hρ]at hx⊢;obtain⟨cap,rfl,_,_⟩:=hx;refine⟨_,by simp[aF,asIntOf,run_underlying hu,iy hs,hb.1,hb.2];rfl,?_⟩;simp[na]
      cases h
     simp[T.eval]at h
    simp[T.eval]at h
   .rename_i id m s hs;split at h
    .rename_i hs1;subst hs1;simp only[T.dW,T.eval]at h;split at h
     .rename_i hb;simp only[dN]at hb;simp at h;subst h;obtain⟨a,cap,rfl,ha⟩:=hx.F1;obtain⟨b,o,rfl⟩:=ha (by omega);refine⟨_,by simp[aF,asIntOf,run_underlying hu,iy hs,hb.1,hb.2];rfl,?_⟩;simp only[R]at hx⊢;generalize ρ id=L at hx⊢;cases L with
      |pO v' vs hi=>exact⟨b,o,m,cap,hx.1.symm,by rw[na]⟩
      |dead=>exact⟨_,rfl⟩
      |_=>exact hx.elim
     cases h
    simp[T.eval]at h
   simp[T.eval]at h
  .rename_i len e hu;split at h
   .rename_i s hs;split at h
    .rename_i id hw;simp only[T.dW,T.eval]at h;split at h
     .rename_i hb;simp only[dN]at hb;simp only[AT]at h;subst h;rw[ab]at hw;have hw2:=hw.2;rw[ab]at hw2;have hs1:s=1:=Nat.eq_of_beq_eq_true hw2.1;subst hs1;have hq:¬ (n<0\/n>=(len:Int)):=by omega
      have hn:((n.toNat:Nat):Int)=n:=Int.toNat_of_nonneg hb.1;simp only[R]at hx⊢;generalize ρ id=L at hx⊢;cases L with
      |blk b=>
       have hx:vx= .pointer (some ⟨b,0,none⟩):=hx;subst hx;refine⟨.pointer (some ⟨b,n.toNat,none⟩),?_,rfl⟩;have:(aF t (.pointer (some ⟨b,0,none⟩)) (.int k n)).run P w= .ok (.pointer (some ((⟨b,0,none⟩:au).add (n.toNat*1)))) w:=by
        simp[aF,asIntOf,run_underlying hu,iy hs,aC,hb.1,hb.2]
       rw[this,na];simp
      |dead=>
       obtain⟨ad,rfl⟩:=hx;refine⟨.pointer (some (ad.add (n.toNat*1))),?_,_,rfl⟩;simp[aF,asIntOf,run_underlying hu,iy hs,aC,hb.1,hb.2]
      |_=>exact hx.elim
     cases h
    obtain⟨q,h1,h2,rfl,h4⟩:=LD len 0 h;obtain⟨ad,rfl,hr⟩:=amv hx h4;have hq:q<len:=by omega
    exact⟨_,by simp[aF,asIntOf,run_underlying hu,iy hs,aC,hq],hr⟩
   simp[T.eval]at h
  simp[T.eval]at h
 simp[T.eval]at h
theorem Vw{e:af}{ag:Bool}{s o:Nat}{cs:List A}{vs:List ae}{a':A}(hag:jn P e=some ag)(hs:gY P e=some s)(hr:RL w O cs ρ vs)
  (h:(BD ag s cs o).eval=some a'):∃ v',(part e vs.toArray o).run P w= .ok v' w/\R w O a' ρ v':=by
 cases ag with
 |true=>
  simp only[BD]at h;split at h
  .rename_i l hl;simp[T.eval]at h;subst h;obtain⟨h1,h2⟩:=RL.take s (RL.drop o hr) hl;refine⟨.agg (bc ((vs.drop o).take s)),?_,by simp only[R];exact⟨_,rfl,h1⟩⟩;simp only[part,aY,yT hag,aX,iy hs,iI,aZ,List.extract_toArray,List.extract_eq_take_drop,Nat.add_sub_cancel_left]
  simp[T.eval]at h
 |false=>
  simp only[BD]at h;split at h
  .rename_i c rest hd;simp[T.eval]at h;subst h;have h1:=RL.drop o hr;rw[hd]at h1;simp only[RL]at h1;obtain⟨u,us,hu,h2,_⟩:=h1;have hv:vs[o]? =some u:=by
    have:(vs.drop o)[0]? =some u:=by rw[hu];rfl
    simpa using this
   exact⟨u,by simp[part,yT hag,hv],h2⟩
  simp[T.eval]at h
theorem amx{t:af}{f:Nat}{x a':A}{vx:ae}(hx:R w O x ρ vx)(h:(K6 P t f x).eval=some a'):
  ∃v',(aP t vx f).run P w= .ok v' w/\R w O a' ρ v':=by
 unfold K6 at h;split at h
 .rename_i fs hu;split at h
  .rename_i fl gx;have gx:fs[f]? =some fl:=by rw[F5]at gx;simpa using gx
   split at h
   .rename_i ag s cs hag hs;simp only[R]at hx;obtain⟨vs,rfl,hr⟩:=hx;obtain⟨v',hv,gR⟩:=Vw hag hs hr h;refine⟨v',?_,gR⟩;simp[aP,run_underlying hu,gx,asAgg,hv]
   simp[T.eval]at h
  simp[T.eval]at h
 simp[T.eval]at h
theorem amy{t:af}{x i a':A}{vx vi:ae}(hx:R w O x ρ vx)(hi:R w O i ρ vi)(h:(K2 P t x i).eval=some a'):
  ∃v',(aL t vx vi).run P w= .ok v' w/\R w O a' ρ v':=by
 unfold K2 at h;split at h
 .rename_i k n;simp only[R]at hi;subst hi;split at h
  .rename_i len e cs hu;simp only[R]at hx;obtain⟨vs,rfl,hr⟩:=hx;split at h
   .rename_i s ag hs hag;obtain⟨q,h1,h2,rfl,h4⟩:=LD len 0 h;obtain⟨v',hv,gR⟩:=Vw hag hs hr h4;refine⟨v',?_,gR⟩;have hq:q<len:=by omega
    simp[aL,asIntOf,run_underlying hu,hq,iy hs,hv]
   simp[T.eval]at h
  .rename_i s hu;simp only[R]at hx;subst hx;simp only[T.dW,T.eval]at h;split at h
   .rename_i hb;simp only[dN]at hb;simp only[AT]at h;subst h;have hlt:n.toNat<s.size:=by omega
    refine⟨_,?_,by simp only[R];rfl⟩;have hg:s[n.toNat]? =some s[n.toNat]:=ByteArray.getElem?_lt' s _ hlt;have hd:s.data.toList.getD n.toNat 0=s[n.toNat]:=by
     have:n.toNat<s.data.toList.length:=by simpa using hlt
     rw[List.getD_eq_getElem?_getD,List.getElem?_eq_getElem this];rfl
    simp only[aL,asIntOf,aY,aZ,aX,run_underlying hu,bS hb.1,hg,hd]
   cases h
  simp[T.eval]at h
 simp[T.eval]at h
theorem rV{lo:Option A}{ow:Option ae}{d:Nat}{l:Int}(hlo:match lo,ow with|none,none=>True|some a,some v=>R w O a ρ v|_,_=>False)(h:oq lo d=some l):
  (ow=none/\l=d)\/ ∃k,ow=some (.int k l):=by
 cases lo with
 |none=>
  cases ow with
  |none=>simp[oq]at h;exact .inl ⟨rfl,h.symm⟩
  |some v=>exact hlo.elim
 |some a=>
  cases ow with
  |none=>exact hlo.elim
  |some v=>
   cases a with
   |int k n=>
    simp[oq]at h;subst h;simp only[R]at hlo;subst hlo;exact .inr ⟨k,rfl⟩
   |_=>simp[oq]at h
theorem B1{isS:Bool}{len cap:Nat}{ow uG:Option ae}{l h:Int}(hl:(ow=none/\l=((0:Nat):Int))\/ ∃k,ow=some (.int k l))(hh:(uG=none/\h=(len:Int))\/ ∃k,uG=some (.int k h))
  (h0:0<=l) (h1:l<=h) (h2:h<=cap):(aH isS len cap ow uG none).run P w= .ok (l.toNat,h.toNat,cap) w:=by
 have e2:(h.toNat:Int)=h:=by omega
 rcases hl with ⟨rfl,rfl⟩|⟨k,rfl⟩<;>rcases hh with ⟨rfl,rfl⟩|⟨k',rfl⟩<;>
  simp[aH,aN,asIntOf,h0,h2,e2,h1]<;>omega
theorem amz{bR:List Ob}{t:af}{x a':A}{vx:ae}{lo hi:Option A}{ow uG:Option ae}(cy:nc w O ρ bR)(hx:R w O x ρ vx)
  (hlo:match lo,ow with|none,none=>True|some a,some v=>R w O a ρ v|_,_=>False) (hhi:match hi,uG with|none,none=>True|some a,some v=>R w O a ρ v|_,_=>False)
  (h:(yJ P bR t x lo hi).eval=some a'):∃ v',(aD t vx ow uG none).run P w= .ok v' w/\R w O a' ρ v':=by
 unfold yJ at h;split at h
 .rename_i s hu;simp only[R]at hx;subst hx;split at h
  .rename_i l hh eB tf;simp only[T.dW,T.eval]at h;split at h
   .rename_i hb;simp only[dN]at hb;simp at h;subst h;have tg:=B1 (P:=P) (w:=w) (isS:=false) (len:=s.size) (cap:=s.size) (rV hlo eB) (rV hhi tf) hb.1 hb.2.1 hb.2.2;refine⟨_,?_,by simp only[R];rfl⟩;simp[aD,aI,run_underlying hu,tg]
   cases h
  simp[T.eval]at h
 .rename_i e hu;simp only[R]at hx;subst hx;split at h
  .rename_i s l hh hs eB tf;simp only[T.dW,T.eval]at h;split at h
   .rename_i hb;simp only[dN]at hb;simp at h;subst h;have tg:=B1 (P:=P) (w:=w) (isS:=true) (len:=0) (cap:=0) (rV hlo eB) (rV hhi tf) hb.1 hb.2.1 (by omega);refine⟨.slice none 0 0,?_,by simp only[R]⟩;have e1:l.toNat=0:=by omega
    have e2:hh.toNat=0:=by omega
    simp[aD,aI,run_underlying hu,tg,iy hs,e1,e2]
   cases h
  simp[T.eval]at h
 .rename_i e c n el hu;simp only[R]at hx;obtain⟨a,cap,rfl,h1,h2,h3⟩:=hx;split at h
  .rename_i s l hh hs eB tf;split at h
   .rename_i hcs;subst hcs;simp only[T.dW,T.eval]at h;split at h
    .rename_i hb;simp only[dN]at hb;simp at h;subst h;have tg:=B1 (P:=P) (w:=w) (isS:=true) (len:=n) (cap:=cap) (rV hlo eB) (rV hhi tf) hb.1 hb.2.1 (by omega);refine⟨.slice (if cap=l.toNat then a else a.map (·.add (l.toNat*c))) (hh.toNat-l.toNat) (cap-l.toNat),?_,?_⟩
     .simp[aD,aI,run_underlying hu,tg,iy hs]
     simp only[R];refine⟨_,_,by rw[show hh.toNat-l.toNat=(hh-l).toNat by omega],by omega,by omega,λhp=>?_⟩;have hlt:0<(hh-l).toNat:=Nat.pos_of_mul_pos_right hp;have hc:0<c:=Nat.pos_of_mul_pos_left hp;obtain⟨ad,rfl,hi,hcell⟩:=h3 (bF (by omega) hc);rw[bQ (by omega)];refine⟨ad.add (l.toNat*c),rfl,by rw[pD];exact hi,λi hi j hj=>?_⟩;obtain⟨u,mF,hu2,wG⟩:=hcell (l.toNat+i) (by omega) j hj;refine⟨u,?_,hu2,wG⟩;rw[add_add,<- mF,bG];congr 2;omega
    cases h
   simp[T.eval]at h
  simp[T.eval]at h
 .rename_i e id hu;split at h
  .rename_i e' c n el hrow;split at h
   .rename_i s l hh hs eB tf;split at h
    .rename_i hcs;subst hcs;simp only[T.dW,T.eval]at h;split at h
     .rename_i hb;simp only[dN]at hb;simp at h;subst h;rcases cy id with hd|eZ
      .rw[hrow]at hd;cases hd
      rw[hrow]at eZ;obtain⟨rv,xs,hρ,hown,hxs,hel⟩:=eZ;simp only[R,hρ]at hx⊢;obtain⟨rfl,_⟩:=hx;have key:∃ a cap,vx= .slice a n cap/\n<=cap/\(0<cap-> ∃ad,a=some ad):=by
       rcases hown.2 with ⟨rfl,a,rfl⟩|⟨g,o,cap,cur,rfl,_,hnc,_⟩
       .exact⟨a,0,rfl,bE _,λh=>dP h (Nat.lt_irrefl _)⟩
       exact⟨_,_,rfl,hnc,λ_=>⟨_,rfl⟩⟩
      obtain⟨a,cap,rfl,hnc,had⟩:=key;have tg:=B1 (P:=P) (w:=w) (isS:=true) (len:=n) (cap:=cap) (rV hlo eB) (rV hhi tf) hb.1 hb.2.1 (by omega);refine⟨.slice (if cap=l.toNat then a else a.map (·.add (l.toNat*c))) (hh.toNat-l.toNat) (cap-l.toNat),?_,a,n,cap,_,rfl,by omega,by rw[show hh.toNat-l.toNat=(hh-l).toNat by omega],λh0=>?_,λhp=>?_,λhlt=>?_⟩
      .simp[aD,aI,run_underlying hu,tg,iy hs]
      .rw[h0];split
       .rfl
       cases a with
       |none=>rfl
       |some ad=>simp[add_zero]
      .obtain⟨ad,rfl⟩:=had (by omega);exact⟨ad,rfl,by rw[bQ (by omega)];rfl⟩
      obtain⟨ad,rfl⟩:=had (by omega);exact⟨ad,rfl,by rw[bQ (by omega)];rfl⟩
     cases h
    simp[T.eval]at h
   simp[T.eval]at h
  simp[T.eval]at h
 .rename_i e id c lo' n hu;split at h
  .rename_i e' c' N el hrow;split at h
   .rename_i s l hh hs eB tf;split at h
    .rename_i hcs;obtain⟨rfl,rfl⟩:=hcs;simp only[T.dW,T.eval]at h;split at h
     .rename_i hb;simp only[dN]at hb;simp at h;subst h;rcases cy id with hd|eZ
      .rw[hrow]at hd;cases hd
      rw[hrow]at eZ;obtain⟨rv,xs,hρ,hown,hxs,hel⟩:=eZ;simp only[R,hρ]at hx⊢;obtain⟨a,N',cap,a',h1,h2,rfl,h4,h5,h6⟩:=hx;have hN:N'<=cap:=by
       rcases hown.2 with ⟨rfl,b,hv⟩|⟨g,o,cp,cur,hv,_,hnc,_⟩<;>(rw[h1]at hv;simp only[ba]at hv;omega)
      have tg:=B1 (P:=P) (w:=w) (isS:=true) (len:=n) (cap:=cap-lo') (rV hlo eB) (rV hhi tf) hb.1 hb.2.1 (by omega);refine⟨.slice (if cap-lo'=l.toNat then a' else a'.map (·.add (l.toNat*c'))) (hh.toNat-l.toNat) (cap-lo'-l.toNat),?_,a,N',cap,_,h1,by omega,by rw[show hh.toNat-l.toNat=(hh-l).toNat by omega,show cap-lo'-l.toNat=cap-(lo'+l.toNat) by omega],λh0=>?_,λhp=>?_,λhlt=>?_⟩
      .simp[aD,aI,run_underlying hu,tg,iy hs]
      .rw[show l.toNat=0 by omega,h4 (by omega)];split
       .rfl
       cases a with
       |none=>rfl
       |some ad=>simp[add_zero]
      .obtain⟨ad,rfl,rfl⟩:=h6 (by omega);refine⟨ad,rfl,?_⟩;rw[bQ (by omega),AS,add_add,bG]
      obtain⟨ad,rfl,rfl⟩:=h6 (by omega);refine⟨ad,rfl,?_⟩;rw[bQ (by omega),AS,add_add,bG]
     cases h
    simp[T.eval]at h
   simp[T.eval]at h
  simp[T.eval]at h
 .rename_i m e id off hu;split at h
  .rename_i s hs;split at h
   .rename_i hc;obtain⟨rfl,rfl,hm⟩:=hc;simp only[T.eval,AT]at h;subst h;have hxs:=hx.FZ;obtain⟨ad,rfl⟩:=hxs;have e1:ow=none:=by cases ow with|none=>rfl|some v=>exact hlo.elim
    have e2:uG=none:=by cases uG with|none=>rfl|some v=>exact hhi.elim
    subst e1 e2;refine⟨.slice (some (if m=0 then ad else ad.add (0*1))) (m-0) (m-0),?_,?_⟩
    .simp[aD,aC,aH,run_underlying hu,iy hs]
    simp only[R]at hx⊢;cases hρ:ρ id with
    |blk b=>
     rw[hρ]at hx;simp only[Value.pointer.injEq,AT]at hx⊢;subst hx;refine⟨m,?_,bE _,by unfold maxLen;omega⟩;simp[add_zero]
    |dead=>exact⟨_,_,rfl⟩
    |_=>rw[hρ]at hx;exact hx.elim
   simp[T.eval]at h
  simp[T.eval]at h
 simp[T.eval]at h
theorem amA{bR:List Ob}{t ty:af}{x a':A}{vx:ae}(cy:nc w O ρ bR)(hx:R w O x ρ vx)(h:(K3 P bR t x).eval=some a'):
  ∃v',(az #[t] ty #[vx]).run P w= .ok v' w/\R w O a' ρ v':=by
 unfold K3 at h;split at h
 .rename_i s hu;simp only[R]at hx;subst hx;simp[T.eval]at h;subst h;exact⟨_,by simp[az,run_underlying hu];rfl,by simp[R,goInt]⟩
 .rename_i e c n el hu;simp only[R]at hx;obtain⟨a,cap,rfl,_⟩:=hx;simp[T.eval]at h;subst h;exact⟨_,by simp[az,run_underlying hu];rfl,by simp[R,goInt]⟩
 .rename_i e hu;simp only[R]at hx;obtain⟨_,rfl⟩:=hx;simp[T.eval]at h;subst h;exact⟨_,by simp[az,run_underlying hu];rfl,by simp[R,goInt]⟩
 .rename_i e id hu;split at h
  .rename_i e' c n el hrow;simp[T.eval]at h;subst h;rcases cy id with hd|eZ
   .rw[hrow]at hd;cases hd
   rw[hrow]at eZ;obtain⟨rv,xs,hρ,hown,hxs,hel⟩:=eZ;simp only[R,hρ]at hx⊢;obtain⟨rfl,_⟩:=hx;rcases hown.2 with ⟨rfl,_,rfl⟩|⟨g,o,cap,cur,rfl,_⟩
   .exact⟨_,by simp[az,run_underlying hu];rfl,by simp[goInt]⟩
   exact⟨_,by simp[az,run_underlying hu];rfl,by simp[goInt]⟩
  simp[T.eval]at h
 .rename_i e id c lo n hu;obtain⟨a,cap,rfl⟩:=hx.Ly;simp[T.eval]at h;subst h;exact⟨_,by simp[az,run_underlying hu];rfl,by simp[R,goInt]⟩
 .rename_i e id n hu;obtain⟨a,cap,rfl,_⟩:=hx.F1;simp[T.eval]at h;subst h;exact⟨_,by simp[az,run_underlying hu];rfl,by simp[R,goInt]⟩
 simp[T.eval]at h
theorem amB{t:af}{x h m a':A}{vx vh vm:ae}(hx:R w O x ρ vx)(hh:R w O h ρ vh)(hm:R w O m ρ vm)(h:(K4 P t x h m).eval=some a'):
  ∃v',(aD t vx none (some vh) (some vm)).run P w= .ok v' w/\R w O a' ρ v':=by
 unfold K4 at h;split at h
 .rename_i e k a k' b hu;simp only[R]at hh hm;subst hh;subst hm;split at h
  .rename_i s hs;split at h
   .rename_i hab;obtain⟨rfl,rfl⟩:=hab;have key:∀ (s:Option au) (len cap:Nat),(aD t (.slice s len cap) none (some (.int k 0)) (some (.int k' 0))).run P w= .ok (.slice s 0 0) w:=by
     intro s len cap;simp[aD,aI,run_underlying hu,aH,aN,asIntOf,iy hs]
    split at h
    .simp only[T.eval,AT]at h;subst h;simp only[R]at hx⊢;subst hx;exact⟨_,key _ _ _,rfl⟩
    cases h
   cases h
  cases h
 cases h
theorem Vx{f:Nat->Bool}:∀ {n:Nat},oQ f n=true-> ∀i,i<n->f i=true
 |n+1,h,i,hi=>by
  simp only[oQ,ab]at h;rcases bI i n with h1|h1
  .exact Vx h.1 i h1
  have:i=n:=by omega
  subst this;exact h.2
theorem Vy:∀ (ns:List Int) (s:ByteArray),ns.foldl (λr n=>r.push (UInt8.ofNat n.toNat)) s=⟨(s.data.toList++ns.map λn=>UInt8.ofNat n.toNat).toArray⟩
 |[],s=>by simp
 |n::ns,s=>by
  simp only[bz];rw[Vy ns];simp[ByteArray.push]
theorem LF{s d e:af}{n cap:Nat}{a:Option au}{el:Nat->Nat->A}(hs:P.underlying s=some (.slice e))(he:P.underlying e=some (.int .u8))(hd:P.underlying d=some .string)
  (hb:oQ (λi=>FG (el i 0)) n=true) (hc:0<n-> ∃ad,a=some ad/\ ∀i,i<n-> ∃u,w.cell? (ad.add i)=some u/\R w O (el i 0) b7 u):
  (convert s d (.slice a n cap)).run P w= .ok (.string (bytesOf el n)) w:=by
 rw[run_convert_bytes_string w s d e a n cap hs he hd];have hu:∀ i,i<n-> ∃q,el i 0= .int .u8 q:=by
  intro i hi;have:=Vx hb i hi;unfold FG at this;split at this
  .rename_i q hq;exact⟨q,hq⟩
  cases this
 rcases bL n with hn|hn
 .subst hn;cases a with
  |none=>simp[Conv.bytesToString,bytesOf];rfl
  |some ad=>
   have:=run_bytesToString (P:=P) w ad 0 cap [] (by simp[loadCells,loadCellsFrom]);rw[this];rfl
 obtain⟨ad,rfl,hcell⟩:=hc hn;have hl:=run_loadCells_list (P:=P) w ad (((bh n).map λi=>oP (el i 0)).map (a6 .u8)) (λj v hj=>by
  simp only[List.getElem?_map,AI]at hj;obtain⟨y,⟨x,hx,rfl⟩,rfl⟩:=hj;have LG:j<n:=by
   rcases bI j n with h|h
   .exact h
   rw[bk (by simpa using h)]at hx;cases hx
  rw[List.getElem?_range LG]at hx;cases hx;obtain⟨u,mF,hu2⟩:=hcell j LG;obtain⟨q,hq⟩:=hu j LG;rw[hq]at hu2⊢;simp only[R]at hu2;rw[mF,hu2];rfl)
 simp only[List.length_map,List.length_range]at hl;rw[run_bytesToString (P:=P) w ad n cap _ hl,Vy];have e0:ByteArray.empty.data.toList=[]:=rfl;rw[e0,List.nil_append,bp];rfl
theorem amC{bR:List Ob}{s d:af}{x a':A}{vx:ae}(cy:nc w O ρ bR)(hx:R w O x ρ vx)(h:(oW P bR s d x).eval=some a'):
  ∃v',(convert s d vx).run P w= .ok v' w/\R w O a' ρ v':=by
 unfold oW at h;split at h
 .rename_i k' k hs hd;split at h
  .simp only[R]at hx;subst hx;simp[T.eval]at h;subst h;exact⟨_,by simp[convert,run_underlying hs,run_underlying hd,Conv.intToInt];rfl,by simp[R]⟩
  cases h
 .rename_i hs hd;split at h
  .simp only[R]at hx;subst hx;simp[T.eval]at h;subst h;exact⟨_,by simp[convert,run_underlying hs,run_underlying hd];rfl,by simp[R]⟩
  cases h
 .rename_i e hs hd;split at h
  .rename_i he;split at h
   .simp only[R]at hx;subst hx;simp[T.eval]at h;subst h;have:=LF (P:=P) (w:=w) (O:=O) (n:=0) (cap:=0) (a:=none) (el:=λ_ _=>.dU) hs he hd rfl (λh=>by omega);exact⟨_,this,by simp only[R];rfl⟩
   .rename_i c n el;split at h
    .rename_i hc;subst hc;simp only[T.dW,T.eval]at h;split at h
     .rename_i hb;simp only[AT]at h;subst h;simp only[R]at hx;obtain⟨a,cap,rfl,h1,h2,h3⟩:=hx;refine⟨_,LF (O:=O) hs he hd hb (λhn=>?_),by simp only[R]⟩;obtain⟨ad,rfl,_,hcell⟩:=h3 (by omega);refine⟨ad,rfl,λi hi=>?_⟩;obtain⟨u,hu,_,hr⟩:=hcell i hi 0 (by omega);exact⟨u,by simpa using hu,hr⟩
     cases h
    cases h
   .rename_i id;split at h
    .rename_i e' c n el hrow;split at h
     .rename_i hc;subst hc;simp only[T.dW,T.eval]at h;split at h
      .rename_i hb;simp only[AT]at h;subst h;rcases cy id with fm|eZ
       .rw[hrow]at fm;cases fm
       rw[hrow]at eZ;obtain⟨rv,xs,hρ,hown,hxs,hel⟩:=eZ;simp only[R,hρ]at hx⊢;obtain⟨rfl,_⟩:=hx;have hsh:∃ a cap,vx= .slice a n cap:=by
        rcases hown.2 with ⟨rfl,a,rfl⟩|⟨g,o,cap,cur,rfl,_⟩
        .exact⟨_,_,rfl⟩
        exact⟨_,_,rfl⟩
       obtain⟨a,cap,rfl⟩:=hsh;refine⟨_,LF (O:=O) hs he hd hb (λhn=>?_),rfl⟩;obtain⟨g,o,cap',hv,_,_,hcell⟩:=qI hown hn;simp only[ba]at hv;obtain⟨rfl,_,rfl⟩:=hv;refine⟨_,rfl,λi hi=>?_⟩;obtain⟨u,hu,hr⟩:=hel i hi 0 (by omega);exact⟨u,hcell _ _ (by simpa using hu),hr⟩
      cases h
     cases h
    cases h
   cases h
  cases h
 cases h
theorem amD{op:UnOp}{x a':A}{vx:ae}(hx:R w O x ρ vx)(h:(K0 op x).eval=some a'):
  ∃v',(aU op vx).run P w= .ok v' w/\R w O a' ρ v':=by
 unfold K0 at h;split at h
 all_goals first
  |(simp[T.eval]at h;done)
  |(simp only[R]at hx;subst hx;simp[T.eval]at h;subst h;exact⟨_,by simp[aU,aW];rfl,by simp[R]⟩)
  |(simp only[R]at hx;obtain⟨b,rfl⟩:=hx;simp[T.eval]at h;subst h;exact⟨.bool (!b),by simp[aU],by simp only[R];exact⟨_,rfl⟩⟩)
theorem Vz{mx:Bool}{l:List A}{vs:List ae}{a':A}{ts:Array af}{ty:af}(hx:RL w O l ρ vs)(h:(FH mx l).eval=some a'):
  ∃v',(match mx with|true=>aB ts ty vs.toArray|false=>aA ts ty vs.toArray).run P w= .ok v' w/\R w O a' ρ v':=by
 unfold FH at h;split at h
 .rename_i k a k' b;split at h
  .rename_i hk;subst hk;simp only[RL,R]at hx;obtain⟨v,vs',rfl,rfl,v2,SD,rfl,rfl,rfl⟩:=hx;cases mx
   .simp[T.eval]at h;subst h;exact⟨_,by simp[aA,Builtin.min2];rfl,by simp[R]⟩
   simp[T.eval]at h;subst h;exact⟨_,by simp[aB,Builtin.max2];rfl,by simp[R]⟩
  simp[T.eval]at h
 simp[T.eval]at h
theorem amE{op:ar}{t:af}{k:aq}{a b:Int}{a':A}(hsh:KW op=false)(h:(arith op k a b).eval=some a'):
    ∃v',(binOp op t (.int k a) (.int k b)).run P w= .ok v' w/\R w O a' ρ v':=by
  cases op<;>simp only[arith,KW,T.dW,T.eval]at h hsh<;>first
    |(cases hsh;done)
    | (split at h
       . rename_i hb
         simp only[AT]at h;subst h;refine⟨_,?_,by simp only[R];rfl⟩;simp only[mX,ne_eq]at hb;simp[binOp,Op.intDiv,hb]
       cases h)
    |(simp only[AT]at h;subst h;refine⟨_,?_,by simp only[R];rfl⟩;simp[binOp,aW,Op.intBits,Op.intCmp])
    |(cases h)
theorem amF{op:ar}{t:af}{k k':aq}{a b:Int}{a':A}(h:(KV op k a b).eval=some a'):
    ∃v',(binOp op t (.int k a) (.int k' b)).run P w= .ok v' w/\R w O a' ρ v':=by
  cases op<;>simp only[KV,T.dW,T.eval]at h<;>first
    | (split at h
       . rename_i hb
         simp only[AT]at h;subst h;refine⟨_,?_,by simp only[R];rfl⟩;simp only[dN]at hb;have hb':¬ b<0:=by omega
         simp[binOp,Op.shift,hb']
       cases h)
    |(cases h)
theorem amG{op:ar}{t:af}{a b:ByteArray}{a':A}(h:(KX op a b).eval=some a'):
    ∃v',(binOp op t (.string a) (.string b)).run P w= .ok v' w/\R w O a' ρ v':=by
  cases op<;>simp only[KX,T.dW,T.eval]at h<;>first
    | (split at h
       . rename_i hb
         simp only[AT]at h;subst h;refine⟨_,?_,by simp only[R];rfl⟩;simp only[dN]at hb;have hb':¬ (((a.size+b.size:Nat):Int)>IntKind.i64.max):=by
           have:IntKind.i64.max=9223372036854775807:=by decide
           rw[this];omega
         simp only[binOp,aV,bQ hb',aZ]
       cases h)
    |(simp only[AT]at h;subst h;refine⟨_,?_,by simp only[R];rfl⟩;simp[binOp,aV])
    |(cases h)
theorem amH{op:ar}{t:af}{a b:Bool}{a':A}(hu:P.underlying t=some .bool)(h:(KY op a b).eval=some a'):
  ∃v',(binOp op t (.bool a) (.bool b)).run P w= .ok v' w/\R w O a' ρ v':=by
 have hq:(aT t (.bool a) (.bool b)).run P w= .ok (a==b) w:=run_equalIn_bool w 9999 t a b hu;have h1:(binOp .eql t (.bool a) (.bool b)).run P w= .ok (.bool (a==b)) w:=by
  show((aT t (.bool a) (.bool b) >>= λr=>(pure (.bool r):Sem ae))).run P w=_;rw[aY,hq];rfl
 have h2:(binOp .neq t (.bool a) (.bool b)).run P w= .ok (.bool (!(a==b))) w:=by
  show((aT t (.bool a) (.bool b) >>= λr=>(pure (.bool (!r)):Sem ae))).run P w=_;rw[aY,hq];rfl
 cases op<;>simp only[KY,T.eval]at h<;>first
  |(simp only[AT]at h;subst h;exact⟨_,h1,by simp only[R]⟩)
  |(simp only[AT]at h;subst h;exact⟨_,h2,by simp only[R]⟩)
  |(cases h)
theorem amI{c:CK}{a b:A}{va vb:ae}{x:Bool}(ha:R w O a ρ va)(hb:R w O b ρ vb)(h:KU c a b=some x):rO c va vb=some x:=by
 unfold KU at h;split at h<;>first
  |(simp only[R]at ha hb;subst ha;subst hb;simpa[rO]using h)
  |(cases h)
theorem VA:∀ {cs:List CK} {l m:List A} {vs us:List ae} {x:Bool},RL w O l ρ vs->RL w O m ρ us->sW cs l m=some x->iL cs vs us=some x
 |[],[],[],vs,us,x,h1,h2,h=>by
  simp only[RL]at h1 h2;subst h1;subst h2;simpa[sW,iL]using h
 |c::cs,a::l,b::m,vs,us,x,h1,h2,h=>by
  simp only[RL]at h1 h2;obtain⟨v,vs',rfl,ha,hl⟩:=h1;obtain⟨u,F2,rfl,hb,hm⟩:=h2;simp only[sW]at h;split at h
  .rename_i p q hp hq;simp only[iL,amI ha hb hp,VA hl hm hq];exact h
  cases h
 |[],[],_::_,_,_,_,_,_,h=>by simp[sW]at h
 |[],_::_,_,_,_,_,_,_,h=>by simp[sW]at h
 |_::_,[],_,_,_,_,_,_,h=>by simp[sW]at h
 |_::_,_::_,[],_,_,_,_,_,h=>by simp[sW]at h
structure F7(P:al)(k:af)(ag:Bool)(n:Nat):Prop where
 one:ag=false->n=1
 check:∀ (w:ak) (em:Bool) (q:List Int),q.length=n->(Instr.checkKey em 10000 k (ep ag q)).run P w= .ok () w
 find:∀ (w:ak) (q:List Int) (es:List ay),q.length=n->(∀e∈es,∃ q',q'.length=n/\e.key=ep ag q')->
  ((aO k (ep ag q) es).run P w= .ok none w/\ ∀e∈es,e.key≠ep ag q)\/ ∃j e,(aO k (ep ag q) es).run P w= .ok (some (j,e.val)) w/\es[j]? =some e/\e.key=ep ag q
def ib(E:Env):Prop:=(∀t ks,E.lJ t=some ks->E.P.eqGuardType E.P.depth t=false/\
 ∀(xs ys:List ae) (b:Bool) (w:ak),iL ks xs ys=some b->(aR 10000 t (.agg xs.toArray) (.agg ys.toArray)).run E.P w= .ok b w)/\
 ∀t ag n,E.nO t=some (ag,n)-> ∃k e,E.P.underlying t=some (.map k e)/\F7 E.P k ag n
theorem run_equal_slice_nil(P:al)(w:ak)(t e:af)(a:Option au)(l c:Nat)(h:P.underlying t=some (.slice e)):(aT t (.slice a l c) (.slice none 0 0)).run P w= .ok a.isNone w:=by
 have:∀ d:Nat,(aR (d+1) t (.slice a l c) (.slice none 0 0)).run P w= .ok a.isNone w:=λd=>by cases a<;>simp[aR,run_underlying h]
 exact this 9999
def LH:ae->Bool
 | .slice none _ _=>true
 |_=>false
theorem F8{E:Env}{op:ar}{t:af}{a' yes no:A}{px py:aj}{vx vy:ae}(hy:R w O .bN ρ vy)(hs:∃ a n c,vx= .slice a n c)(hr:∀ _:Bool,R w O yes ρ (.bool (LH vx))/\R w O no ρ (.bool (!(LH vx))))(h:(yH E op t yes no).eval=some a'):
  ∃v',((do eqGuard op t px py vx vy;binOp op t vx vy:Sem ae)).run E.P w= .ok v' w/\R w O a' ρ v':=by
 obtain⟨a,n,c,rfl⟩:=hs;simp only[R]at hy;subst hy;have hg:eqGuard op t px py (.slice a n c) (.slice none 0 0)=pure ():=by cases op<;>rfl
 simp only[hg,aY,aZ,aX];have hm:LH (.slice a n c)=a.isNone:=by cases a<;>rfl
 rw[hm]at hr;unfold yH at h;split at h
 .rename_i e hu;split at h
  .simp only[T.eval,AT]at h;subst h;refine⟨.bool a.isNone,?_,(hr true).1⟩;simp only[binOp,aY,run_equal_slice_nil E.P w t e a n c hu,aX,aZ]
  .simp only[T.eval,AT]at h;subst h;refine⟨.bool (!a.isNone),?_,(hr true).2⟩;simp only[binOp,aY,run_equal_slice_nil E.P w t e a n c hu,aX,aZ]
  cases h
 cases h
theorem VB(P:al)(w:ak)(t e:af)(a:Option au)(h:P.underlying t=some (.pointer e)):(aT t (.pointer a) (.pointer none)).run P w= .ok a.isNone w:=by
 have:∀ d:Nat,(aR (d+1) t (.pointer a) (.pointer none)).run P w= .ok a.isNone w:=λd=>by cases a<;>simp[aR,run_underlying h]
 exact this 9999
theorem F9{E:Env}{op:ar}{t:af}{a':A}{px py:aj}{vx vy:ae}{b:Bool}(hy:R w O .kh ρ vy)(hs:∃ a:Option au,vx= .pointer a/\a.isNone=b)(h:(FF E op t b).eval=some a'):
  ∃v',((do eqGuard op t px py vx vy;binOp op t vx vy:Sem ae)).run E.P w= .ok v' w/\R w O a' ρ v':=by
 obtain⟨a,rfl,rfl⟩:=hs;simp only[R]at hy;subst hy;have hg:eqGuard op t px py (.pointer a) (.pointer none)=pure ():=by cases op<;>rfl
 simp only[hg,aY,aZ,aX];unfold FF at h;split at h
 .rename_i e hu;split at h
  .simp only[T.eval,AT]at h;subst h;refine⟨.bool a.isNone,?_,by simp only[R]⟩;simp only[binOp,aY,VB E.P w t e a hu,aX,aZ]
  .simp only[T.eval,AT]at h;subst h;refine⟨.bool (!a.isNone),?_,by simp only[R]⟩;simp only[binOp,aY,VB E.P w t e a hu,aX,aZ]
  cases h
 cases h
theorem amJ{id off:Nat}{v:ae}(h:R w O (.ptr id off) ρ v):∃ a:Option au,v= .pointer a/\a.isNone=false:=by
 simp only[R]at h;split at h
 .exact⟨_,h,rfl⟩
 .obtain⟨ad,h⟩:=h;exact⟨_,h,rfl⟩
 exact h.elim
theorem amK{id c i off:Nat}{v:ae}(h:R w O (.rp id c i off) ρ v):∃ a:Option au,v= .pointer a/\a.isNone=false:=by
 simp only[R]at h;split at h
 .obtain⟨ad,n,cap,_,h⟩:=h;exact⟨_,h,rfl⟩
 .obtain⟨ad,h⟩:=h;exact⟨_,h,rfl⟩
 exact h.elim
theorem amL{E:Env}(hE:ib E){op:ar}{t:af}{x y a':A}{px py:aj}{vx vy:ae}(hx:R w O x ρ vx)(hy:R w O y ρ vy)(h:(KZ E op t x y).eval=some a'):
  ∃v',((do eqGuard op t px py vx vy;binOp op t vx vy:Sem ae)).run E.P w= .ok v' w/\R w O a' ρ v':=by
 unfold KZ at h;split at h
 .rename_i k a k' b;simp only[R]at hx hy;subst hx;subst hy;have hg:eqGuard op t px py (.int k a) (.int k' b)=pure ():=by cases op<;>rfl
  simp only[hg,aY,aZ,aX];split at h
  .exact amF h
  rename_i hsh;split at h
  .rename_i hk;subst hk;exact amE hsh h
  cases h
 .rename_i a b;simp only[R]at hx hy;subst hx;subst hy;have hg:eqGuard op t px py (.string a) (.string b)=pure ():=by cases op<;>rfl
  simp only[hg,aY,aZ,aX];exact amG h
 iterate 4
  rename_i a b;simp only[R]at hx hy;subst hx;subst hy;have hg:eqGuard op t px py (.bool a) (.bool b)=pure ():=by cases op<;>rfl
  simp only[hg,aY,aZ,aX];split at h
  .rename_i hu;exact amH hu h
  cases h
 .rename_i l m;simp only[R]at hx hy;obtain⟨vs,rfl,hl⟩:=hx;obtain⟨us,rfl,hm⟩:=hy;split at h
  .rename_i ks hks;obtain⟨hgt,heq⟩:=hE.1 t ks hks;split at h
   .rename_i b hb;have hrun:=heq vs us b w (VA hl hm hb);simp only[aY,run_eqGuard_agg w op t px py _ _ hgt,aX];split at h
    .simp only[T.eval,AT]at h;subst h;exact⟨_,by rw[run_eql_struct,hrun];rfl,by simp only[R]⟩
    .simp only[T.eval,AT]at h;subst h;exact⟨_,by rw[run_neq_struct,hrun];rfl,by simp only[R]⟩
    cases h
   cases h
  cases h
 .exact F8 hy (by simp only[R]at hx;exact⟨_,_,_,hx⟩) (λhx'=>by simp only[R]at hx;rw[hx];exact⟨by simp only[R];rfl,by simp only[R];rfl⟩) h
 .rename_i c n el;simp only[R]at hx;obtain⟨a,cap,rfl,h1,h2,h3⟩:=hx;split at h
  .rename_i hc;simp only[T.eval]at h;split at h
   .exact F8 hy ⟨_,_,_,rfl⟩ (λa=>⟨by simp only[R];exact⟨_,rfl⟩,by simp only[R];exact⟨_,rfl⟩⟩) h
   rename_i hn;simp only[gU]at hn;obtain⟨ad,rfl,_⟩:=h3 (bF (Nat.pos_of_ne_zero hn) hc);exact F8 hy ⟨_,_,_,rfl⟩ (λa=>⟨by simp only[R];rfl,by simp only[R];rfl⟩) h
  cases h
 .exact F8 hy (by obtain⟨a,n,c,rfl⟩:=hx.Lw;exact⟨_,_,_,rfl⟩) (λa=>⟨by simp only[R];exact⟨_,rfl⟩,by simp only[R];exact⟨_,rfl⟩⟩) h
 .exact F9 hy (by simp only[R]at hx;exact⟨_,hx,rfl⟩) h
 .exact F9 hy (by simp only[R]at hx;obtain⟨ad,h,_⟩:=hx;exact⟨_,h,rfl⟩) h
 .exact F9 hy (amJ hx) h
 .exact F9 hy (amK hx) h
 cases h
theorem oY{ev:aj->A}{va:aj->ae}(cW:∀ x,R w O (ev x) ρ (va x)):∀ l:List aj,RL w O (kX ev l) ρ (l.map va)
 |[]=>by simp[kX,RL]
 |x::l=>by simp only[kX,RL,bl];exact⟨_,_,rfl,cW x,oY cW l⟩
theorem LI{a:A}{v:ae}{cs:List A}(h:R w O a ρ v)(hc:cellsOf a=some cs):RL w O cs ρ v.cells.toList:=by
 cases a with
 |agg l=>
  simp[cellsOf]at hc;subst hc;simp only[R]at h;obtain⟨vs,rfl,h⟩:=h;simpa[a8]using h
 |cG l=>simp[cellsOf]at hc
 |dU=>simp[cellsOf]at hc
 |_=>
  have h1:=h.cell_of rfl;simp only[cellsOf,AT]at hc;subst hc;have e:v.cells= #[v]:=by cases v<;>simp_all [a8,a7]
  rw[e];simp only[RL];exact⟨v,[],rfl,h,rfl⟩
theorem VC(cells:Array ae)(off:Nat):∀ (vs:List ae) (k:Nat),off+k+vs.length<=cells.size->
  ((vs.zipIdx k).foldl (λcs (c,j)=>cs.setIfInBounds (off+j) c) cells)=(cells.toList.take (off+k)++vs++cells.toList.drop (off+k+vs.length)).toArray
 |[],k,h=>by simp
 |v::vs,k,h=>by
  simp only[List.zipIdx_cons,bz];rw[VC (cells.setIfInBounds (off+k) v) off vs (k+1) (by simp at h ⊢;omega)];congr 1;simp only[Array.toList_setIfInBounds,List.length_cons];have h':off+k+(vs.length+1)<=cells.size:=by simpa using h
  have hz:cells.toList.length=cells.size:=by simp
  have l1:(br (off+(k+1)) (cells.toList.set (off+k) v)).length=off+k+1:=by simp;omega
  have l2:(br (off+k) cells.toList).length=off+k:=by simp;omega
  have hd:bB (off+(k+1)+vs.length) (cells.toList.set (off+k) v)=bB (off+k+(vs.length+1)) cells.toList:=by
   rw[List.drop_set,bS (by omega)];congr 1;omega
  rw[hd];apply List.ext_getElem?;intro i;rw[bw,bw];rcases Nat.lt_trichotomy i (off+k)with hi|hi|hi
  .rw[bg (by omega),bg (by omega)];rw[bj (by omega),bj (by omega),List.getElem?_set_ne (by omega)]
  .subst hi;rw[bg (by omega),bj (by omega),List.getElem?_set_self (by omega)];rw[bd (by omega),l2];simp
  rw[bd (l₁:=br (off+(k+1)) (cells.toList.set (off+k) v)) (by omega),bd (l₁:=br (off+k) cells.toList) (by omega),l1,l2];rw[bx,show i-(off+k)=(i-(off+k+1))+1 by omega,List.getElem?_cons_succ]
theorem B2{place:Nat->Option (Nat×Nat)}:∀ {ps:List (Nat×A)} {uH:List (Nat×ae)} {cells cs:List A} {vs:List ae},
  (ps.map (·.1)=uH.map (·.1)/\RL w O (ps.map (·.2)) ρ (uH.map (·.2)))->RL w O cells ρ vs->wy place cells ps=some cs->
  ∃us,aQ place (bc vs) uH=some (bc us)/\RL w O cs ρ us
 |[],uH,cells,cs,vs,hp,hc,h=>by
  simp[wy]at h;subst h;have:uH=[]:=by have:=hp.1;simpa using this.symm
  subst this;exact⟨vs,rfl,hc⟩
 |(i,a)::ps,uH,cells,cs,vs,hp,hc,h=>by
  cases uH with
  |nil=>simp at hp
  |cons vp uH=>
   obtain⟨i',v⟩:=vp;simp only[bl,List.cons.injEq,RL]at hp;obtain⟨⟨rfl,hp1⟩,v',vs',⟨rfl,rfl⟩,hr,hp2⟩:=hp;simp only[wy]at h;split at h
   .rename_i off size acs nU amM;split at h
    .rename_i hsz;split at h
     .rename_i c' B3;have hcells:=LI hr amM;have hlen:=hcells.len;rcases RL.oo hc hcells B3 with ⟨h5,h6⟩|⟨rfl,rfl⟩
      .obtain⟨us,hf,hu⟩:=B2 ⟨hp1,hp2⟩ h5 h;refine⟨us,?_,hu⟩;simp only[aQ,nU];have e1:v.cells.size=size:=by rw[<-hsz.1,<- hlen];simp
       rw[bQ (by simp[e1]at h6 ⊢;omega)];rw[<-hf];congr 1;have:=VC (bc vs) off v.cells.toList 0 (by simpa using h6);rw[<-Array.foldl_toList,Array.toList_zipIdx];simpa using this
      simp at hsz;omega
     cases h
    cases h
   cases h
theorem uI{t:af}{z:List A}(h:zeroCells P t=some z):∃ i v,P.info? t=some i/\i.zero=some v/\RL w O z ρ v.cells.toList:=by
 unfold zeroCells at h;split at h
 .rename_i i hi;split at h
  .rename_i v hv;simp at h;subst h;exact⟨i,v,hi,hv,LA w O ρ _⟩
  cases h
 cases h
theorem B4{ev:aj->A}{va:aj->ae}(cW:∀ x,R w O (ev x) ρ (va x)):∀ l:List (Nat×aj),
  (qF ev l).map (·.1)=(l.map λp=>(p.1,va p.2)).map (·.1)/\RL w O ((qF ev l).map (·.2)) ρ ((l.map λp=>(p.1,va p.2)).map (·.2))
 |[]=>by simp[qF,RL]
 |(i,x)::l=>by
  obtain⟨h1,h2⟩:=B4 cW l;simp only[qF,bl,h1,RL,pB];exact⟨_,_,rfl,cW x,h2⟩
theorem VD(w:ak):∀ (fs:List Field) (pl:List (Nat×Nat)),placesOf P fs=some pl->(fs.mapM λf=>Functor.map (Prod.mk f.offset) (sizeOf f.type)).run P w= .ok pl w
 |[],pl,h=>by simp[placesOf]at h;subst h;simp
 |f::fs,pl,h=>by
  simp only[placesOf]at h;split at h
  .rename_i i m hi hm;simp at h;subst h;have hs:(sizeOf f.type).run P w= .ok i.size w:=by simp[sizeOf,typeInfo,hi]
   simp[List.mapM_cons,hs,VD w fs m hm]
  cases h
theorem amN{t:af}{parts:Array (Nat×aj)}{ev:aj->A}{va:aj->ae}{a':A}{E:Env}{bR:List Ob}(cW:∀ x,R w O (ev x) ρ (va x))
  (h:(dZ E bR (.build t parts) ev).eval=some a'):∃ v',(aM t (parts.map λ(i,x)=>(i,va x))).run E.P w= .ok v' w/\R w O a' ρ v':=by
 have yU:(parts.map λ(i,x)=>(i,va x)).toList=parts.toList.map λp=>(p.1,va p.2):=by simp
 simp only[dZ]at h;split at h
 .rename_i fs z hu hz;obtain⟨i,v,hi,hv,hr⟩:=uI (w:=w) (O:=O) (ρ:=ρ) hz;split at h
  .rename_i pl nU;split at h
   .rename_i cs hcs;simp[T.eval]at h;subst h;obtain⟨us,hf,gN⟩:=B2 (B4 cW parts.toList) hr hcs;refine⟨.agg us.toArray,?_,by simp only[R];exact⟨us,rfl,gN⟩⟩;simp only[Array.toArray_toList,F5]at hf;have hm:(fs.mapM λf=>(do pure (f.offset,<- sizeOf f.type):Sem (Nat×Nat))).run E.P w= .ok pl.toArray w:=by
     rw[Array.mapM_eq_mapM_toList];simp[VD w fs.toList pl nU]
    simp only[aM,aY,zeroValue,typeInfo,run_program,hi,hv,aZ,aX,run_underlying hu,hm,yU,List.getElem?_toArray,hf]
   cases h
  cases h
 .rename_i len e z hu hz;obtain⟨i,v,hi,hv,hr⟩:=uI (w:=w) (O:=O) (ρ:=ρ) hz;split at h
  .rename_i s hs;split at h
   .rename_i cs hcs;simp[T.eval]at h;subst h;obtain⟨us,hf,gN⟩:=B2 (B4 cW parts.toList) hr hcs;refine⟨.agg us.toArray,?_,by simp only[R];exact⟨us,rfl,gN⟩⟩;simp only[Array.toArray_toList]at hf;simp only[aM,aY,zeroValue,typeInfo,run_program,hi,hv,aZ,aX,run_underlying hu,iy hs,yU,hf]
   cases h
  cases h
 cases h
theorem VE{ev:aj->A}{va:aj->ae}(cW:∀ x,R w O (ev x) ρ (va x))(x:Option aj):
  match pK ev x,x.map va with|none,none=>True|some a,some v=>R w O a ρ v|_,_=>False:=by
 cases x with
 |none=>trivial
 |some x=>exact cW x
theorem qJ{s:Sem ae}{v:ae}(h:s.run P w= .ok v w):((do pure (.value (<-s)):Sem Next)).run P w= .ok (.value v) w:=by
 simp[h]
theorem amO{E:Env}(hE:ib E){bR:List Ob}{o:ai}{ev:aj->A}{va:aj->ae}{a':A}(cW:∀ x,R w O (ev x) ρ (va x))(cy:nc w O ρ bR)(hnl:∀ t m q ok,o.op≠ .lookup t m q ok)
  (h:(dZ E bR o.op ev).eval=some a'):∃ v',(execOp va o).run E.P w= .ok (.value v') w/\R w O a' ρ v':=by
 obtain⟨dst,op,type,pos,after,guard⟩:=o;simp only at h;cases op with
 |lookup t m q ok=>exact dP rfl (hnl t m q ok)
 |move x=>simp[dZ,T.eval]at h;subst h;exact⟨_,by simp[execOp],cW x⟩
 |assign x=>simp[dZ,T.eval]at h;subst h;exact⟨_,by simp[execOp],cW x⟩
 |pick c x y=>
  have hc:=cW c;simp only[dZ]at h;split at h
  .rename_i q hq;rw[hq]at hc;simp only[R]at hc;simp only[T.eval]at h;cases q<;>simp only[AT]at h<;>subst h
   .exact⟨_,by simp[execOp,hc,asBool],cW y⟩
   exact⟨_,by simp[execOp,hc,asBool],cW x⟩
  .rename_i hq;rw[hq]at hc;simp only[R]at hc;simp only[T.eval,AT]at h;subst h;exact⟨_,by simp[execOp,hc,asBool],cW x⟩
  .rename_i hq;rw[hq]at hc;simp only[R]at hc;simp only[T.eval,AT]at h;subst h;exact⟨_,by simp[execOp,hc,asBool],cW y⟩
  cases h
 |build t parts=>
  obtain⟨v,hv,hr⟩:=amN cW h;exact⟨v,qJ hv,hr⟩
 |load t a=>
  obtain⟨v,hv,hr⟩:=J9 cy (cW a) h;exact⟨v,qJ hv,hr⟩
 |binOp op t x y yt=>
  obtain⟨v,hv,hr⟩:=amL hE (px:=x) (py:=y) (cW x) (cW y) h;exact⟨v,qJ hv,hr⟩
 |unOp op t x=>
  obtain⟨v,hv,hr⟩:=amD (P:=E.P) (cW x) h;exact⟨v,qJ hv,hr⟩
 |convert s d x=>
  obtain⟨v,hv,hr⟩:=amC cy (cW x) h;exact⟨v,qJ hv,hr⟩
 |makeFunc fn first fN=>
  cases fn with
  |func f=>
   obtain⟨first⟩:=first
   cases first with
   |nil=>
    simp only[dZ,T.eval,AT]at h;subst h;refine⟨.func (.func f) #[] (bc (fN.toList.map va)),by simp[execOp,aJ];rw[<-Array.toList_map],?_⟩;simp only[R];exact⟨_,rfl,oY cW _⟩
   |cons x l=>
    cases l with
    |cons y l=>simp[dZ,T.eval]at h
    |nil=>
     obtain⟨fN⟩:=fN;cases fN with
     |cons y l=>simp[dZ,T.eval]at h
     |nil=>
      simp only[dZ]at h;have hx:=cW x;split at h
      .rename_i id off heq;simp only[T.eval,AT]at h;subst h;rw[heq]at hx;refine⟨.func (.func f) #[va x] #[],by simp[execOp,aJ],?_⟩;simp only[R]at hx⊢;split at hx
       .rw[hx]
       .obtain⟨ad,hx⟩:=hx;exact⟨ad,by rw[hx]⟩
       exact hx.elim
      .rename_i l heq;simp only[T.eval,AT]at h;subst h;rw[heq]at hx;refine⟨.func (.func f) #[va x] #[],by simp[execOp,aJ],?_⟩;simp only[R]at hx⊢;obtain⟨vs,hx,hl⟩:=hx;exact⟨vs,by rw[hx],hl⟩
      simp[T.eval]at h
  |_=>simp[dZ,T.eval]at h
 |slice t x lo hi mx=>
  cases mx with
  |none=>
   obtain⟨v,hv,hr⟩:=amz cy (cW x) (VE cW lo) (VE cW hi) h;exact⟨v,qJ hv,hr⟩
  |some m=>
   cases lo with
   |some l=>simp[dZ,T.eval]at h
   |none=>
    cases hi with
    |none=>simp[dZ,T.eval]at h
    |some hh=>
     simp only[dZ]at h;obtain⟨v,hv,hr⟩:=amB (cW x) (cW hh) (cW m) h;exact⟨v,qJ hv,hr⟩
 |fieldAddr s x f=>
  simp only[dZ]at h;split at h
  .rename_i off hoff;obtain⟨v,hv,hr⟩:=amu (cW x) hoff h;exact⟨v,qJ hv,hr⟩
  cases h
 |indexAddr t x i=>
  obtain⟨v,hv,hr⟩:=amw cy (cW x) (cW i) h;exact⟨v,qJ hv,hr⟩
 |index t x i=>
  obtain⟨v,hv,hr⟩:=amy (cW x) (cW i) h;exact⟨v,qJ hv,hr⟩
 |field t x f=>
  obtain⟨v,hv,hr⟩:=amx (cW x) h;exact⟨v,qJ hv,hr⟩
 |extract x i=>
  have hx:=cW x;simp only[dZ]at h;split at h
  .rename_i l hl;rw[hl]at hx;simp only[R]at hx;obtain⟨vs,hv,hr⟩:=hx;split at h
   .rename_i a rest hd;simp only[T.eval,AT]at h;subst h;have h1:=RL.drop i hr;rw[hd]at h1;simp only[RL]at h1;obtain⟨u,us,hu,h2,_⟩:=h1;have hv':vs[i]? =some u:=by
     have:(vs.drop i)[0]? =some u:=by rw[hu];rfl
     simpa using this
    exact⟨u,by simp[execOp,hv,Instr.extract,hv'],h2⟩
   cases h
  cases h
 |nilCheck x=>
  have hx:=cW x;simp only[dZ]at h;split at h
  .rename_i id off hl;rw[hl]at hx;simp only[T.eval,AT]at h;subst h;obtain⟨ad,he⟩:=hx.FZ;exact⟨va x,by simp[execOp,he],hx⟩
  .rename_i c el hl;rw[hl]at hx;simp only[T.eval,AT]at h;subst h;have hx':=hx;simp only[R]at hx';obtain⟨ad,he,_⟩:=hx';exact⟨va x,by simp[execOp,he],hx⟩
  .rename_i id c i off hl;rw[hl]at hx;simp only[T.eval,AT]at h;subst h;obtain⟨ad,he⟩:=hx.Lx;exact⟨va x,by simp[execOp,he],hx⟩
  .rename_i f l hl;rw[hl]at hx;simp only[T.eval,AT]at h;subst h;have hx':=hx;simp only[R]at hx';obtain⟨vs,he,_⟩:=hx';exact⟨va x,by simp[execOp,he],hx⟩
  cases h
 |call c=>
  obtain⟨callee,⟨args⟩,⟨ts⟩⟩:=c;cases callee with
  |value f=>simp[dZ,T.eval]at h
  |invoke r m=>simp[dZ,T.eval]at h
  |builtin b=>
   cases b with
   |len=>
    match args,ts,h with
    |[x],[t],h=>
     simp only[dZ]at h;obtain⟨v,hv,hr⟩:=amA (ty:=type) cy (cW x) h;exact⟨v,by simp[execOp,resolve,invoke,builtin,hv],hr⟩
    |[],_,h=>simp[dZ,T.eval]at h
    |_::_::_,_,h=>simp[dZ,T.eval]at h
    |[_],[],h=>simp[dZ,T.eval]at h
    |[_],_::_::_,h=>simp[dZ,T.eval]at h
   |min=>
    simp only[dZ]at h;obtain⟨v,hv,hr⟩:=Vz (P:=E.P) (ts:=⟨ts⟩) (ty:=type) (oY cW args) h;exact⟨v,by simp only at hv;simp[execOp,resolve,invoke,builtin,hv],hr⟩
   |max=>
    simp only[dZ]at h;obtain⟨v,hv,hr⟩:=Vz (P:=E.P) (ts:=⟨ts⟩) (ty:=type) (oY cW args) h;exact⟨v,by simp only at hv;simp[execOp,resolve,invoke,builtin,hv],hr⟩
   |_=>simp[dZ,T.eval]at h
 |_=>simp[dZ,T.eval]at h
end
end Go.Sy
