import Derived.Test.YtjhmdfofhnijeaaGreatDoorN1
import Derived.Lib.AppendStr
import Derived.Lib.UnsafeStr
import Derived.WalkKit
import Derived.BigCall
open BitVec renaming ofInt->aa, toNat_ofInt->ab, toNat_xor->ae
open Bool renaming and_eq_true->af, or_eq_true->ai, not_eq_true'->aj, not_eq_false->ak
open ByteArray renaming size_append->al, data_append->aq
open Go renaming World->ar, Value->au, Calls->av
open Go.IntKind renaming u32->ay, u8->az, i64->aA
open Go.Lib renaming strCells->aB, IsBuilder->aC, strCells_length->aD, strCells_eq->aF, cell_of_heap->aG, BuilderAt->aH, fresh_isBuilder->aI, byteCells->aJ
open Go.Proofs.Tryz renaming prog->aK, underlying511->aL, func337->aM, underlying654->aN, ntmps396->aO, func396->aP, TL->aQ
open Go.Result renaming andThen_ok->aR, andThen->aS
open Go.Sem renaming run_pure->aT, run_bind->aU
open Inhabited renaming default->aV
open Int renaming natCast_nonneg->aW, fdiv_eq_ediv_of_nonneg->aX, natCast_ediv->aY, toNat->aZ
open List renaming mem_append->a6, length_append->a7, mem_append_right->a8, not_mem_nil->ba, mem_cons->bc, mem_cons_of_mem->bd, mem_append_left->bg, flatMap_append->bh, mem_cons_self->bj, mem_of_mem_take->bk, mem_singleton->bl, flatMap_cons->bn, append_assoc->bp, take_length->bq, length_take->br, length_cons->bu, ext_getElem->bw, append_nil->bx, getD->bz
open Nat renaming mod_two_eq_zero_or_one->bA, pow_succ->bB, le_refl->bD, div_div_eq_div_mul->bE, zero_add->bF, zero_le->bG, mul_comm->bH, lt_or_ge->bI, lt_of_lt_of_le->bJ, not_lt_zero->bK, pow_zero->bL, add_zero->bM, div_one->AI
open Prod.mk renaming injEq->AS
set_option linter.all false
namespace Go.Proofs
open Go.RowKit
theorem Tryz.bX:Builder.Extra aK Tryz.TK where
 sizeBuilder:=by kernel_rfl
 liesBuilder:=by kernel_rfl
 t5:=Tryz.underlying5
 a5:=Tryz.isAgg5
 z5:=Tryz.sizeOf5
 v5:=Tryz.zeroValue5
 infoByte:=by kernel_rfl
 cellsByte:=by kernel_rfl
 sizeByte:=by kernel_rfl
 neB5:=by decide
set_option maxHeartbeats 1000000 in
set_option maxRecDepth 100000 in
theorem Tryz.aj7(B b:Nat)(xs:List au)(w:ar)(h:aC 514 5 B b xs w):
  av aK 396 #[.pointer (some ⟨b,0,none⟩)] w λe w'=>e= .returned (.tuple #[])/\aH 514 5 B b (.pointer (some ⟨b,0,none⟩)) xs w'/\Below B w w':=by
 obtain⟨j,hj,hjs⟩:=Option.map_eq_some_iff.1 Tryz.bX.sizeBuilder;have u70:=aL;rcases h with h|h
 .have h0:=h.cell0;have hsh:=h.shape;have hfz:=h.frozen0
  go_enter aP,aO
  go_wp2
  rw[Lib.run_to_unsafe w ⟨b,0,none⟩ aL aN hj (by rw[hjs];decide) hsh (Nat.zero_lt_succ 1)];simp only[aS];rw[Oper.upon_value]
  go_wp2
  rw[run_callFunc_extern Tryz.func462 (by kernel_rfl) (by kernel_rfl) (by kernel_rfl) (e:=Extern.AbiNoEscape.same) (by kernel_rfl)];rw[Lib.run_noEscape];simp only[aS];rw[Oper.upon_value]
  go_wp2
  rw[Lib.run_from_unsafe w ⟨b,0,none⟩ aN aL hj hsh Tryz.bX.liesBuilder];simp only[aS];rw[Oper.upon_value]
  go_wp2
  go_end0
  exact⟨rfl,h.used _,(Below.refl B w).setCell (p:=⟨b,0,none⟩) h.1 _⟩
 have h0:=h.cell0
 go_enter aP,aO
 go_wp2
 rw[Lib.run_neq_ptr_same w _ aL hj]
 go_wp2
 go_end0
 exact⟨rfl,h,Below.refl B w⟩
set_option maxHeartbeats 2000000 in
set_option maxRecDepth 100000 in
theorem Tryz.JU(B b:Nat)(xs:List au)(s:ByteArray)(w:ar)(h:aC 514 5 B b xs w)(hlen:xs.length+s.size<=140737488355328)(hBw:B<=w.heap.size):
  av aK 336 #[.pointer (some ⟨b,0,none⟩),.string s] w λe w'=>e= .returned (.tuple #[.int .i64 s.size,.nilIface])/\aH 514 5 B b (.pointer (some ⟨b,0,none⟩)) (xs++aB s) w'/\Below B w w':=by
 obtain⟨i0,hi,hz0,hz1,hz2⟩:=info_parts Tryz.bX.infoByte
 go_enter Tryz.func336,Tryz.ntmps336
 go_wp2_with (go_at_call 396;refine(Tryz.aj7 B b xs _ h).mono ?_)
 rintro e w1 ⟨rfl,h1,hb1⟩;obtain⟨hB,v,hbk,hown,hne⟩:=h1;have c0:w1.cell? ⟨b,0,none⟩=some (.pointer (some ⟨b,0,none⟩)):=by rw[aG hbk];rfl
 have c1:w1.cell? ⟨b,1,none⟩=some v:=by rw[aG hbk];rfl
 go_wp2_with (at_builtin;refine Lib.wpList_append_own_string _ rfl _ _ 512 9 rfl B 5 i0 Tryz.underlying512 Tryz.underlying9 hi hz0 hz1 hz2 _ _ _ rfl hown s rfl ?c3 ?c4 ?c5 ?_)
 case c3=>unfold maxLen;omega
 case c4=>omega
 case c5=>have:=hb1.size;omega
 intro v' w2 hown' hgrow _;have hlt:b<w1.heap.size:=by
  rcases bI b w1.heap.size with h'|h'
  .exact h'
  simp[Array.getElem?_eq_none h']at hbk
 have hb2:w2.heap[b]? =some (.cells #[.pointer (some ⟨b,0,none⟩),v] 514 (0,0)):=by
  rw[hgrow.block b hlt (λe=>hne e.symm)];exact hbk
 have d0:w2.cell? ⟨b,0,none⟩=some (.pointer (some ⟨b,0,none⟩)):=by rw[aG hb2];rfl
 have d1:w2.cell? ⟨b,1,none⟩=some v:=by rw[aG hb2];rfl
 have f1:w2.frozen? ⟨b,1,none⟩=false:=Lib.frozen_of_heap hb2 1;obtain⟨ao,n',cap,rfl⟩:∃ ao n' cap,v'= .slice ao n' cap:=by
  rcases hown'.2 with ⟨hv,_⟩|⟨g,cap,cur,hv,_⟩
  .exact⟨_,_,_,hv⟩
  exact⟨_,_,_,hv⟩
 go_wp2
 go_ret2
 refine⟨rfl,?_,?_⟩
 .exact aH.put (T:=514) (e:=5) hB hb2 (bs':=xs++aB s) (by simpa[aD]using hown') Tryz.bX.neB5
 exact(hb1.grown hgrow (by have:=hb1.size;omega) (λk hk=>(hown.lt k hk).1)).setCell (p:=⟨b,1,none⟩) hB _
end Go.Proofs
namespace Go.Mb
open Go.Sy
section
variable {α:Type} [Inhabited α]
end
structure jQ where
 source:Int
 created:Int
 seq:Int
 off:Int
 total:Int
structure jj where
 gp:Int
 id:jQ
 dest:Int
 my:Int
 prio:Int
 jR:Bool
 data:ByteArray
structure gm where
 kind:Int
 item:jj
 id:jQ
 gp:Int
 time:Int
structure TM where
 items:List jj
 inbox:List jj
def jQ.zero:jQ:=⟨0,0,0,0,0⟩
def jj.zero:jj:=⟨0,.zero,0,0,0,false,⟨#[]⟩⟩
def gm.zero:gm:=⟨0,.zero,.zero,0,0⟩
instance:Inhabited jQ:=⟨.zero⟩
instance:Inhabited jj:=⟨.zero⟩
instance:Inhabited gm:=⟨.zero⟩
def jQ.cells(x:jQ):List A:=[.int .i64 x.source,.int .i64 x.created,.int .i64 x.seq,.int .i64 x.off,.int .i64 x.total]
def jj.cells(x:jj):List A:=[.int .i64 x.gp,.int .i64 x.id.source,.int .i64 x.id.created,.int .i64 x.id.seq,.int .i64 x.id.off,.int .i64 x.id.total,.int .i64 x.dest,.int .i64 x.my,.int .i64 x.prio,.bool x.jR,.str x.data]
def gm.cells(x:gm):List A:=[.int .i64 x.kind,.int .i64 x.item.gp,.int .i64 x.item.id.source,.int .i64 x.item.id.created,.int .i64 x.item.id.seq,.int .i64 x.item.id.off,.int .i64 x.item.id.total,.int .i64 x.item.dest,.int .i64 x.item.my,.int .i64 x.item.prio,.bool x.item.jR,.str x.item.data,
 .int .i64 x.id.source,.int .i64 x.id.created,.int .i64 x.id.seq,.int .i64 x.id.off,.int .i64 x.id.total,.int .i64 x.gp,.int .i64 x.time]
def TN(l:List jj):A:=.sl 11 l.length (cO jj.cells l)
def Hs(l:List gm):A:=.sl 19 l.length (cO gm.cells l)
def TM.cells(d:TM):List A:=[TN d.items,TN d.inbox]
def jQ.eqv(a b:jQ):Bool:=a.source==b.source&&(a.created==b.created&&(a.seq==b.seq&&(a.off==b.off&&(a.total==b.total&&true))))
def jj.eqv(a b:jj):Bool:=a.gp==b.gp&&(a.id.source==b.id.source&&(a.id.created==b.id.created&&(a.id.seq==b.id.seq&&(a.id.off==b.id.off&&(a.id.total==b.id.total&&(a.dest==b.dest&&(a.my==b.my&&(a.prio==b.prio&&(a.jR==b.jR&&(a.data.toList==b.data.toList&&true))))))))))
def gm.eqv(a b:gm):Bool:=a.kind==b.kind&&(a.item.gp==b.item.gp&&(a.item.id.source==b.item.id.source&&(a.item.id.created==b.item.id.created&&(a.item.id.seq==b.item.id.seq&&(a.item.id.off==b.item.id.off&&(a.item.id.total==b.item.id.total&&(a.item.dest==b.item.dest&&(a.item.my==b.item.my&&(a.item.prio==b.item.prio&&(a.item.jR==b.item.jR&&(a.item.data.toList==b.item.data.toList&&(a.id.source==b.id.source&&(a.id.created==b.id.created&&(a.id.seq==b.id.seq&&(a.id.off==b.id.off&&(a.id.total==b.id.total&&(a.gp==b.gp&&(a.time==b.time&&true))))))))))))))))))
theorem jQ.n5{a b:jQ}:a.eqv b=true↔a=b:=by
 cases a;cases b;simp[jQ.eqv]
theorem jj.n5{a b:jj}:a.eqv b=true↔a=b:=by
 obtain⟨t,⟨i1,i2,i3,i4,i5⟩,d,e,p,c,x⟩:=a;obtain⟨t',⟨i1',i2',i3',i4',i5'⟩,d',e',p',c',x'⟩:=b;simp only[jj.eqv,af,gH,TO,jj.mk.injEq,jQ.mk.injEq,pz];constructor
 .rintro⟨h1,h2,h3,h4,h5,h6,h7,h8,h9,h10,h11⟩;exact⟨h1,⟨h2,h3,h4,h5,h6⟩,h7,h8,h9,h10,h11⟩
 rintro⟨h1,⟨h2,h3,h4,h5,h6⟩,h7,h8,h9,h10,h11⟩;exact⟨h1,h2,h3,h4,h5,h6,h7,h8,h9,h10,h11⟩
theorem gm.n5{a b:gm}:a.eqv b=true↔a=b:=by
 obtain⟨k,⟨t,⟨i1,i2,i3,i4,i5⟩,d,e,p,c,x⟩,⟨j1,j2,j3,j4,j5⟩,tk,tm⟩:=a;obtain⟨k',⟨t',⟨i1',i2',i3',i4',i5'⟩,d',e',p',c',x'⟩,⟨j1',j2',j3',j4',j5'⟩,tk',tm'⟩:=b;simp only[gm.eqv,af,gH,TO,gm.mk.injEq,jj.mk.injEq,jQ.mk.injEq,pz];constructor
 .rintro⟨h0,h1,h2,h3,h4,h5,h6,h7,h8,h9,h10,h11,g1,g2,g3,g4,g5,g6,g7⟩;exact⟨h0,⟨h1,⟨h2,h3,h4,h5,h6⟩,h7,h8,h9,h10,h11⟩,⟨g1,g2,g3,g4,g5⟩,g6,g7⟩
 rintro⟨h0,⟨h1,⟨h2,h3,h4,h5,h6⟩,h7,h8,h9,h10,h11⟩,⟨g1,g2,g3,g4,g5⟩,g6,g7⟩;exact⟨h0,h1,h2,h3,h4,h5,h6,h7,h8,h9,h10,h11,g1,g2,g3,g4,g5,g6,g7⟩
def uo(x:jQ):Bool:=
 fY x.source 0 15&&fY x.created 0 1099511627776&&fY x.seq 0 1099511627776&&((x.off==0&&x.total==0)||(fY x.total 1 4096&&fY x.off 0 (aA.wrap (x.total-1))))
def vX(x:jj):Int:=
 if uo x.id&&fY x.gp 0 1152921504606846976&&fY x.dest 0 15&&fY x.my 1 1099511627776&&fY x.prio 0 2 then(if fY x.data.size 1 65536 then 0 else 4)else 2
def sM(r:gm):Int:=
 if fY r.kind 1 4 then
  (if fY r.time 0 1099511627776 then
   (if r.kind==1||r.kind==3 then
    (if vX r.item !=0 then vX r.item else if !r.id.eqv .zero||r.gp !=0 then 1 else 0)
   else if !uo r.id||(r.kind==4&& !fY r.gp 0 1152921504606846976)then 2
   else if !r.item.eqv .zero||(r.kind==2&&r.gp !=0)then 1 else 0)
  else 2)
 else 8
def ls(s:ByteArray):List Nat:=s.data.toList.map UInt8.toNat
def bs(l:List Nat):ByteArray:=⟨(l.map UInt8.ofNat).toArray⟩
theorem sN(s:ByteArray):(ls s).length=s.size:=by simp[ls]
theorem JV(s:ByteArray):bs (ls s)=s:=by
 obtain⟨⟨l⟩⟩:=s;simp[bs,ls,Function.comp_def]
theorem sO{l:List Nat}(h:∀ x∈l,x<256):ls (bs l)=l:=by
 simp only[ls,bs,List.map_map];rw[List.map_congr_left (g:=id) (λx hx=>by simp[Nat.mod_eq_of_lt (h x hx)])];simp
theorem rD(l:List Nat):(bs l).size=l.length:=by
 have:(bs l).size=(bs l).data.size:=rfl;rw[this];simp[bs]
theorem Bc(a b:ByteArray):ls (a++b)=ls a++ls b:=by simp[ls,aq]
theorem Bd(a b:List Nat):bs (a++b)=bs a++bs b:=by
 have:(bs a++bs b).data=(bs a).data++(bs b).data:=aq;have e:bs (a++b)=⟨(bs a).data++(bs b).data⟩:=by simp[bs]
 rw[e,<- this]
theorem yj(s:ByteArray):∀ x∈ls s,x<256:=by
 intro x hx;simp only[ls,List.mem_map]at hx;obtain⟨y,_,rfl⟩:=hx;exact y.toNat_lt
theorem aj8(s:ByteArray)(i:Nat):(s.data.toList.getD i 0).toNat=(ls s).getD i 0:=by
 simp only[ls,bz,List.getElem?_map];cases s.data.toList[i]? <;>rfl
def bC(n:Nat):List A:=[.int .u8 (n:Int)]
theorem aj9(l:List Nat):bytesOf (cO bC l) l.length=bs l:=by
 unfold bytesOf bs;congr 2;apply bw
 .simp
 intro i h1 h2;simp only[List.length_map,List.length_range]at h1;simp[cO,bC,bT,oP,h1]
theorem TP{f:Nat->Bool}:∀ {n:Nat},(∀i,i<n->f i=true)->oQ f n=true
 |0,_=>rfl
 |n+1,h=>by simp only[oQ,af];exact⟨TP λi hi=>h i (by omega),h n (by omega)⟩
def uq:Nat->Nat->List Nat
 |0,_=>[]
 |f+1,m=>if m=0 then[]else uq f (m/128)++[m%128+128]
def pre(m:Nat):List Nat:=uq m m
theorem TQ:∀ {f m:Nat},m<=f-> ∀{g:Nat},m<=g->uq f m=uq g m
 |0,m,h,g,h'=>by
  obtain rfl:m=0:=by omega
  cases g<;>rfl
 |f+1,m,h,0,h'=>by
  obtain rfl:m=0:=by omega
  rfl
 |f+1,m,h,g+1,h'=>by
  simp only[uq];by_cases hm:m=0
  .rw[bS hm,bS hm]
  rw[bQ hm,bQ hm,TQ (f:=f) (m:=m/128) (by omega) (g:=g) (by omega)]
def n9(z:Nat):List Nat:=pre (z/128)++[z%128]
theorem Be:pre 0=[]:=rfl
theorem E5{m:Nat}(h:m≠0):pre m=pre (m/128)++[m%128+128]:=by
 obtain⟨k,rfl⟩:∃ k,m=k+1:=⟨m-1,by omega⟩;show uq (k+1) (k+1)=uq _ _++_;simp only[uq];rw[bQ h,TQ (f:=k) (m:=(k+1)/128) (by omega) (g:=(k+1)/128) (bD _)]
theorem aka{m c:Nat}(hc:c<128)(h:m*128+c≠0):pre (m*128+c)=pre m++[c+128]:=by
 rw[E5 h,show(m*128+c)/128=m by omega,show(m*128+c)%128=c by omega]
theorem akb:∀ (m:Nat),∀ x∈pre m,128<=x/\x<256:=by
 intro m
 induction m using Nat.strongRecOn with
 |ind m ih=>
  by_cases h:m=0
  .subst h;simp[Be]
  rw[E5 h];intro x hx;rcases a6.1 hx with hx|hx
  .exact ih (m/128) (by omega) x hx
  rw[bl.1 hx];omega
theorem JW:∀ (k m:Nat),m<128^k->(pre m).length<=k
 |0,m,h=>by
  have:m=0:=by simpa using h
  subst this;simp[Be]
 |k+1,m,h=>by
  by_cases hm:m=0
  .subst hm;simp[Be]
  rw[E5 hm];have:m/128<128^k:=by rw[bB]at h;exact Nat.div_lt_of_lt_mul (by rw[bH];exact h)
  have:=JW k (m/128) this;simp;omega
theorem JX{z x:Nat}(h:x∈n9 z):x<256:=by
 rcases a6.1 h with h|h
 .exact(akb _ x h).2
 rw[bl.1 h];omega
theorem TR{z:Nat}(h:z<2^62):(n9 z).length<=9:=by
 have:=JW 8 (z/128) (by omega);simp[n9];omega
theorem akc(z:Nat):n9 z≠[]:=by simp[n9]
def ix(n:Int):Bool:=decide (n>= -1152921504606846976)&&decide (n<=1152921504606846976)
def pA(n:Int):Nat:=if n<0 then(-2*n-1).toNat else(2*n).toNat
def E6(m:Nat):Int:=if m%2=1 then-((m/2:Nat):Int)-1 else((m/2:Nat):Int)
theorem yk{n:Int}:ix n=true↔ -1152921504606846976<=n/\n<=1152921504606846976:=by simp[ix]
theorem JY{n:Int}(h:ix n=true):pA n<=2^61:=by
 rw[yk]at h;unfold pA;split<;>omega
theorem akd(m:Nat):pA (E6 m)=m:=by
 unfold pA E6;split<;>split<;>omega
def encI(n:Int):List Nat:=n9 (pA n)
def vY(n:Int):ByteArray×Int:=if ix n then(bs (encI n),0)else(.empty,2)
def mZ:Nat->List Nat->Nat->Nat->Int×Nat×Nat
 |0,_,_,_=>(11,0,0)
 |_+1,[],_,_=>(12,0,0)
 |f+1,c::l,m,k=>if c<128 then(0,m*128+c,k+1)else mZ f l (m*128+(c-128)) (k+1)
def sP(l:List Nat):Int×Nat×Int:=
 let r:=mZ 9 l 0 0
 if r.1 !=0 then(0,0,r.1)else if l.getD 0 0==128|| !ix (E6 r.2.1)then(0,0,11)else(E6 r.2.1,r.2.2,0)
theorem JZ:∀ {f:Nat} {l:List Nat} {m k z q:Nat},mZ f l m k=(0,z,q)->k<q/\q<=k+l.length/\q<=k+f
 |0,l,m,k,z,q,h=>by simp[mZ]at h
 |f+1,[],m,k,z,q,h=>by simp[mZ]at h
 |f+1,c::l,m,k,z,q,h=>by
  rw[mZ]at h;split at h
  .simp only[AS,pB]at h;simp;omega
  have:=JZ h;simp;omega
theorem TS:∀ {f:Nat} {l:List Nat} {m k z q:Nat},(∀x∈l,x<256)->(m≠0\/l.getD 0 0≠128)->mZ f l m k=(0,z,q)->pre m++l.take (q-k)=n9 z
 |0,l,m,k,z,q,_,_,h=>by simp[mZ]at h
 |f+1,[],m,k,z,q,_,_,h=>by simp[mZ]at h
 |f+1,c::l,m,k,z,q,hl,h0,h=>by
  have hc:=hl c bj;rw[mZ]at h;split at h
  .rename_i hlt;simp only[AS,pB]at h;obtain⟨rfl,rfl⟩:=h;rw[show k+1-k=1 by omega];unfold n9;rw[show(m*128+c)/128=m by omega,show(m*128+c)%128=c by omega];rfl
  rename_i hge;have hne:m*128+(c-128)≠0:=by
   rcases h0 with h0|h0
   .omega
   have:c≠128:=by simpa using h0
   omega
  obtain⟨h1,_,_⟩:=JZ h;have ih:=TS (λx hx=>hl x (bd _ hx)) (.inl hne) h;rw[aka (by omega) hne,show c-128+128=c by omega]at ih;rw[<-ih,show q-k=q-(k+1)+1 by omega];simp
theorem TT{l:List Nat}{n:Int}{k:Nat}(hl:∀ x∈l,x<256)(h:sP l=(n,k,0)):ix n=true/\l.take k=encI n/\k<=l.length/\0<k/\k<=9:=by
 unfold sP at h;generalize hr:mZ 9 l 0 0=r at h;obtain⟨e,z,q⟩:=r;simp only at h;split at h
 .rename_i he;simp only[AS]at h;rw[h.2.2]at he;cases he
 rename_i he;split at h
 .simp at h
 rename_i hc;simp only[AS,pz]at h;obtain⟨rfl,rfl⟩:=h;simp only[ai,gH,aj,not_or,ak]at hc;have he:e=0:=by simpa using he
 subst he;have hb:=TS hl (.inr hc.1) hr;obtain⟨h1,h2,h3⟩:=JZ hr;rw[Be]at hb;refine⟨hc.2,?_,by omega,by omega,by omega⟩;unfold encI;rw[akd];simpa using hb
theorem TV{z j:Nat}(hj:7*j<=63):(z:Int).fdiv (2^(min ((7*j:Nat):Int).toNat aA.bits))=((z/128^j:Nat):Int):=by
 have e1:min ((7*j:Nat):Int).toNat aA.bits=7*j:=by
  have:aA.bits=64:=rfl;rw[this,Int.toNat_natCast];omega
 have e2:(2:Int)^(7*j)=((128^j:Nat):Int):=by
  rw[Int.pow_mul];simp
 rw[e1,e2,aX _ (aW _)];exact(aY z (128^j)).symm
theorem ake(x:Nat):az.wrap ((aa az.bits (az.wrap (x:Int)) &&& aa az.bits 127).toNat:Int)=((x%128:Nat):Int):=by
 have hb:az.bits=8:=rfl;rw[E7,E7,hb,BitVec.toNat_and];have e1:(aa 8 ((x:Int)%256)).toNat=x%256:=by rw[ab];omega
 have e2:(aa 8 127).toNat=2^7-1:=by decide
 rw[e1,e2,Nat.and_two_pow_sub_one_eq_mod];omega
theorem Bf{r:ByteArray×Int}{s:ByteArray}{e:Int}(h:r=(s,e)):bY (.cG [.str s,.int .i64 e]) (.cG [.str r.1,.int .i64 r.2]):=by subst h;exact bY.refl _
end Go.Mb
namespace Go.Proofs.YtjhmdfofhnijeaaGreatDoor
open Go.Sy Go.Mb
set_option maxRecDepth 100000
set_option maxHeartbeats 1000000
noncomputable def EV:Env:={ P:=aK,lJ:=lK [] }
theorem J0:ib EV:=zK (by intro p hp;cases hp)
noncomputable def VN:Cx:={ E:=EV,inl:=[],ok:=J0 }
noncomputable def VG:Cx:={ E:=EV,inl:=[504],ok:=J0 }
theorem akf(n:Int):cJ aK 444 [.int .i64 n] (.bool (ix n),none):=by
 refine c8 VN Tryz.func444 rfl ?_;refine cK zE (λh=>?_) (λh=>?_)
 .exact cL zE rfl rfl (fk ((by simp only[ix,h,Bool.true_and])))
 exact cL zE rfl rfl (fk ((by simp only[ix,h,Bool.false_and])))
theorem akg{n:Int}(h:ix n=true):cJ aK 446 [.int .i64 n] (.int .i64 (pA n:Nat),none):=by
 rw[yk]at h;refine c8 VN Tryz.func446 rfl ?_;refine cK zE (λh2=>?_) (λh2=>?_)
 .have h2:n<0:=fv h2;exact cL zE rfl rfl (dY ((by unfold pA;rw[bS h2,wrap_i64 (n:=-2*n) (by omega) (by omega),dG];omega)))
 have h2:¬ n<0:=eY h2;exact cL zE rfl rfl (dY ((by unfold pA;rw[bQ h2,dG];omega)))
def akh(z:Nat):A:=.fn 504 [.ip 1 (bT [.int .i64 z])]
theorem aki(z:Nat):cJ aK 445 [.int .i64 z] (akh z,none):=by
 refine c8 VN Tryz.func445 rfl ?_;exact cL zE rfl rfl (bY.refl _)
theorem TW(n:Int):cJ aK 376 [.int .i64 n] (.cG [.str (vY n).1,.int .i64 (vY n).2],none):=by
  refine c8 VG Tryz.func376 rfl ?_;refine cj zE (akf n) (cK zE (λh=>?_) (λh=>?_))
  . exact cL zE rfl rfl (Bf (by unfold vY;rw[ur h];rfl))
  have h:=vZ h;have hz:=JY h;have hm:vY n=(bs (n9 (pA n)),0):=by unfold vY encI;rw[h];rfl
  rw[hm];refine cj zE (akg h) (cj zE (aki (pA n)) ?_);generalize pA n=z at hz hm;refine zG zE ?_;refine NS.loop (σ:={ k:Nat // ∀j,j<k->128<=z/128^j }) (λk=>[(0,.dA 25),(1,.ip 1 (bT [.int .i64 z])),(3,.int .i64 ((7*k.1:Nat):Int))]) (λk=>[]) (λk=>9-k.1) ⟨0,λj hj=>by omega⟩ ?_ ?_
  . exact ph [] rfl ⟨rfl,rfl,rfl,bP⟩ trivial (by repeat' (first|exact trivial|refine⟨.inr rfl,?_⟩|refine⟨.inl rfl,?_⟩)) (by kernel_rfl)
  rintro⟨k,hk⟩;have hk8:k<=8:=by
    rcases bI 8 k with h8|h8
    . have:=hk 8 h8
      have:z/128^8<=2^61/128^8:=Nat.div_le_div_right hz;omega
    exact h8
  have ek:aA.wrap (((7*k:Nat):Int)+7)=((7*(k+1):Nat):Int):=by rw[dG];omega
  refine bU zE (cw (aW (7*k))) ?_;rw[TV (z:=z) (j:=k) (by omega)];refine cK zE (λh2=>?_) (λh2=>?_)
  . have h2 : 128 ≤ z / 128 ^ k := by have h2 : ((z / 128 ^ k : Nat) : Int) ≥ 128 := of_decide_eq_true h2
                                      omega
    refine cH zE ⟨k+1,λj hj=>?_⟩ (by simp only;omega) ?_
    . by_cases e:j=k
      . rw[e];exact h2
      exact hk j (by omega)
    exact ph [] rfl ⟨rfl,rfl,c9 rfl ek,bP⟩ trivial (by repeat' (first|exact trivial|refine⟨.inr rfl,?_⟩|refine⟨.inl rfl,?_⟩)) (by kernel_rfl)
  have h2 : z / 128 ^ k < 128 := by have h2 : ¬ ((z / 128 ^ k : Nat) : Int) ≥ 128 := of_decide_eq_false h2
                                    omega
  refine dt zE rfl zE ?_;refine zG zE ?_;refine NS.loop (σ:={ j:Option Nat // ∀q,j=some q->q<=k }) (λj=>[(0,.dA 25),(1,.ip 1 (bT [.int .i64 z])),(3,.int .i64 (match j.1 with|some q=>((7*q:Nat):Int)|none=>-7))]) (λj=>[(4,.box [.own 26]),(26,.row 5 1 (match j.1 with|some q=>pre (z/128^(q+1))|none=>n9 z).length (cO bC (match j.1 with|some q=>pre (z/128^(q+1))|none=>n9 z)))]) (λj=>match j.1 with|some q=>q+1|none=>0) ⟨some k,λq hq=>by cases hq;exact bD _⟩ ?_ ?_
  . have e0:pre (z/128^(k+1))=[]:=by
      rw[bB,<- bE,Nat.div_eq_of_lt h2,Be]
    refine(oM 4 0 26 5 1 (cO bC []) rfl rfl rfl).trans ?_;refine ph [] rfl ⟨rfl,rfl,rfl,bP⟩ ⟨bV,?_,bP⟩ (by repeat' (first|exact trivial|refine⟨.inr rfl,?_⟩|refine⟨.inl rfl,?_⟩)) (by kernel_rfl);simp only[e0];exact df rfl rfl λ_ _ _ _=>rfl
  rintro⟨j,hj⟩;cases j with
  |none=>
    refine b8 zE (rfl) (dt zE rfl zE (bU zE (TP λi hi=>rfl) ?_));rw[aj9 (n9 z)];exact cL zE rfl rfl (bY.refl _)
  |some q=>
    have hq:=hj q rfl;have hlen:(pre (z/128^(q+1))).length<=9:=by
      refine JW 9 _ (Nat.lt_of_le_of_lt (Nat.div_le_self _ _) ?_);omega
    refine cD zE (cw (aW (7*q))) (bU zE (cw (aW (7*q))) ?_);rw[TV (z:=z) (j:=q) (by omega)];have eg:=ake (z/128^q);cases q with
    |zero=>
      refine b8 zE (rfl) (bU zE (cw (by simp only[du];omega)) (cH zE ⟨none,λq hq=>by cases hq⟩ (by simp only;omega) ?_));refine ph [(26,72)] rfl ⟨rfl,rfl,rfl,bP⟩ ⟨bV,?_,bP⟩ (by repeat' (first|exact trivial|refine⟨.inr rfl,?_⟩|refine⟨.inl rfl,?_⟩)) (by kernel_rfl);rw[bL,AI]at eg;refine df rfl (by simp[n9]) λi hi j hj=>?_;exact gE (cells:=bC) (l:=pre (z/128)) (x:=z%128) (fU (λy=>[A.int .u8 y]) (by rw[bL,AI];exact eg)) i (by simpa[n9]using hi) j hj
    |succ p=>
      have hne:z/128^(p+1)≠0:=by
        have:=hk p (by omega);rw[bB,<- bE];omega
      have epre:pre (z/128^(p+1))=pre (z/128^(p+1+1))++[z/128^(p+1)%128+128]:=by
        rw[E5 hne,bE,<- bB]
      have ew:aA.wrap (((7*(p+1):Nat):Int)-7)=((7*p:Nat):Int):=by rw[dG];omega
      refine cD zE (by simp;omega) (bU zE (cw (by simp only[du];omega)) (cH zE ⟨some p,λq hq=>by cases hq;omega⟩ (by simp only;omega) ?_));refine ph [(26,72)] rfl ⟨rfl,rfl,c9 rfl ew,bP⟩ ⟨bV,?_,bP⟩ (by repeat' (first|exact trivial|refine⟨.inr rfl,?_⟩|refine⟨.inl rfl,?_⟩)) (by kernel_rfl);refine df rfl ?_ λi hi j hj=>?_
      . show(pre (z/128^(p+1+1))).length+1=(pre (z/128^(p+1))).length
        rw[epre];simp
      show _=cO bC (pre (z/128^(p+1))) i j;have hi:i<(pre (z/128^(p+1))).length:=hi;rw[epre]at hi⊢;exact gE (cells:=bC) (l:=pre (z/128^(p+1+1))) (x:=z/128^(p+1)%128+128) (fU (λy=>[A.int .u8 y]) (by rw[eg,wrap_u8 (by omega) (by omega)];omega)) i (by simpa using hi) j hj
structure wa(l:List Nat)(i m:Nat):Prop where
 le:i<=9
 eq:mZ 9 l 0 0=mZ (9-i) (l.drop i) m i
 sz:m<128^i
 ln:i<=l.length
theorem wa.start(l:List Nat):wa l 0 0:=⟨by omega,rfl,by simp,by omega⟩
theorem wa.last{l:List Nat}{i m:Nat}(u:wa l i m)(h9:i<9)(h:i<l.length)(hc:l.getD i 0<128):mZ 9 l 0 0=(0,m*128+l.getD i 0,i+1):=by
 obtain⟨g,hg⟩:∃ g,9-i=g+1:=⟨8-i,by omega⟩;have hd:l.drop i=l.getD i 0::l.drop (i+1):=drop_cons h;rw[u.eq,hd,hg,mZ,bS hc]
theorem wa.step{l:List Nat}{i m:Nat}(hl:∀ x∈l,x<256)(u:wa l i m)(h9:i<9)(h:i<l.length)(hc:¬ l.getD i 0<128):wa l (i+1) (m*128+l.getD i 0%128):=by
 obtain⟨g,hg⟩:∃ g,9-i=g+1:=⟨8-i,by omega⟩;have hd:l.drop i=l.getD i 0::l.drop (i+1):=drop_cons h;have h256:l.getD i 0<256:=Bg (p:=λx=>x<256) hl h;have hs:=u.sz;refine⟨by omega,?_,?_,h⟩
 .rw[u.eq,hd,hg,mZ,bQ hc,show l.getD i 0-128=l.getD i 0%128 by omega,show 9-(i+1)=g by omega]
 rw[bB];omega
theorem akj(s:ByteArray)(i:Nat):(ls s).getD i 0<256:=by
 rcases bI i (ls s).length with h|h
 .exact Bg (p:=λx=>x<256) (yj s) h
 simp[bz,h]
end Go.Proofs.YtjhmdfofhnijeaaGreatDoor
namespace Go.Mb
open Go.Sy
def pC(s:ByteArray):ByteArray×Int:=if decide ((s.size:Int)>65536)then(.empty,4)else(bs (encI s.size)++s,0)
def gi(l:List Int):List Nat:=l.flatMap encI
theorem TX{l:List Int}(h:∀ x∈l,ix x=true):(gi l).length<=l.length*9:=by
 induction l with
 |nil=>simp[gi]
 |cons a l ih=>
  have h1:=ih λx hx=>h x (bd _ hx);have h2:=TR (z:=pA a) (by have:=JY (h a bj);omega);simp only[gi,bn,a7,bu]at h1⊢;have h2:(encI a).length<=9:=h2;omega
theorem Bh{n:Int}(h:ix n=true):(encI n).length<=9:=TR (by have:=JY h;omega)
theorem E8{n:Nat}(h:n<=1000000):ix (n:Int)=true:=by rw[yk];omega
theorem TY{n:Int}(h:ix n=true):vY n=(bs (encI n),0):=by unfold vY;rw[h];rfl
theorem akk(l:List Int)(k:Nat)(h:k<l.length):gi (l.take (k+1))=gi (l.take k)++encI (l.getD k aV):=by
 rw[gg h];simp[gi]
def wb(l:List Nat):Int×Nat×Int:=
 let r:=sP l
 if r.2.2 !=0 then(0,0,r.2.2)else if decide (r.1<0)||decide (r.1>65536)then(0,0,11)else r
def E9:Nat->List Nat->Nat->List Int->List Int×Nat×Int
 |0,_,k,acc=>(acc,k,0)
 |n+1,l,k,acc=>if(sP (l.drop k)).2.2 !=0 then([],0,(sP (l.drop k)).2.2)else E9 n l (k+(sP (l.drop k)).2.1) (acc++[(sP (l.drop k)).1])
def J1(l:List Nat):List Int×Nat×Int:=if(wb l).2.2 !=0 then([],0,(wb l).2.2)else E9 (wb l).1.toNat l (wb l).2.1 []
theorem akl{l:List Nat}{n:Int}{k:Nat}(h:wb l=(n,k,0)):sP l=(n,k,0)/\0<=n/\n<=65536:=by
 unfold wb at h;simp only at h;split at h
 .rename_i he;simp only[AS]at h;rw[h.2.2]at he;cases he
 split at h
 .simp at h
 rename_i hc;refine⟨h,?_⟩;rw[h]at hc;simp at hc;omega
end Go.Mb
namespace Go.Proofs.YtjhmdfofhnijeaaGreatDoor
open Go.Sy Go.Mb
set_option maxRecDepth 100000
set_option maxHeartbeats 1000000
theorem TZ(s:ByteArray):cJ aK 374 [.str s] (.cG [.str (pC s).1,.int .i64 (pC s).2],none):=by
  refine c8 VN Tryz.func374 rfl ?_;refine cK zE (λh=>?_) (λh=>?_)
  . exact cL zE rfl rfl (Bf (by unfold pC;rw[bS h];rfl))
  have hm:pC s=(bs (encI s.size)++s,0):=by unfold pC;rw[bQ (by rw[h];simp)]
  have h : s.size ≤ 65536 := by have h : ¬ (s.size : Int) > 65536 := of_decide_eq_false h
                                omega
  have hi:=E8 (n:=s.size) (by omega);have hl:=Bh hi;have c:=TW s.size;rw[TY hi]at c;exact cj zE (c) (bU zE (cw (by rw[rD];omega)) (cL zE rfl rfl (Bf hm)))
structure wc(l:List Nat)(n q k:Nat)(acc:List Int):Prop where
 le:q<=n
 ln:acc.length=q
 kl:k<=l.length
 eq:J1 l=E9 (n-q) l k acc
theorem wc.start{l:List Nat}{n:Int}{k:Nat}(hl:∀ x∈l,x<256)(h:wb l=(n,k,0)):wc l n.toNat 0 k []:=by
 refine⟨bG _,rfl,?_,?_⟩
 .exact(TT hl (akl h).1).2.2.1
 unfold J1;rw[h];rfl
theorem wc.fin{l:List Nat}{n k:Nat}{acc:List Int}(u:wc l n n k acc):J1 l=(acc,k,0):=by
 rw[u.eq,Nat.sub_self];rfl
theorem wc.next{l:List Nat}{n q k b:Nat}{acc:List Int}{a:Int}(hl:∀ x∈l,x<256)(u:wc l n q k acc)(hq:q<n)(h:sP (l.drop k)=(a,b,0)):wc l n (q+1) (k+b) (acc++[a]):=by
 obtain⟨g,hg⟩:∃ g,n-q=g+1:=⟨n-q-1,by omega⟩;have h1:=(TT (λx hx=>hl x (List.mem_of_mem_drop hx)) h).2.2.1;rw[List.length_drop]at h1;have:=u.kl;refine⟨hq,by simp[u.ln],by omega,?_⟩;rw[u.eq,hg,E9,h,bQ (by simp),show n-(q+1)=g by omega]
end Go.Proofs.YtjhmdfofhnijeaaGreatDoor
namespace Go.Mb
open Go.Sy
def yl:Nat:=2197175160
def st1(r:Nat):Nat:=if r%2=1 then r/2 ^^^ yl else r/2
def i7:Nat->Nat->Nat
 |0,r=>r
 |k+1,r=>st1 (i7 k r)
theorem ym{a b:Nat}{n:Nat}(ha:a<2^n)(hb:b<2^n):a ^^^ b<2^n:=Nat.xor_lt_two_pow ha hb
theorem akm{r:Nat}(h:r<2^32):st1 r<2^32:=by
 unfold st1;split
 .exact ym (by omega) (by decide)
 omega
theorem Fa{r:Nat}(h:r<2^32):∀ k,i7 k r<2^32
 |0=>h
 |k+1=>akm (Fa h k)
theorem akn(a b:Nat):(a ^^^ b)/2=a/2 ^^^ b/2:=by
 have:=Nat.xor_div_two_pow (a:=a) (b:=b) (n:=1);simpa using this
theorem ako(a b:Nat):(a ^^^ b)%2=(a%2+b%2)%2:=by
 have:=Nat.xor_mod_two_pow (a:=a) (b:=b) (n:=1);rw[Nat.pow_one]at this;rw[this];rcases bA a with ha|ha<;>rcases bA b with hb|hb<;>rw[ha,hb]<;>rfl
theorem akp(a b:Nat):st1 (a ^^^ b)=st1 a ^^^ st1 b:=by
 unfold st1;rw[akn,ako];rcases bA a with ha|ha<;>rcases bA b with hb|hb<;>rw[ha,hb]<;>simp only[bF,bM,Nat.zero_mod,Nat.reduceAdd,Nat.reduceMod,Nat.one_mod,iI,ic,Nat.zero_ne_one,Nat.reduceEqDiff]
 .ac_rfl
 .ac_rfl
 rw[show a/2 ^^^ yl ^^^ (b/2 ^^^ yl)=(a/2 ^^^ b/2) ^^^ (yl ^^^ yl) by ac_rfl,Nat.xor_self,Nat.xor_zero]
theorem T0(a b:Nat):∀ k,i7 k (a ^^^ b)=i7 k a ^^^ i7 k b
 |0=>rfl
 |k+1=>by simp only[i7];rw[T0 a b k,akp]
theorem akq(h:Nat):st1 (h*2)=h:=by unfold st1;rw[bQ (by omega)];omega
theorem T1:∀ (k h:Nat),i7 k (h*2^k)=h
 |0,h=>by simp[i7]
 |k+1,h=>by
  have e:h*2^(k+1)=(h*2)*2^k:=by rw[bB,Nat.mul_assoc,bH 2]
  rw[i7,e,T1 k (h*2),akq]
def Bi(r b:Nat):Nat:=i7 8 (r ^^^ b)
theorem akr(r b:Nat)(hb:b<256):r ^^^ b=(r/256*2^8) ^^^ (r%256 ^^^ b):=by
 have e:r=(r/256*2^8) ^^^ (r%256):=by
  have h1:r%256<2^8:=by omega
  have h2:=Nat.two_pow_add_eq_or_of_lt h1 (r/256);have h3:2^8*(r/256)+r%256=r:=by omega
  apply Nat.eq_of_testBit_eq;intro i;rw[Nat.testBit_xor];have h4:r.testBit i=(2^8*(r/256) ||| r%256).testBit i:=by rw[<-h2,h3]
  rw[h4,Nat.testBit_or,bH (r/256)];by_cases hi:i<8
  .rw[Nat.testBit_two_pow_mul,dQ (by omega:¬ i>=8)];simp
  have:(r%256).testBit i=false:=Nat.testBit_lt_two_pow (bJ h1 (Nat.pow_le_pow_right (by omega) (by omega)));rw[this];simp
 rw[<-Nat.xor_assoc,<- e]
theorem aks(r b:Nat)(hb:b<256):Bi r b=r/256 ^^^ i7 8 (r%256 ^^^ b):=by
 unfold Bi;rw[akr r b hb,T0,T1]
theorem akt{r b:Nat}(h:r<2^32)(hb:b<256):Bi r b<2^32:=Fa (ym h (by omega)) 8
def up(r:Nat)(l:List Nat):Nat:=l.foldl Bi r
theorem J3{l:List Nat}(hl:∀ x∈l,x<256):∀ {r:Nat},r<2^32->up r l<2^32:=by
 induction l with
 |nil=>intro r h;exact h
 |cons a l ih=>intro r h;exact ih (λx hx=>hl x (bd _ hx)) (akt h (hl a bj))
theorem aku(r:Nat)(l:List Nat)(k:Nat)(h:k<l.length):up r (l.take (k+1))=Bi (up r (l.take k)) (l.getD k 0):=by
 have:l.take (k+1)=l.take k++[l.getD k 0]:=gg h;rw[this];simp[up]
def rE:Nat:=4294967295
def cT(l:List Nat):Nat:=up rE l ^^^ rE
theorem akv{l:List Nat}(hl:∀ x∈l,x<256):cT l<2^32:=ym (J3 hl (by decide)) (by decide)
def Fb(l:List Nat):List Nat:=[cT l%256,cT l/256%256,cT l/65536%256,cT l/16777216%256]
def jD(k:Nat):Nat->Nat->List Int
 |0,_=>[]
 |n+1,j=>((if j<k then i7 8 j else 0:Nat):Int)::jD k n (j+1)
theorem Fc(k:Nat):∀ (n j i:Nat),i<n->(jD k n j).getD i 0=((if j+i<k then i7 8 (j+i)else 0:Nat):Int)
 |0,j,i,h=>by omega
 |n+1,j,0,h=>by simp[jD]
 |n+1,j,i+1,h=>by
  have:=Fc k n (j+1) i (by omega);rw[show j+(i+1)=j+1+i by omega,<- this];simp[jD]
theorem Fe(k:Nat):∀ n j,(jD k n j).length=n
 |0,_=>rfl
 |n+1,j=>by simp[jD,Fe k n]
theorem akw{k n:Nat}(h:k<n):(jD k n 0).set k ((i7 8 k:Nat):Int)=jD (k+1) n 0:=by
 apply bw
 .simp[Fe]
 intro i h1 h2;have hi:i<n:=by simpa[Fe]using h1
 have e1:=Fc k n 0 i hi;have e2:=Fc (k+1) n 0 i hi;rw[List.getD_eq_getElem?_getD,List.getElem?_eq_getElem (by rw[Fe];exact hi)]at e1 e2;simp only[Option.getD_some,bF]at e1 e2;rw[List.getElem_set,e2];split
 .rename_i hik;subst hik;rw[bS (by omega)]
 rename_i hik;rw[e1];by_cases hlt:i<k
 .rw[bS hlt,bS (by omega)]
 rw[bQ hlt,bQ (by omega)]
def zN(k:Nat):List A:=(jD k 256 0).map (A.int .u32)
theorem Bj{σ:Nat->Nat}{k:IntKind}:∀ (l:List Int),qx σ (l.map (A.int k)) (l.map (A.int k))
 |[]=>rfl
 |n::l=>⟨_,_,rfl,rfl,Bj l⟩
theorem J4{a b:Nat}(ha:a<2^32)(hb:b<2^32):ay.wrap ((aa ay.bits (a:Int) ^^^ aa ay.bits (b:Int)).toNat:Int)=((a ^^^ b:Nat):Int):=by
 have hbt:ay.bits=32:=rfl;rw[hbt,ae];have e1:(aa 32 (a:Int)).toNat=a:=by rw[ab];omega
 have e2:(aa 32 (b:Int)).toNat=b:=by rw[ab];omega
 have:=ym ha hb;rw[e1,e2,wrap_u32 (by omega) (by omega)]
theorem akx{a b:Nat}(ha:a<256)(hb:b<256):az.wrap ((aa az.bits (a:Int) ^^^ aa az.bits (b:Int)).toNat:Int)=((a ^^^ b:Nat):Int):=by
 have hbt:az.bits=8:=rfl;rw[hbt,ae];have e1:(aa 8 (a:Int)).toNat=a:=by rw[ab];omega
 have e2:(aa 8 (b:Int)).toNat=b:=by rw[ab];omega
 have:=ym (n:=8) ha hb;rw[e1,e2,wrap_u8 (by omega) (by omega)]
end Go.Mb
namespace Go.Proofs.YtjhmdfofhnijeaaGreatDoor
open Go.Sy Go.Mb
set_option maxRecDepth 100000
set_option maxHeartbeats 4000000
theorem tm2(m:Nat):((m:Nat):Int).tmod 2=((m%2:Nat):Int):=(Int.ofNat_tmod m 2).symm
theorem T2(m:Nat):((m:Nat):Int).tdiv 2=((m/2:Nat):Int):=(Int.ofNat_tdiv m 2).symm
theorem aky(r:Nat)(hr:r<2^32):cJ aK 610 [.int .u32 r] (.int .u32 (i7 8 r:Nat),none):=by
  refine c8 VN Tryz.func610 rfl ?_;refine eG zE 8 (λk=>[(0,.int .u32 (i7 k r:Nat)),(3,.int .i64 k)]) (λk=>[]) ?_ ?_
  . exact cB [] ⟨rfl,rfl,bP⟩ trivial
  rintro⟨k,hk⟩;have hlt:=Fa hr k;refine cK zE (λh=>?_) (λh=>?_)
  . have h : k < 8 := by have h : (k : Int) < 8 := of_decide_eq_true h
                         omega
    have ek:aA.wrap ((k:Int)+1)=((k+1:Nat):Int):=je (k:=k) (n:=100) (by omega) (by omega);have e1:ay.wrap ((i7 k r/2:Nat):Int)=((i7 k r/2:Nat):Int):=wrap_u32 (by omega) (by omega);refine bU zE (rfl) ?_;rw[tm2];refine cK zE (λh2=>?_) (λh2=>?_)
    . have h2:((i7 k r%2:Nat):Int)=1:=ie h2
      refine bU zE (rfl) ?_;rw[T2];refine cH zE ⟨k+1,by omega⟩ (by simp only;omega) ?_;refine cB [] ⟨c9 rfl ?_,c9 rfl ek,bP⟩ trivial;show ay.wrap ((aa ay.bits (ay.wrap ((i7 k r/2:Nat):Int)) ^^^ aa ay.bits ((yl:Nat):Int)).toNat:Int)=((st1 (i7 k r):Nat):Int);rw[e1,J4 (by omega) (by decide)];unfold st1;rw[bS (by omega)]
    have h2:((i7 k r%2:Nat):Int)≠1:=ne_of_beq_false h2;refine bU zE (rfl) ?_;rw[T2];refine cH zE ⟨k+1,by omega⟩ (by simp only;omega) ?_;refine cB [] ⟨c9 rfl ?_,c9 rfl ek,bP⟩ trivial;show ay.wrap ((i7 k r/2:Nat):Int)=((st1 (i7 k r):Nat):Int);rw[e1];unfold st1;rw[bQ (by omega)]
  obtain rfl : k = 8 := by have h : ¬ (k : Int) < 8 := of_decide_eq_false h
                           omega
  exact dt zE rfl zE (cL zE rfl rfl (bY.refl _))
theorem OE:cJ aK 584 [] (.agg (zN 256),none):=by
  refine c8 VN Tryz.func584 rfl ?_;refine eG zE 256 (λk=>[(0,.ptr 0 0),(1,.ptr 1 0),(3,.int .i64 k)]) (λk=>[(0,.box (zN 0)),(1,.box (zN k))]) ?_ ?_
  . exact cB [] ⟨rfl,rfl,rfl,bP⟩ ⟨⟨_,rfl,Bj _⟩,⟨_,rfl,Bj _⟩,bP⟩
  rintro⟨k,hk⟩;refine cK zE (λh=>?_) (λh=>?_)
  . have h : k < 256 := by have h : (k : Int) < 256 := of_decide_eq_true h
                           omega
    have ek:aA.wrap ((k:Int)+1)=((k+1:Nat):Int):=je (k:=k) (n:=1000) (by omega) (by omega);have e1:ay.wrap ((k:Nat):Int)=((k:Nat):Int):=wrap_u32 (by omega) (by omega);have c:=aky k (by omega);refine cj zE (c.le (db.cons (bY.of (fU (A.int .u32) e1)) db.nil)) (bU zE (cw ⟨aW k,by show(k:Int)<256;omega⟩) (bU zE (cw (show k<256 from h)) (cH zE ⟨k+1,by omega⟩ (by simp only;omega) ?_)));refine cB [] ⟨rfl,rfl,c9 rfl ek,bP⟩ ⟨⟨_,rfl,Bj _⟩,⟨_,rfl,?_⟩,bP⟩;show qx _ (zN (k+1)) (yn .u32 k ((i7 8 k:Nat):Int) 0 (jD k 256 0));rw[J5,bS (bG _),Nat.sub_zero,akw h];exact Bj _
  obtain rfl : k = 256 := by have h : ¬ (k : Int) < 256 := of_decide_eq_false h
                             omega
  exact dt zE rfl zE (cL zE rfl rfl (bY.refl _))
def akz(s:ByteArray):A:=.fn 611 [.ip 1 (bT [.str s])]
theorem akA(s:ByteArray):cJ aK 585 [.str s] (akz s,none):=by
 refine c8 VN Tryz.func585 rfl ?_;exact cL zE rfl rfl (bY.refl _)
noncomputable def WG:Cx:={ E:=EV,inl:=[611],ok:=J0 }
theorem akB(r:Nat):(r:Int).fdiv (2^(min (8:Int).toNat ay.bits))=((r/256:Nat):Int):=by
 have e0:(2:Int)^(min (8:Int).toNat ay.bits)=256:=by decide
 rw[e0,aX _ (by omega)];omega
theorem akC(r:Nat)(s:ByteArray)(hr:r<2^32)(hs:s.size<=1000000):cJ aK 540 [.int .u32 r,.str s] (.int .u32 (up r (ls s):Nat),none):=by
  have hll:=sN s;refine c8 WG Tryz.func540 rfl ?_;refine cj zE (OE) (cj zE (akA s) ?_);refine eG zE s.size (λk=>[(0,.dA 21),(1,.ip 1 (bT [.str s])),(5,.int .i64 s.size),(6,.int .i64 k)]) (λk=>[(2,.box [.int .u32 (up r ((ls s).take k):Nat)])]) ?_ ?_
  . exact ph [] rfl ⟨rfl,rfl,rfl,rfl,bP⟩ ⟨bV,bP⟩ (by repeat' (first|exact trivial|refine⟨.inr rfl,?_⟩|refine⟨.inl rfl,?_⟩)) (by kernel_rfl)
  rintro⟨k,hk⟩;have hlt:up r ((ls s).take k)<2^32:=J3 (λx hx=>yj s x (bk hx)) hr;refine cK zE (λh=>?_) (λh=>?_)
  . have h : k < s.size := by have h : (k : Int) < (s.size : Int) := of_decide_eq_true h
                              omega
    have ek:aA.wrap ((k:Int)+1)=((k+1:Nat):Int):=je (k:=k) (n:=s.size) (by omega) (by omega);have hsn:=aku r (ls s) k (by omega);have hb:=akj s k;rw[aks _ _ hb]at hsn;have eb:(((s.data.toList.getD (aZ ((k:Nat):Int)) 0).toNat:Nat):Int)=(((ls s).getD k 0:Nat):Int):=by rw[<-aj8];rfl
    refine bU zE (cw ⟨aW k,by show(k:Int)<_;omega⟩) (cN zE ?_);refine bU zE (rfl) ?_;generalize hR:up r ((ls s).take k)=R at*;generalize hB:(ls s).getD k 0=b at*;have hx:R%256 ^^^ b<256:=ym (n:=8) (by omega) hb;have eI:az.wrap ((aa az.bits (az.wrap (R:Int)) ^^^ aa az.bits (((s.data.toList.getD (aZ ((k:Nat):Int)) 0).toNat:Nat):Int)).toNat:Int)=((R%256 ^^^ b:Nat):Int):=by
      rw[eb,E7 (R:Int),show(R:Int)%256=((R%256:Nat):Int) by omega,akx (by omega) hb]
    refine bU zE (cw (by rw[eI];exact⟨aW _,by show _<(256:Int);omega⟩)) ?_;rw[eI];refine bU zE (cw (show(R%256 ^^^ b)<256 from hx)) ?_;have eT:(jD 256 256 0).getD (R%256 ^^^ b) 0=((i7 8 (R%256 ^^^ b):Nat):Int):=by rw[Fc 256 256 0 _ hx,bF,bS hx]
    have hT:=Fa (show R%256 ^^^ b<2^32 by omega) 8;refine cH zE ⟨k+1,by omega⟩ (by simp only;omega) ?_;refine ph [] rfl ⟨rfl,rfl,rfl,c9 rfl ek,bP⟩ ⟨⟨_,rfl,_,_,rfl,c9 rfl ?_,rfl⟩,bP⟩ (by repeat' (first|exact trivial|refine⟨.inr rfl,?_⟩|refine⟨.inl rfl,?_⟩)) (by kernel_rfl);show ay.wrap ((aa ay.bits ((R:Int).fdiv (2^(min (8:Int).toNat ay.bits))) ^^^ aa ay.bits ((jD 256 256 0).getD (R%256 ^^^ b) 0)).toNat:Int)=((up r ((ls s).take (k+1)):Nat):Int);rw[akB,eT,J4 (by omega) hT,hsn]
  obtain rfl : k = s.size := by have h : ¬ (k : Int) < (s.size : Int) := of_decide_eq_false h
                                omega
  exact dt zE rfl zE (cL zE rfl rfl (bY.of (by show A.int .u32 (up r ((ls s).take s.size):Nat)=_;rw[akD (by omega)])))
end Go.Proofs.YtjhmdfofhnijeaaGreatDoor
namespace Go.Mb
open Go.Sy
def qy(l:List Nat):List Nat:=encI l.length++l
def uu(l:List Nat):List Nat:=qy l++Fb (qy l)
def yo(s:ByteArray):ByteArray×Int:=if decide ((s.size:Int)>65536)then(.empty,4)else(bs (uu (ls s)),0)
theorem akE{s:ByteArray}(h:¬ (s.size:Int)>65536):(pC s).1=bs (qy (ls s))/\(pC s).2=0:=by
 unfold pC;rw[bQ (by simpa using h)];refine⟨?_,rfl⟩;unfold qy;rw[Bd,JV,sN]
theorem akF{l:List Nat}(h:∀ x∈l,x<256):∀ x∈qy l,x<256:=by
 intro x hx;rcases a6.1 hx with hx|hx
 .exact JX hx
 exact h x hx
end Go.Mb
namespace Go.Proofs.YtjhmdfofhnijeaaGreatDoor
open Go.Sy Go.Mb
set_option maxRecDepth 100000
set_option maxHeartbeats 4000000
theorem akG(s:ByteArray)(hs:s.size<=1000000):cJ aK 505 [.str s] (.int .i64 (cT (ls s):Nat),none):=by
 refine c8 VN Tryz.func505 rfl ?_;have c:=akC rE s (by decide) hs;have h1:up rE (ls s)<2^32:=J3 (yj s) (by decide);have h2:=akv (yj s);refine cj zE (c) (cL zE rfl rfl (dY ((?_))));show aA.wrap (ay.wrap ((aa ay.bits ((up rE (ls s):Nat):Int) ^^^ aa ay.bits ((rE:Nat):Int)).toNat:Int))=_;rw[J4 h1 (by decide),wrap_i64 (by have:up rE (ls s) ^^^ rE<2^32:=h2;omega) (by have:up rE (ls s) ^^^ rE<2^32:=h2;omega)];rfl
theorem J6(n k:Nat)(b:Nat)(hb:(2:Int)^(min (b:Int).toNat aA.bits)=(k:Int)):(n:Int).fdiv (2^(min (b:Int).toNat aA.bits))=((n/k:Nat):Int):=by
 rw[hb,aX _ (aW _)];exact(aY n k).symm
theorem akH(n:Nat):bytesOf (λi j=>bT [A.int .u8 (az.wrap (n:Int)),A.int .u8 (az.wrap ((n:Int).fdiv (2^(min (8:Int).toNat aA.bits)))),A.int .u8 (az.wrap ((n:Int).fdiv (2^(min (16:Int).toNat aA.bits)))),A.int .u8 (az.wrap ((n:Int).fdiv (2^(min (24:Int).toNat aA.bits))))] (i*1+j)) 4=bs [n%256,n/256%256,n/65536%256,n/16777216%256]:=by
 have e8:=J6 n 256 8 (by decide);have e16:=J6 n 65536 16 (by decide);have e24:=J6 n 16777216 24 (by decide);have f:∀ m:Nat,az.wrap (m:Int)=((m%256:Nat):Int):=λm=>by rw[E7];omega
 rw[show((8:Nat):Int)=8 from rfl]at e8;rw[show((16:Nat):Int)=16 from rfl]at e16;rw[show((24:Nat):Int)=24 from rfl]at e24;rw[e8,e16,e24,f,f,f,f];rfl
theorem akI{f:Nat->Bool}(h0:f 0=true)(h1:f 1=true)(h2:f 2=true)(h3:f 3=true):oQ f 4=true:=by simp[oQ,h0,h1,h2,h3]
theorem akJ(s:ByteArray)(hs:s.size<=1000000):cJ aK 448 [.str s] (.str (bs (Fb (ls s))),none):=by
 refine c8 VN Tryz.func448 rfl ?_;exact cj zE (akG s hs) (bU zE (rfl) (bU zE (rfl) (bU zE (rfl) (bU zE (akI rfl rfl rfl rfl) (cL zE rfl rfl (bY.of (fU A.str (akH (cT (ls s))))))))))
theorem akK{s:ByteArray}(h:¬ (s.size:Int)>65536):(bs (qy (ls s))).size<=70000:=by
 have h1:=Bh (E8 (n:=(ls s).length) (by rw[sN];omega));rw[rD,qy,a7,sN];rw[sN]at h1;omega
theorem akL(s:ByteArray):ls (bs (qy (ls s)))=qy (ls s):=sO (akF (yj s))
theorem yp(s:ByteArray):cJ aK 378 [.str s] (.cG [.str (yo s).1,.int .i64 (yo s).2],none):=by
 refine c8 VN Tryz.func378 rfl ?_;have c:=TZ s;cases h:decide ((s.size:Int)>65536)with
 |true=>
  rw[show pC s=(.empty,4) by unfold pC;rw[bS h]]at c;exact cj zE (c) (cD zE (rfl) (cL zE rfl rfl (Bf (by unfold yo;rw[bS h];rfl))))
 |false=>
  have h':¬ (s.size:Int)>65536:=eY h;obtain⟨e1,e2⟩:=akE h';rw[e1,e2]at c;have hsz:=akK h';have c2:=akJ (bs (qy (ls s))) (by omega);rw[akL]at c2;exact cj zE (c) (b8 zE (rfl) (cj zE (c2) (bU zE (cw (by rw[rD (Fb _)];show _+4<=_;omega)) (cL zE rfl rfl (Bf (by unfold yo uu;rw[bQ (by rw[h];simp),Bd]))))))
end Go.Proofs.YtjhmdfofhnijeaaGreatDoor
namespace Go.Mb
open Go.Sy
theorem akM{p:List Nat}(h:p.length<=65536):(uu p).length<=p.length+13/\p.length+5<=(uu p).length:=by
 have h1:=Bh (E8 (n:=p.length) (by omega));have h2:0<(encI p.length).length:=List.length_pos_iff.2 (akc _);simp only[uu,qy,a7];have:(Fb (encI p.length++p)).length=4:=rfl;omega
instance:DecidableEq jQ:=λa b=>decidable_of_iff _ (jQ.n5 (a:=a) (b:=b))
def qA(s:ByteArray):List Nat:=encI s.size++ls s
def rF(k:Int):Bool:=k==1||k==3
def lE(x:jQ):List Int:=[x.source,x.created,x.seq,x.off,x.total]
def oa(b:Bool):Int:=if b then 1 else 0
def yq(r:gm):List Int:=
 if rF r.kind then[r.kind,r.time]++([r.item.gp]++lE r.item.id++[r.item.dest,r.item.my,r.item.prio,oa r.item.jR])
 else[r.kind,r.time]++(lE r.id++if r.kind==4 then[r.gp]else[])
def jS(r:gm):List Nat:=gi (yq r)++if rF r.kind then qA r.item.data else[]
def jk(r:gm):List Nat×Int:=
 if sM r !=0 then([],sM r)else if decide ((jS r).length>65536)then([],4)else(uu (jS r),0)
def qB(s:List Nat):List gm->List Nat×Int
 |[]=>(s,0)
 |r::l=>if(jk r).2 !=0 then([],(jk r).2)else qB (s++(jk r).1) l
def qZ(s:List Nat)(l:List gm):List Nat×Int:=
 if(qB s l).2 !=0 then([],(qB s l).2)else if decide ((qB s l).1.length>65536)then([],4)else((qB s l).1,0)
theorem yr{n a b:Int}:fY n a b=true↔a<=n/\n<=b:=by unfold fY;simp
theorem qC{n a b:Int}(h:fY n a b=true)(ha:0<=a)(hb:b<=1152921504606846976):ix n=true:=by rw[yk];rw[yr]at h;omega
theorem T3{x:jQ}(h:uo x=true):∀ y∈lE x,ix y=true:=by
 unfold uo at h;simp only[af,ai,gH]at h;obtain⟨⟨⟨h1,h2⟩,h3⟩,h4⟩:=h;have q:ix x.off=true/\ix x.total=true:=by
  rcases h4 with ⟨a,b⟩|⟨a,b⟩
  .rw[a,b];decide
  refine⟨?_,qC a (by decide) (by decide)⟩;rw[yr]at a b;rw[dG]at b;rw[yk];omega
 intro y hy;simp only[lE,bc,ba,or_false]at hy;rcases hy with rfl|rfl|rfl|rfl|rfl
 .exact qC h1 (by decide) (by decide)
 .exact qC h2 (by decide) (by decide)
 .exact qC h3 (by decide) (by decide)
 .exact q.1
 exact q.2
structure akN(r:gm):Prop where
 kind:r.kind=1\/r.kind=3
 time:fY r.time 0 1099511627776=true
 item:vX r.item=0
 id:r.id= .zero
 gp:r.gp=0
structure akO(r:gm):Prop where
 kind:r.kind=2\/r.kind=4
 time:fY r.time 0 1099511627776=true
 id:uo r.id=true
 item:r.item= .zero
 gp:if r.kind=4 then fY r.gp 0 1152921504606846976=true else r.gp=0
theorem T4{r:gm}:sM r=0↔akN r\/akO r:=by
 unfold sM;constructor
 .intro h;split at h
  .rename_i hk;rw[yr]at hk;split at h
   .rename_i ht;split at h
    .rename_i hs;simp only[ai,gH]at hs;split at h
     .rename_i hi;rw[h]at hi;cases hi
     rename_i hi;split at h
     .cases h
     rename_i hz;simp only[ai,aj,mX,not_or,ak,Classical.not_not]at hz;exact .inl ⟨hs,ht,by simpa using hi,jQ.n5.1 hz.1,hz.2⟩
    rename_i hs;simp only[ai,gH,not_or]at hs;split at h
    .cases h
    rename_i hv;split at h
    .cases h
    rename_i hz;simp only[ai,aj,af,gH,mX,not_or,ak,not_and,Classical.not_not]at hv hz;have hk2:r.kind=2\/r.kind=4:=by omega
    refine .inr ⟨hk2,ht,hv.1,jj.n5.1 hz.1,?_⟩;split
    .rename_i h4;exact hv.2 h4
    exact hz.2 (by omega)
   cases h
  cases h
 rintro(h|h)
 .have hk:fY r.kind 1 4=true:=by rw[yr];rcases h.kind with e|e<;>rw[e]<;>decide
  have hs:(r.kind==1||r.kind==3)=true:=by rcases h.kind with e|e<;>rw[e]<;>rfl
  rw[bS hk,bS h.time,bS hs,bQ (by rw[h.item];decide),bQ (by rw[h.id,h.gp];decide)]
 have hk:fY r.kind 1 4=true:=by rw[yr];rcases h.kind with e|e<;>rw[e]<;>decide
 have hs:¬ (r.kind==1||r.kind==3)=true:=by rcases h.kind with e|e<;>rw[e]<;>decide
 have ht:=h.gp;rw[bS hk,bS h.time,bQ hs,bQ,bQ]
 .rw[h.item];rcases h.kind with e|e
  .rw[bQ (by omega)]at ht;rw[ht];simp[jj.n5.2 rfl]
  rw[e];simp[jj.n5.2 rfl]
 rw[h.id];rcases h.kind with e|e
 .rw[e];simp
 rw[bS e]at ht;rw[ht];simp
theorem T5{x:jj}(h:vX x=0):uo x.id=true/\fY x.gp 0 1152921504606846976=true/\fY x.dest 0 15=true/\fY x.my 1 1099511627776=true/\fY x.prio 0 2=true/\fY x.data.size 1 65536=true:=by
 unfold vX at h;split at h
 .rename_i hv;simp only[af]at hv;split at h
  .rename_i hd;exact⟨hv.1.1.1.1,hv.1.1.1.2,hv.1.1.2,hv.1.2,hv.2,hd⟩
  cases h
 cases h
theorem akP{r:gm}(h:sM r=0):∀ y∈yq r,ix y=true:=by
 have hk:∀ {k:Int},1<=k->k<=4->ix k=true:=λa b=>by rw[yk];omega
 rcases T4.1 h with g|g
 .have hs:rF r.kind=true:=by unfold rF;rcases g.kind with e|e<;>rw[e]<;>rfl
  obtain⟨i1,i2,i3,i4,i5,i6⟩:=T5 g.item;unfold yq;rw[bS hs];intro y hy;simp only[a6,bc,ba,or_false]at hy;rcases hy with (rfl|rfl)|(rfl|hy)|rfl|rfl|rfl|rfl
  .exact hk (by rcases g.kind with e|e<;>omega) (by rcases g.kind with e|e<;>omega)
  .exact qC g.time (by decide) (by decide)
  .exact qC i2 (by decide) (by decide)
  .exact T3 i1 y hy
  .exact qC i3 (by decide) (by decide)
  .exact qC i4 (by decide) (by decide)
  .exact qC i5 (by decide) (by decide)
  unfold oa;split<;>decide
 have hs:¬ rF r.kind=true:=by unfold rF;rcases g.kind with e|e<;>rw[e]<;>decide
 unfold yq;rw[bQ hs];intro y hy;simp only[a6,bc,ba,or_false]at hy;rcases hy with (rfl|rfl)|hy|hy
 .exact hk (by rcases g.kind with e|e<;>omega) (by rcases g.kind with e|e<;>omega)
 .exact qC g.time (by decide) (by decide)
 .exact T3 g.id y hy
 have ht:=g.gp;split at hy
 .rename_i e;rw[bS (by simpa using e)]at ht;simp only[bc,ba,or_false]at hy;subst hy;exact qC ht (by decide) (by decide)
 cases hy
theorem we(l:List Int):∀ x∈gi l,x<256:=by
 intro x hx;simp only[gi,List.mem_flatMap]at hx;obtain⟨y,_,hy⟩:=hx;exact JX hy
end Go.Mb
namespace Go.Proofs.YtjhmdfofhnijeaaGreatDoor
open Go.Sy Go.Mb
set_option maxRecDepth 100000
def i5:List CK:=[.i .i64,.i .i64,.i .i64,.i .i64,.i .i64]
def T6:List CK:=[.i .i64,.i .i64,.i .i64,.i .i64,.i .i64,.i .i64,.i .i64,.i .i64,.i .i64,.b,.s]
def T7:List CK:=[.i .i64,.i .i64,.i .i64,.i .i64,.i .i64,.i .i64,.i .i64,.i .i64,.i .i64,.i .i64,.b,.s,.i .i64,.i .i64,.i .i64,.i .i64,.i .i64,.i .i64,.i .i64]
noncomputable def EN:Env:={ P:=aK,lJ:=lK [(151,i5),(303,T6),(443,T7)] }
theorem akQ:rG aK 6 151=some i5:=by kernel_rfl
theorem akR:rG aK 6 303=some T6:=by kernel_rfl
theorem akS:rG aK 6 443=some T7:=by kernel_rfl
theorem akT:aK.eqGuardType aK.depth 151=false:=by kernel_rfl
theorem akU:aK.eqGuardType aK.depth 303=false:=by kernel_rfl
theorem akV:aK.eqGuardType aK.depth 443=false:=by kernel_rfl
theorem akW:ib EN:=by
 refine zK ?_;intro p hp;simp only[bc,ba,or_false]at hp;rcases hp with rfl|rfl|rfl
 .exact⟨akQ,akT,by rw[Tryz.underlying151];trivial⟩
 .exact⟨akR,akU,by rw[Tryz.underlying303];trivial⟩
 exact⟨akS,akV,by rw[Tryz.underlying443];trivial⟩
noncomputable def CN:Cx:={ E:=EN,inl:=[],ok:=akW }
theorem J7(n lo hi:Int):cJ aK 398 [.int .i64 n,.int .i64 lo,.int .i64 hi] (.bool (fY n lo hi),none):=by
 refine c8 CN Tryz.func398 rfl ?_;refine cK zE (λh=>?_) (λh=>?_)
 .exact cL zE rfl rfl (fk ((T8 h)))
 exact cL zE rfl rfl (fk ((T9 h)))
theorem Ua(x:jQ):cJ aK 400 [.agg x.cells] (.bool (uo x),none):=by
 refine c8 CN Tryz.func400 rfl ?_
 repeat' (first
  |refine zG zE ?_
  |refine NS.call (J7 _ _ _) rfl ?_
  |refine NS.ite (λ_=>?_) (λ_=>?_)
  |refine NS.ret rfl rfl (bY.of (fU A.bool ?_)))
 all_goals (simp_all [uo])
theorem akX(x:jj):cJ aK 399 [.agg x.cells] (.int .i64 (vX x),none):=by
 refine c8 CN Tryz.func399 rfl ?_
 repeat' (first
  |refine zG zE ?_
  |refine NS.call (Ua x.id) rfl ?_
  |refine NS.call (J7 _ _ _) rfl ?_
  |refine NS.ite (λ_=>?_) (λ_=>?_)
  |refine NS.ret rfl rfl (bY.of (fU (A.int .i64) ?_)))
 all_goals (simp_all [vX])
set_option maxHeartbeats 1000000
theorem akY(r:gm):cJ aK 340 [.agg r.cells] (.int .i64 (sM r),none):=by
 refine c8 CN Tryz.func340 rfl ?_
 repeat' (first
  |refine zG zE ?_
  |refine NS.call (akX r.item) rfl ?_
  |refine NS.call (Ua r.id) rfl ?_
  |refine NS.call (J7 _ _ _) rfl ?_
  |refine NS.ite (λ_=>?_) (λ_=>?_)
  |refine NS.ret rfl rfl (bY.of (fU (A.int .i64) ?_)))
 all_goals (simp_all [sM,jQ.eqv,jj.eqv,jQ.zero,jj.zero])
end Go.Proofs.YtjhmdfofhnijeaaGreatDoor
namespace Go.Proofs.YtjhmdfofhnijeaaGreatDoor
open Go.Sy Go.Mb Go.RowKit
set_option maxRecDepth 100000
set_option maxHeartbeats 1000000
abbrev TB:Nat:=514
abbrev TU:Nat:=5
theorem Ub{B b:Nat}{xs:List au}{w w':ar}(h:aC TB TU B b xs w)(hk:Below w.heap.size w w'):aC TB TU B b xs w':=by
 have key:∀ p,aH TB TU B b p xs w->aH TB TU B b p xs w':=by
  rintro p ⟨hB,v,hb,hown,hne⟩;have fu:∀ k o,w.heap[k]? =some o->w'.heap[k]? =some o:=λk o hk'=>by
   rw[hk.block k (Array.getElem?_eq_some_iff.1 hk').1];exact hk'
  refine⟨hB,v,fu _ _ hb,⟨hown.1,?_⟩,hne⟩;rcases hown.2 with hz|⟨g,cap,cur,hv,hg,hc,hr⟩
  .exact .inl hz
  exact .inr ⟨g,cap,cur,hv,hg,fu _ _ hc,hr⟩
 rcases h with h|h
 .exact .inl (key _ h)
 exact .inr (key _ h)
theorem akZ{n:Int}(h:ix n=true)(w:ar):av aK 376 #[.int .i64 n] w λe w'=>e= .returned (.tuple #[.string (bs (encI n)),.int .i64 0])/\Below w.heap.size w w':=by
 have c:=TW n;rw[TY h]at c;refine(c.run w (λ_=>False) [.int .i64 n] (λ_ h=>h.elim) ⟨_,[],rfl,by simp only[R],rfl⟩).mono ?_;rintro e w' ⟨v,l,rfl,hb,hr,_,_⟩;simp only[R]at hr;obtain⟨us,rfl,hus⟩:=hr;simp only[RL,R]at hus;obtain⟨_,_,rfl,rfl,_,_,rfl,rfl,rfl⟩:=hus;exact⟨rfl,hb.below⟩
theorem Uc(a b:ByteArray):aB (a++b)=aB a++aB b:=by
 rw[aF,aF,aF,<- Lib.byteCells_append];simp[aq]
theorem Bk(l:List Int)(hl:l.length<=1000)(h:∀ x∈l,ix x=true):cJ aK 397 [eD l] (.str (bs (gi l)),none):=by
 refine⟨by kernel_rfl,λw X vs hX hr=>?_⟩;obtain⟨v,vs',rfl,hv,rfl⟩:=hr;simp only[eD,R]at hv;obtain⟨a,cap,rfl,h1,h2,h3⟩:=hv;have hlen:∀ k,(gi (l.take k)).length<=9*l.length:=λk=>by
  have:=TX (l:=l.take k) λx hx=>h x (bk hx);rw[br]at this;omega
 have main:av aK 397 #[.slice a l.length cap] w λe w'=>e= .returned (.string (bs (gi l)))/\Below w.heap.size w w':=by
  go_enter Tryz.func397,Tryz.ntmps397
  go_wp2
  go_loopw [10] (λi wr=>∃ k:Nat,k<=l.length/\i= .int .i64 k/\aC TB TU w.heap.size w.heap.size (aB (bs (gi (l.take k)))) wr/\Below w.heap.size w wr) (λi _=>l.length-(intOf i).toNat)
  case atStart=>
   exact⟨0,bG _,rfl,aI TB TU w,(Below.refl _ w).alloc (bD _) _⟩
  case round=>
   obtain⟨k,hk,rfl,hI,hB⟩:=hrel;have hsz:w.heap.size<=wr.heap.size:=hB.size;by_cases hlt:k<l.length
   .obtain⟨ad,rfl,him,hcell⟩:=h3 (by omega);have hin:ix (l.getD k aV)=true:=h _ (by rw[cV hlt];exact List.getElem_mem hlt);have hg:wr.cell? (ad.add k)=some (.int .i64 (l.getD k aV)):=by
     obtain⟨u,hu,_,hu2⟩:=hcell k hlt 0 (by decide);rw[World.cell?_of_block (w:=w) (hB.block _ (by rw[pD];exact him.1))];have e0:ad.add k=ad.add (k*1+0):=by rw[Nat.mul_one,bM]
     rw[e0,hu];have hu2:R w X (A.int .i64 (l.getD k aV)) b7 u:=hu2;simp only[R]at hu2;rw[hu2]
    have hsn:=akk l k hlt;have hl9:=Bh hin;have hlk:=hlen k;obtain⟨z,hz⟩:∃ z,z=l.getD k aV:=⟨_,rfl⟩;rw[<-hz]at hin hg hsn hl9;clear hz hcell
    go_wp2_with (go_at_call 376;refine(akZ hin _).mono ?_)
    rintro e w1 ⟨rfl,hb1⟩;have hs1:=hb1.size
    go_wp2_with (go_at_call 336;refine(Tryz.JU w.heap.size w.heap.size _ _ _ (Ub hI hb1) ?q1 ?q2).mono ?_)
    case q1=>rw[aD,rD,rD];omega
    case q2=>omega
    rintro e w2 ⟨rfl,h5,hb2⟩
    go_wp2
    go_roundw
    case rel=>
     refine⟨k+1,by omega,by go_num,?_,hB.trans ((hb1.mono hsz).trans hb2)⟩;rw[hsn,Bd,Uc];exact .inr h5
    case measure=>simp[intOf];omega
   obtain rfl:k=l.length:=by omega
   rw[bq]at hI;have e0:aB (bs (gi l))=aJ (bs (gi l)).data.toList:=aF _;rw[e0]at hI
   go_wp2_with (go_at_call 339;refine(Any.Builder_String_any aQ Tryz.bX w.heap.size w.heap.size _ _ hI hsz).mono ?_)
   rintro e w1 ⟨rfl,hb1⟩
   go_wp2
   go_ret
   exact⟨by simp,hB.trans hb1⟩
 refine main.mono ?_;rintro e w' ⟨rfl,hb⟩;refine⟨_,.de,rfl,⟨hb.os,hb.tape,hb.output,hb.size,hb.block,bP⟩,by simp only[R],rfl,λb hb=>by cases hb⟩
end Go.Proofs.YtjhmdfofhnijeaaGreatDoor
namespace Go.Mb
open Go.Sy
theorem ak0{s:ByteArray}(h:s.size<=65536):pC s=(bs (qA s),0):=by
 unfold pC;rw[bQ (by simp;omega),qA,Bd,JV]
theorem yu{s:ByteArray}{l:List Nat}(h:ls s=l):yo s=if decide (l.length>65536)then(.empty,4)else(bs (uu l),0):=by
 unfold yo;have e:s.size=l.length:=by rw[<-h,sN]
 rw[e,h];by_cases hl:l.length>65536
 .rw[bS (by simp;omega),bS (by simpa using hl)]
 rw[bQ (by simp;omega),bQ (by simpa using hl)]
def xq(r:List Nat×Int):A:=.cG [.str (bs r.1),.int .i64 r.2]
end Go.Mb
namespace Go.Proofs.YtjhmdfofhnijeaaGreatDoor
open Go.Sy Go.Mb
set_option maxRecDepth 100000
set_option maxHeartbeats 1000000
theorem Bl{l:List Int}(h:∀ x∈l,ix x=true)(hl:l.length<=20):(bs (gi l)).size<=180:=by
 have:=TX h;rw[rD];omega
theorem ak1(r:gm):cJ aK 337 [.agg r.cells] (xq (jk r),none):=by
 have c:=akY r;unfold jk xq;by_cases h:(sM r !=0)=true
 .rw[bS h];refine c8 CN aM rfl ?_;exact cj zE (c) (cD zE (h) (cL zE rfl rfl (bY.refl _)))
 rw[bQ h];have h:sM r=0:=by simpa using h
 have hin:=akP h;rw[h]at c;rcases T4.1 h with g|g
 .have hs:rF r.kind=true:=by unfold rF;rcases g.kind with e|e<;>rw[e]<;>rfl
  have hsz:r.item.data.size<=65536:=by have:=T5 g.item;have:=this.2.2.2.2.2;rw[yr]at this;omega
  have hi:yq r=[r.kind,r.time]++([r.item.gp]++lE r.item.id++[r.item.dest,r.item.my,r.item.prio,oa r.item.jR]):=bS hs;rw[hi]at hin;have hin1:∀ y∈[r.kind,r.time],ix y=true:=λy hy=>hin y (bg _ hy);have hin2:∀ y∈[r.item.gp]++lE r.item.id++[r.item.dest,r.item.my,r.item.prio,oa r.item.jR],ix y=true:=λy hy=>hin y (a8 _ hy);have c1:=Bk [r.kind,r.time] (by show 2<=1000;decide) hin1;have c2:=Bk ([r.item.gp]++lE r.item.id++[r.item.dest,r.item.my,r.item.prio,oa r.item.jR]) (by show 10<=1000;decide) hin2;have b1:=Bl hin1 (by show 2<=20;decide);have b2:=Bl hin2 (by show 10<=20;decide);have ct:cJ aK 374 [.str r.item.data] (.cG [.str (bs (qA r.item.data)),.int .i64 0],none):=by
   have c0:=TZ r.item.data;rw[ak0 hsz]at c0;exact c0
  have hl:ls (bs (gi [r.kind,r.time])++(bs (gi ([r.item.gp]++lE r.item.id++[r.item.dest,r.item.my,r.item.prio,oa r.item.jR]))++bs (qA r.item.data)))=jS r:=by
   rw[Bc,Bc,sO (we _),sO (we _),sO (λx hx=>by
    rcases a6.1 hx with h|h
    .exact JX h
    exact yj _ x h)]
   unfold jS;rw[bS hs,hi];simp only[gi,bh,bp]
  have htl:(bs (qA r.item.data)).size<=65600:=by
   have:=Bh (E8 (n:=r.item.data.size) (by omega));rw[rD,qA,a7,sN];omega
  refine c8 CN aM rfl ?_;refine cj zE (c) (b8 zE (rfl) (cj zE (c1.le (db.cons (bY.sl rfl λi hi j hj=>?_) db.nil)) ?_))
  .have hj:j<1:=hj;obtain rfl:j=0:=by omega
   have hi:i<2:=hi;rcases(by omega:i=0\/i=1)with rfl|rfl<;>rfl
  rcases g.kind with hk|hk
  .refine cD zE (by rw[hk];rfl) (cD zE (by rw[hk];rfl) ?_);have hten:∀ i,i<10->i=0\/i=1\/i=2\/i=3\/i=4\/i=5\/i=6\/i=7\/i=8\/i=9:=λi h=>by omega
   refine cK zE (λcu=>?_) (λcu=>?_)
   .have cu:r.item.jR=true:=cu;refine cj zE (ct) (b8 zE (rfl) (cj zE (c2.le (db.cons (bY.sl rfl λi hi j hj=>?_) db.nil)) ?_))
    .have hj:j<1:=hj;obtain rfl:j=0:=by omega
     rcases hten i hi with rfl|rfl|rfl|rfl|rfl|rfl|rfl|rfl|rfl|rfl
     all_goals first
      |rfl
      |(show A.int .i64 1=A.int .i64 (oa r.item.jR);rw[cu];rfl)
    refine bU zE (cw (by omega)) (bU zE (cw (by rw[al];omega)) ?_);have cse:=yp (bs (gi [r.kind,r.time])++(bs (gi ([r.item.gp]++lE r.item.id++[r.item.dest,r.item.my,r.item.prio,oa r.item.jR]))++bs (qA r.item.data)));rw[yu (l:=jS r) hl]at cse;by_cases hb:(jS r).length>65536
    .rw[bS (cw hb)]at cse;rw[bS (cw hb)];exact cj zE (cse) (cD zE (rfl) (cL zE rfl rfl (bY.refl _)))
    rw[bQ (by simpa using hb)]at cse;rw[bQ (by simpa using hb)];exact cj zE (cse) (b8 zE (rfl) (cL zE rfl rfl (bY.refl _)))
   have cu:r.item.jR=false:=cu;refine cj zE (ct) (b8 zE (rfl) (cj zE (c2.le (db.cons (bY.sl rfl λi hi j hj=>?_) db.nil)) ?_))
   .have hj:j<1:=hj;obtain rfl:j=0:=by omega
    rcases hten i hi with rfl|rfl|rfl|rfl|rfl|rfl|rfl|rfl|rfl|rfl
    all_goals first
     |rfl
     |(show A.int .i64 0=A.int .i64 (oa r.item.jR);rw[cu];rfl)
   refine bU zE (cw (by omega)) (bU zE (cw (by rw[al];omega)) ?_);have cse:=yp (bs (gi [r.kind,r.time])++(bs (gi ([r.item.gp]++lE r.item.id++[r.item.dest,r.item.my,r.item.prio,oa r.item.jR]))++bs (qA r.item.data)));rw[yu (l:=jS r) hl]at cse;by_cases hb:(jS r).length>65536
   .rw[bS (cw hb)]at cse;rw[bS (cw hb)];exact cj zE (cse) (cD zE (rfl) (cL zE rfl rfl (bY.refl _)))
   rw[bQ (by simpa using hb)]at cse;rw[bQ (by simpa using hb)];exact cj zE (cse) (b8 zE (rfl) (cL zE rfl rfl (bY.refl _)))
  refine b8 zE (by rw[hk];rfl) (cD zE (by rw[hk];rfl) ?_);have hten:∀ i,i<10->i=0\/i=1\/i=2\/i=3\/i=4\/i=5\/i=6\/i=7\/i=8\/i=9:=λi h=>by omega
  refine cK zE (λcu=>?_) (λcu=>?_)
  .have cu:r.item.jR=true:=cu;refine cj zE (ct) (b8 zE (rfl) (cj zE (c2.le (db.cons (bY.sl rfl λi hi j hj=>?_) db.nil)) ?_))
   .have hj:j<1:=hj;obtain rfl:j=0:=by omega
    rcases hten i hi with rfl|rfl|rfl|rfl|rfl|rfl|rfl|rfl|rfl|rfl
    all_goals first
     |rfl
     |(show A.int .i64 1=A.int .i64 (oa r.item.jR);rw[cu];rfl)
   refine bU zE (cw (by omega)) (bU zE (cw (by rw[al];omega)) ?_);have cse:=yp (bs (gi [r.kind,r.time])++(bs (gi ([r.item.gp]++lE r.item.id++[r.item.dest,r.item.my,r.item.prio,oa r.item.jR]))++bs (qA r.item.data)));rw[yu (l:=jS r) hl]at cse;by_cases hb:(jS r).length>65536
   .rw[bS (cw hb)]at cse;rw[bS (cw hb)];exact cj zE (cse) (cD zE (rfl) (cL zE rfl rfl (bY.refl _)))
   rw[bQ (by simpa using hb)]at cse;rw[bQ (by simpa using hb)];exact cj zE (cse) (b8 zE (rfl) (cL zE rfl rfl (bY.refl _)))
  have cu:r.item.jR=false:=cu;refine cj zE (ct) (b8 zE (rfl) (cj zE (c2.le (db.cons (bY.sl rfl λi hi j hj=>?_) db.nil)) ?_))
  .have hj:j<1:=hj;obtain rfl:j=0:=by omega
   rcases hten i hi with rfl|rfl|rfl|rfl|rfl|rfl|rfl|rfl|rfl|rfl
   all_goals first
    |rfl
    |(show A.int .i64 0=A.int .i64 (oa r.item.jR);rw[cu];rfl)
  refine bU zE (cw (by omega)) (bU zE (cw (by rw[al];omega)) ?_);have cse:=yp (bs (gi [r.kind,r.time])++(bs (gi ([r.item.gp]++lE r.item.id++[r.item.dest,r.item.my,r.item.prio,oa r.item.jR]))++bs (qA r.item.data)));rw[yu (l:=jS r) hl]at cse;by_cases hb:(jS r).length>65536
  .rw[bS (cw hb)]at cse;rw[bS (cw hb)];exact cj zE (cse) (cD zE (rfl) (cL zE rfl rfl (bY.refl _)))
  rw[bQ (by simpa using hb)]at cse;rw[bQ (by simpa using hb)];exact cj zE (cse) (b8 zE (rfl) (cL zE rfl rfl (bY.refl _)))
 have hs:¬ rF r.kind=true:=by unfold rF;rcases g.kind with e|e<;>rw[e]<;>decide
 have hi:yq r=[r.kind,r.time]++(lE r.id++if r.kind==4 then[r.gp]else[]):=bQ hs;rw[hi]at hin;have hin1:∀ y∈[r.kind,r.time],ix y=true:=λy hy=>hin y (bg _ hy);have hin2:∀ y∈lE r.id,ix y=true:=λy hy=>hin y (a8 _ (bg _ hy));have c1:=Bk [r.kind,r.time] (by show 2<=1000;decide) hin1;have c2:=Bk (lE r.id) (by show 5<=1000;decide) hin2;have b1:=Bl hin1 (by show 2<=20;decide);have b2:=Bl hin2 (by show 5<=20;decide);refine c8 CN aM rfl ?_;refine cj zE (c) (b8 zE (rfl) (cj zE (c1.le (db.cons (bY.sl rfl λi hi j hj=>?_) db.nil)) ?_))
 .have hj:j<1:=hj;obtain rfl:j=0:=by omega
  have hi:i<2:=hi;rcases(by omega:i=0\/i=1)with rfl|rfl<;>rfl
 refine b8 zE (by rcases g.kind with hk|hk<;>rw[hk]<;>rfl) (b8 zE (by rcases g.kind with hk|hk<;>rw[hk]<;>rfl) (cj zE (c2.le (db.cons (bY.sl rfl λi hi j hj=>?_) db.nil)) ?_))
 .have hj:j<1:=hj;obtain rfl:j=0:=by omega
  have hi:i<5:=hi;rcases(by omega:i=0\/i=1\/i=2\/i=3\/i=4)with rfl|rfl|rfl|rfl|rfl<;>rfl
 refine bU zE (cw (by omega)) ?_;rcases g.kind with hk|hk
 .have hl:ls (bs (gi [r.kind,r.time])++bs (gi (lE r.id)))=jS r:=by
   rw[Bc,sO (we _),sO (we _)];unfold jS;rw[bQ hs,hi,bQ (by rw[hk];decide)];simp only[gi,bh,bx]
  refine b8 zE (by rw[hk];rfl) ?_;have cse:=yp (bs (gi [r.kind,r.time])++bs (gi (lE r.id)));rw[yu (l:=jS r) hl]at cse;by_cases hb:(jS r).length>65536
  .rw[bS (cw hb)]at cse;rw[bS (cw hb)];exact cj zE (cse) (cD zE (rfl) (cL zE rfl rfl (bY.refl _)))
  rw[bQ (by simpa using hb)]at cse;rw[bQ (by simpa using hb)];exact cj zE (cse) (b8 zE (rfl) (cL zE rfl rfl (bY.refl _)))
 have hin3:∀ y∈[r.gp],ix y=true:=λy hy=>hin y (a8 _ (a8 _ (by rw[bS (by rw[hk];rfl)];exact hy)));have c3:=Bk [r.gp] (by show 1<=1000;decide) hin3;have b3:=Bl hin3 (by show 1<=20;decide);have hl:ls (bs (gi [r.kind,r.time])++bs (gi (lE r.id))++bs (gi [r.gp]))=jS r:=by
  rw[Bc,Bc,sO (we _),sO (we _),sO (we _)];unfold jS;rw[bQ hs,hi,bS (by rw[hk];rfl)];simp only[gi,bh,bx,bp]
 refine cD zE (by rw[hk];rfl) (cj zE (c3.le (db.cons (bY.sl rfl λi hi j hj=>?_) db.nil)) ?_)
 .have hj:j<1:=hj;obtain rfl:j=0:=by omega
  have hi:i<1:=hi;obtain rfl:i=0:=by omega
  rfl
 refine bU zE (cw (by rw[al];omega)) ?_;have cse:=yp (bs (gi [r.kind,r.time])++bs (gi (lE r.id))++bs (gi [r.gp]));rw[yu (l:=jS r) hl]at cse;by_cases hb:(jS r).length>65536
 .rw[bS (cw hb)]at cse;rw[bS (cw hb)];exact cj zE (cse) (cD zE (rfl) (cL zE rfl rfl (bY.refl _)))
 rw[bQ (by simpa using hb)]at cse;rw[bQ (by simpa using hb)];exact cj zE (cse) (b8 zE (rfl) (cL zE rfl rfl (bY.refl _)))
end Go.Proofs.YtjhmdfofhnijeaaGreatDoor
namespace Go.Mb
open Go.Sy
def kg(s:List Nat)(l:List gm):List Nat:=s++l.flatMap λr=>(jk r).1
theorem ak2(s:List Nat)(l:List gm)(r:gm):kg s (l++[r])=kg s l++(jk r).1:=by simp[kg]
theorem Ud:∀ {l:List gm} {k:Nat} {s:List Nat},k<l.length->(∀i,i<k->(jk (l.getD i aV)).2=0)->(jk (l.getD k aV)).2≠0->qB s l=([],(jk (l.getD k aV)).2)
 |[],k,s,h,_,_=>dP h (bK _)
 |r::l,0,s,_,_,h=>by
  have h:(jk r).2≠0:=h;rw[qB,bS (by simpa using h)];rfl
 |r::l,k+1,s,h,h1,h2=>by
  have h0:(jk r).2=0:=h1 0 (by omega);rw[qB,bQ (by rw[h0];decide)];exact Ud (k:=k) (by simpa using h) (λi hi=>h1 (i+1) (by omega)) h2
theorem Ue:∀ {l:List gm} {s:List Nat},(∀i,i<l.length->(jk (l.getD i aV)).2=0)->qB s l=(kg s l,0)
 |[],s,_=>by simp[qB,kg]
 |r::l,s,h=>by
  have h0:(jk r).2=0:=h 0 (by simp);rw[qB,bQ (by rw[h0];decide),Ue (λi hi=>h (i+1) (by simpa using hi))];simp[kg]
theorem Uf(r:gm):(jk r).1.length<=65600:=by
 unfold jk;split
 .simp
 split
 .simp
 rename_i h;have:=(akM (p:=jS r) (by simpa using h)).1;have h:(jS r).length<=65536:=by simpa using h
 show(uu (jS r)).length<=_;omega
theorem J8(s:List Nat):∀ (l:List gm),(kg s l).length<=s.length+65600*l.length
 |[]=>by simp[kg]
 |r::l=>by
  have h1:=J8 s l;have h2:=Uf r;simp only[kg,bn,a7,bu]at h1⊢;omega
end Go.Mb
namespace Go.Proofs.YtjhmdfofhnijeaaGreatDoor
open Go.Sy Go.Mb Go.RowKit
set_option maxRecDepth 100000
set_option maxHeartbeats 1000000
section
variable {P:Program} {ops:Array Oper} {rest:List Oper} {o:Oper} {a:Act} {Q:Exit->Act->ar->Prop} {w:ar}
theorem Ug(hgd:o.guard=none){t:TypeId}{x:Operand}(ho:o.op= .load t x){p v:au}(hp:a.eval x=p)(hr:(Instr.loadAt t p).run P w= .ok v w)(h:wpList P ops Q rest (a.put o.dst v) w):wpList P ops Q (o::rest) a w:=by
 refine wpList_plain hgd λK hK=>?_;unfold Oper.wp execOp;simp only[ho,hp,aU,hr,aR,aT];exact hK _ _ h
theorem ak3(hgd:o.guard=none){t bt:TypeId}{x y:Operand}(ho:o.op= .store t x y){b s:Nat}{us:List au}{cur:Array au}(hx:a.eval x= .pointer (some ⟨b,0,none⟩))(hy:a.eval y= .agg us.toArray)(hsz:gY P t=some s)(hl:us.length=s)(hg:w.heap[b]? =some (.cells cur bt (0,0)))(hc:cur.size=s)(h1:∀ v∈us,v.oneCell'=true)(h:wpList P ops Q rest (a.put o.dst undef) (w.setRow b us.toArray)):wpList P ops Q (o::rest) a w:=by
 refine wpList_plain hgd λK hK=>?_;have hr:=wg P b 0 bt (0,0) us 0 cur w hg (.inr rfl) (by omega) h1;have e:(cur.toList.take (0+0)++us++cur.toList.drop (0+0+us.length)).toArray=us.toArray:=by
  rw[List.drop_eq_nil_of_le (by simp;omega)];simp
 rw[e]at hr;have hrun:(Instr.storeAt t (.pointer (some ⟨b,0,none⟩)) (.agg us.toArray)).run P w= .ok () (w.setRow b us.toArray):=by
  have hvs:(Value.agg us.toArray).cells.size=s:=by show us.toArray.size=s;simpa using hl
  simp only[Instr.storeAt,Instr.sureAddr,storeVar,aU,aT,aR,iy hsz,hvs,ne_eq,not_true_eq_false,ic];exact hr
 unfold Oper.wp execOp;simp only[ho,hx,hy,aU,hrun,aR,aT];exact hK _ _ h
end
theorem ak4(r:gm)(v:au)(w:ar)(X:Nat->Prop)(hX:∀ b,X b->b<w.heap.size)(hv:R w X (.agg r.cells) b7 v):av aK 337 #[v] w λe w'=>e= .returned (.tuple #[.string (bs (jk r).1),.int .i64 (jk r).2])/\Below w.heap.size w w':=by
 refine((ak1 r).run w X [v] hX ⟨_,[],rfl,hv,rfl⟩).mono ?_;rintro e w' ⟨u,l,rfl,hb,hr,_,_⟩;simp only[xq,R]at hr;obtain⟨us,rfl,hus⟩:=hr;simp only[RL,R]at hus;obtain⟨_,_,rfl,rfl,_,_,rfl,rfl,rfl⟩:=hus;exact⟨rfl,hb.below⟩
theorem Z9(s:ByteArray)(l:List gm)(hs:s.size<=100000)(hl:l.length<=100000):cJ aK 288 [.str s,Hs l] (xq (qZ (ls s) l),none):=by
 refine⟨by kernel_rfl,λw X vs hX hr=>?_⟩;obtain⟨v0,vs0,rfl,hv0,hr⟩:=hr;obtain⟨v,vs',rfl,hv,rfl⟩:=hr;simp only[R]at hv0;subst hv0;simp only[Hs,R]at hv;obtain⟨a,cap,rfl,h1,h2,h3⟩:=hv;have main:av aK 288 #[.string s,.slice a l.length cap] w λe w'=>e= .returned (.tuple #[.string (bs (qZ (ls s) l).1),.int .i64 (qZ (ls s) l).2])/\Below w.heap.size w w':=by
  go_enter Tryz.func288,Tryz.ntmps288
  go_wp2_with (go_at_call 336;refine(Tryz.JU w.heap.size w.heap.size [] _ _ (aI TB TU w) ?q1 ?q2).mono ?_)
  case q1=>simp;omega
  case q2=>simp
  rintro e w0 ⟨rfl,h5,hb0⟩;have hb0:Below w.heap.size w w0:=((Below.refl _ w).alloc (bD _) _).trans hb0
  go_wp2
  go_loopw [15] (λi wr=>∃ k:Nat,k<=l.length/\i= .int .i64 k/\aC TB TU w.heap.size w.heap.size (aB (bs (kg (ls s) (l.take k)))) wr/\Below w.heap.size w wr/\Hid (∀i,i<k->(jk (l.getD i aV)).2=0)) (λi _=>l.length-(intOf i).toNat)
  case atStart=>
   refine⟨0,bG _,rfl,?_,hb0,λi hi=>dP hi (bK _)⟩;have e:bs (kg (ls s) (l.take 0))=s:=by rw[List.take_zero];unfold kg;simp[JV]
   rw[e];exact .inr h5
  case round=>
   obtain⟨k,hk,rfl,hI,hB,hH⟩:=hrel;have hsz:w.heap.size<=wr.heap.size:=hB.size;by_cases hlt:k<l.length
   .obtain⟨ad,rfl,him,hcell⟩:=h3 (by omega);have hip:R wr X (.ip 19 (cO gm.cells l k)) b7 (.pointer (some (ad.add (k*19)))):=by
     refine⟨_,rfl,λ_=>⟨by rw[pD];exact⟨bJ him.1 hsz,him.2⟩,λj hj=>?_⟩⟩;obtain⟨u,hu,_,hu2⟩:=hcell k hlt j hj;refine⟨u,?_,R.later _ b7 b7 u ⟨hsz,λb hb _=>hB.block b hb,λ_ _ h=>h,λ_=>.inl rfl⟩ hu2⟩;rw[add_add,World.cell?_of_block (w:=w) (hB.block _ (by rw[pD];exact him.1))];exact hu
    obtain⟨v',hload,hv'⟩:=J9 (P:=aK) (bR:=[]) (t:=443) (a':=.agg (l.getD k aV).cells) (λid=>by exact .inr rfl) hip rfl;clear hip hcell;obtain⟨r,hr⟩:∃ r,r=l.getD k aV:=⟨_,rfl⟩;have hsn:bs (kg (ls s) (l.take (k+1)))=bs (kg (ls s) (l.take k))++bs (jk r).1:=by rw[gg hlt,ak2,Bd,<- hr]
    have hrk:(jk (l.getD k aV)).2=(jk r).2:=by rw[hr]
    have hal:(bs (kg (ls s) (l.take k))).size<=10000000000:=by
     have:=J8 (ls s) (l.take k);rw[sN,br]at this;rw[rD];omega
    have hrl:=Uf r;rw[<-hr]at hv';simp only[R]at hv';obtain⟨us,rfl,hus⟩:=hv';have hul:us.length=19:=hus.len;have hone:∀ u∈us,u.oneCell'=true:=RL.yv hus rfl;have hus2:∀ w' X',RL w' X' r.cells b7 us:=λw' X'=>(R.closed (w:=wr) (O:=X) (ρ:=b7) b7 5).2 r.cells us rfl hus |> λh=>by
     simp only[gm.cells,RL,R]at h ⊢;exact h
    clear hr;have hl2:∀ Z bt,(Instr.loadAt 443 (.pointer (some ⟨wr.heap.size,0,none⟩))).run aK ((wr.alloc (.cells Z bt)).setRow wr.heap.size us.toArray)= .ok (.agg us.toArray) ((wr.alloc (.cells Z bt)).setRow wr.heap.size us.toArray):=λZ bt=>by
     have hh:=setRow_heap (wr.alloc (.cells Z bt)) wr.heap.size Z us.toArray bt _ (heap_alloc_new _ _);refine Ff (by kernel_rfl) (by kernel_rfl) _ us hul λj v hj=>?_;rw[show(⟨wr.heap.size,0,none⟩:Addr).add j=⟨wr.heap.size,0+j,none⟩from na _ _ _,sC hh,bF];exact hj
    have hB1:∀ Z bt,fP wr.heap.size wr ((wr.alloc (.cells Z bt)).setRow wr.heap.size us.toArray):=λZ bt=>Uh ((fP.refl _ _).alloc (bD _) _) (bD _) _
    go_wp2_with (first|(refine Ug rfl rfl rfl hload ?_)|(refine ak3 (s:=19) rfl rfl rfl rfl (by kernel_rfl) hul (heap_alloc_new _ _) rfl hone ?_)|(refine Ug rfl rfl rfl (hl2 _ _) ?_)|(go_at_call 337;refine(ak4 r (.agg us.toArray) _ (λ_=>False) (λ_ h=>h.elim) ⟨us,rfl,hus2 _ _⟩).mono ?_))
    rintro e w3 ⟨rfl,hb3⟩;have hb4:Below wr.heap.size wr w3:=((hB1 _ _).below).trans (hb3.mono (hB1 _ _).size);have hs3:=hb4.size;by_cases hz:(jk r).2=0
    .go_wp2_with (go_at_call 336;refine(Tryz.JU w.heap.size w.heap.size _ _ _ (Ub hI hb4) ?q1 ?q2).mono ?_)
     case q1=>rw[aD,rD (jk r).1];omega
     case q2=>omega
     rintro e w4 ⟨rfl,h6,hb5⟩
     go_wp2
     go_roundw
     case rel=>
      refine⟨k+1,by omega,by go_num,?_,(hB.trans (hb4.mono hsz)).trans hb5,λi hi=>?_⟩
      .rw[hsn,Uc];exact .inr h6
      by_cases hik:i=k
      .rw[hik,hrk];exact hz
      exact hH i (by omega)
     case measure=>simp[intOf];omega
    have ha:qZ (ls s) l=([],(jk r).2):=by
     have:=Ud (s:=ls s) hlt hH (by rw[hrk];exact hz);rw[hrk]at this;unfold qZ;rw[this,bS (by simpa using hz)]
    go_wp2
    go_ret2
    exact⟨by rw[ha];rfl,hB.trans (hb4.mono hsz)⟩
   obtain rfl:k=l.length:=by omega
   rw[bq]at hI;have hal:(kg (ls s) l).length<=10000000000:=by
    have:=J8 (ls s) l;rw[sN]at this;omega
   have ha:=Ue (s:=ls s) hH;have hcl:(aB (bs (kg (ls s) l))).length=(kg (ls s) l).length:=by rw[aD,rD]
   have e0:aB (bs (kg (ls s) l))=aJ (bs (kg (ls s) l)).data.toList:=aF _;have hln:=Any.Builder_Len Tryz.aj6 w.heap.size w.heap.size _ wr hI;rw[hcl]at hln;rw[e0]at hI;by_cases hbig:(kg (ls s) l).length>65536
   .have hm:qZ (ls s) l=([],4):=by
     unfold qZ;rw[ha,bQ (by simp),bS (by simpa using hbig)]
    go_wp2_with (go_at_call 338;refine hln.mono ?_)
    rintro e w1 ⟨rfl,rfl⟩
    go_wp2
    go_ret2
    exact⟨by rw[hm];rfl,hB⟩
   have hm:qZ (ls s) l=(kg (ls s) l,0):=by
    unfold qZ;rw[ha,bQ (by simp),bQ (by simpa using hbig)]
   go_wp2_with (go_at_call 338;refine hln.mono ?_)
   rintro e w1 ⟨rfl,rfl⟩
   go_wp2_with (go_at_call 339;refine(Any.Builder_String_any aQ Tryz.bX w.heap.size w.heap.size _ _ hI hsz).mono ?_)
   rintro e w1 ⟨rfl,hb1⟩
   go_wp2
   go_ret2
   exact⟨by rw[hm];rfl,hB.trans hb1⟩
 refine main.mono ?_;rintro e w' ⟨rfl,hb⟩;refine⟨_,.de,rfl,⟨hb.os,hb.tape,hb.output,hb.size,hb.block,bP⟩,?_,rfl,λb hb=>by cases hb⟩;simp only[xq,R];exact⟨_,rfl,_,_,rfl,by simp only[R],_,_,rfl,by simp only[R],rfl⟩
end Go.Proofs.YtjhmdfofhnijeaaGreatDoor
