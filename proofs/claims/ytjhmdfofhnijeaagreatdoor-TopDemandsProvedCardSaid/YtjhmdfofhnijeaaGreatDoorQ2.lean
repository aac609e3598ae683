import Derived.Test.YtjhmdfofhnijeaaGreatDoorQ1
import Derived.Shelf.Sort.Plain
import Derived.Shelf.Slices.In.SortNone
open Array renaming getElem?_append_left->aa, getElem?_modify->ab
open Bool renaming false_eq_true->ae, false_and->af, true_and->ai, false_or->aj, true_or->ak, and_eq_true->al
open Go renaming TypeId->aq, Value->ar
open Go.IntKind renaming i64->au
open Go.Proofs.Tryz renaming prog->av
open Go.Sort renaming ahead->ay
open Go.Value renaming int->az
open Inhabited renaming default->aA
open Int renaming le_refl->aB
open List renaming mem_cons_of_mem->aC, mem_cons_self->aD, getElem_mem->aF, length_append->aG, length_cons->aH, length_nil->aI, pairwise_iff_getElem->aJ, mem_cons->aK, getElem?_eq_none->aL, take_length->aM, getElem?_eq_getElem->aN, contains_iff_mem->aO, getElem?_drop->aP, ext_getElem?->aQ, drop_length->aR, mem_map->aS, getD->aT
open Nat renaming le_refl->aU, not_lt_zero->aV, lt_or_ge->aW, mul_one->aX, zero_le->aY
set_option linter.all false
namespace Go.Sy
open Go.RowKit Go.Sort Go.Shelf Go.Proofs
variable [fI]
section
variable {α:Type} [Inhabited α] {enc:α->ar} {w:World} {g o m:Nat} {d:Array α} {os:Array Obj}
theorem SG{b:Nat}(hb:b<w.heap.size)(hne:b≠g):(grow (putRow enc (ay w m) g o d) os).heap[b]? =w.heap[b]?:=by
 simp only[grow,putRow,mapBlock,ay];rw[aa (by simpa using hb),ab,bQ (Ne.symm hne)]
theorem SH{c:Array ar}{e:aq}{fr:Nat×Nat}(hg:w.heap[g]? =some (.cells c e fr)):(grow (putRow enc (ay w m) g o d) os).heap[g]? =some (.cells (putCells enc o d c) e fr):=by
 have hb:g<w.heap.size:=by
  rcases aW g w.heap.size with h|h
  .exact h
  rw[Array.getElem?_eq_none h]at hg;cases hg
 simp only[grow,putRow,mapBlock,ay];rw[aa (by simpa using hb),ab,bS rfl,hg];rfl
theorem SF:fP 0 w (grow (putRow enc (ay w m) g o d) os):=
 ⟨rfl,rfl,rfl,by simp[grow,putRow,mapBlock,ay],λk hk=>by omega,fI.le (by show w.drawn<=w.drawn+m;omega)⟩
theorem SE{c:Array ar}{e:aq}{fz:Nat×Nat}(hg:w.heap[g]? =some (.cells c e fz))(hz:c.size<=fz.1\/fz.2=0)(j:Nat)(hj:j<c.size):w.frozen? ⟨g,j,none⟩=false:=by
 obtain⟨lo,hi⟩:=fz;simp only[World.frozen?,hg,Bool.and_eq_false_iff,gU];simp only at hz;omega
theorem SI{c:Array ar}{n o:Nat}(hn:d.size=n)(hc:o+n<=c.size):((putCells enc o d c).toList.drop o).take n=d.toList.map enc:=by
 apply aQ;intro k;rw[List.getElem?_take];split
 .rename_i hk;have hk':k<d.size:=by omega
  rw[aP];simp only[putCells,Array.toList_mapIdx,List.getElem?_mapIdx,List.getElem?_map];rw[aN (by simp;omega),aN (by simpa using hk')];simp only[Option.map_some];rw[bS (by omega),Nat.add_sub_cancel_left,getElem!_pos d k hk'];simp
 rename_i hk;rw[aL];simp;omega
end
def Bz(l:List Int):Nat->Nat->A:=λi j=>bT [.int .i64 (l.getD i aA)] j
theorem alT{w:World}{O:Nat->Prop}{e:aq}{zs:List Int}{l:Loc}(h:fR w O b7 (.row e 1 zs.length (Bz zs)) l):∃ v,l= .row v/\jP w e 1 v zs.length (zs.map (az .i64)):=by
 obtain⟨v,xs,h1,h2,h3,h4⟩:=h;refine⟨v,h1,?_⟩;have hx:xs=zs.map (az .i64):=by
  apply aQ;intro k;have hl:=h2.1;rcases aW k zs.length with hk|hk
  .obtain⟨u,h5,h6⟩:=h4 k hk 0 (by omega);simp only[aX,Nat.add_zero]at h5;simp only[Bz,bT,R]at h6;rw[h5,h6];simp[aT,hk]
  rw[aL (by omega),aL (by simp;omega)]
 rw[<-hx];exact h2
theorem U4{w:World}{O:Nat->Prop}{e:aq}{zs:List Int}{v:ar}(h:jP w e 1 v zs.length (zs.map (az .i64))):fR w O b7 (.row e 1 zs.length (Bz zs)) (.row v):=by
 refine⟨v,_,rfl,h,?_,λi hi j hj=>?_⟩
 .intro u hu;simp only[aS]at hu;obtain⟨x,_,rfl⟩:=hu;rfl
 obtain rfl:j=0:=by omega
 refine⟨.int .i64 (zs.getD i aA),?_,rfl⟩;simp[aT,hi]
def kR(zs:List Int):List Int:=zs.mergeSort λx y=>decide (x<=y)
theorem A2(zs:List Int):(kR zs).length=zs.length:=by simp[kR]
theorem SY{P:Program}{ρ:Ren}(L:Lays.n189 P ρ)(hent:jw P (ρ.f 189)=true)(zs:List Int)(e:aq)(hsz:zs.length<4611686018427387904):
  mq P (ρ.f 189) [.own 0] (.row e 1 zs.length (Bz zs)) (λob r=>ob= .row e 1 zs.length (Bz (kR zs))/\r= .cG []):=by
 refine⟨hent,λw l vs hb cy hr=>?_⟩;obtain⟨v,rfl,hx,hh⟩:=alT cy;simp only[RL,R,dM]at hr;obtain⟨v',_,rfl,⟨rfl,_⟩,rfl⟩:=hr;rcases hh with ⟨hn,a,rfl⟩|⟨g,o,cap,cur,rfl,⟨fz,hg,hfz⟩,h1,h2,h3,h4⟩
 .have hz:zs=[]:=List.eq_nil_of_length_eq_zero hn;subst hz;refine(Any.slices_Sort_int_none L a 0 w).mono ?_;rintro e' w' ⟨rfl,rfl⟩;refine⟨_,_,_,rfl,⟨rfl,rfl⟩,fP.refl _ _,λ_ _ _=>rfl,?_,rfl,?_⟩
  .rw[show kR []=[] by simp[kR]];exact U4 (zs:=[]) ⟨rfl,.inl ⟨rfl,a,rfl⟩⟩
  simp[R,RL]
 simp only[aX]at h3 h4 hx;have Jb:g<w.heap.size:=hb g rfl;have hH:Holds (az .i64) w g o zs.toArray:=by
  intro j hj;simp only[List.size_toArray]at hj;refine⟨?_,SE hg (vL hfz) _ (by omega)⟩;have vM:w.heap[g]? =some (.cells (List.toArray cur.toList) e fz):=by simpa using hg
  rw[sC vM];have h5:cur.toList[o+j]? =((cur.toList.drop o).take zs.length)[j]?:=by rw[List.getElem?_take_of_lt hj,aP]
  rw[h5,h4];simp[hj]
 refine(Any.slices_Sort_int L g o (cap+1) zs w hH Jb hsz).mono ?_;rintro e' w' ⟨rfl,m,os,rfl⟩;refine⟨_,_,_,rfl,⟨rfl,rfl⟩,SF,λb hb' hne=>SG hb' (λe=>hne (by rw[e];rfl)),?_,rfl,?_⟩
 .have hl:=A2 zs;have:=U4 (w:=grow (putRow (az .i64) (ay w m) g o (kR zs).toArray) os) (O:=λ_=>True) (e:=e) (zs:=kR zs) (v:=.slice (some ⟨g,o,none⟩) zs.length (cap+1)) ⟨by simp,.inr ⟨g,o,cap,putCells (az .i64) o (kR zs).toArray cur,by rw[hl],⟨fz,SH hg,by simpa[putCells]using hfz⟩,by omega,h2,by simp[putCells];omega,?_⟩⟩
  .rw[hl]at this;exact this
  rw[aX];have:=SI (enc:=az .i64) (d:=(kR zs).toArray) (c:=cur) (n:=(kR zs).length) (o:=o) (by simp) (by omega);simpa using this
 simp[R,RL]
end Go.Sy
namespace Go.Mb
open Go.Sy
theorem uf(zs:List Int):(kR zs).Perm zs:=List.mergeSort_perm _ _
theorem Tu{zs:List Int}(h:zs.Nodup):(kR zs).Pairwise (· < ·):=by
 have h1:(kR zs).Pairwise λa b=>decide (a<=b)=true:=List.pairwise_mergeSort (by intro a b c h1 h2;simp at *;omega) (by intro a b;simp;omega) zs;have h2:(kR zs).Nodup:=(uf zs).nodup_iff.2 h;exact(h1.and h2).imp λ⟨h3,h4⟩=>by simp at h3;omega
def eh(f:Int->Int):List Int->Int
 |[]=>0
 |z::l=>f z+eh f l
theorem Jv(f:Int->Int):∀ l m:List Int,eh f (l++m)=eh f l+eh f m
 |[],m=>by simp[eh]
 |z::l,m=>by simp only[List.cons_append,eh,Jv f l m];omega
theorem U5(f g:Int->Int):∀ l:List Int,eh (λz=>f z+g z) l=eh f l+eh g l
 |[]=>rfl
 |z::l=>by simp only[eh,U5 f g l];omega
theorem U6(f g:Int->Int):∀ l:List Int,eh (λz=>f z-g z) l=eh f l-eh g l
 |[]=>rfl
 |z::l=>by simp only[eh,U6 f g l];omega
theorem KA:∀ l:List Int,eh (λ_=>0) l=0
 |[]=>rfl
 |z::l=>by simp only[eh,KA l];rfl
theorem EZ(x s:Int):∀ {l:List Int},l.Nodup->eh (λz=>if x=z then s else 0) l=if x∈l then s else 0
 |[],_=>rfl
 |z::l,h=>by
  obtain⟨h1,h2⟩:=List.nodup_cons.1 h;simp only[eh,EZ x s h2];by_cases e:x=z
  .subst e;rw[bS rfl,bQ h1,bS aD];omega
  rw[bQ e];by_cases e2:x∈l
  .rw[bS e2,bS (aC _ e2)];omega
  rw[bQ e2,bQ (by simp[e,e2])];rfl
theorem U7{node t:Int}{T:List Int}(hT:T.Nodup):∀ {l:List di},(∀h∈l,h.node=node->(h.fr∈T↔h.fr<=t)/\(h.to∈T↔h.to<=t))->(∀h∈l,h.fr<h.to)->eh (λz=>gr node z l) T=e7 node t l
 |[],_,_=>by simp only[gr,e7,KA]
 |h::l,H,hlt=>by
  have ih:=U7 (node:=node) (t:=t) hT (l:=l) (λx hx=>H x (aC _ hx)) λx hx=>hlt x (aC _ hx);have hl:=hlt h aD;simp only[gr,e7,U5,ih];congr 1;unfold gz dH;by_cases hn:h.node=node
  .obtain⟨h1,h2⟩:=H h aD hn;have e:(h.node==node)=true:=by rw[hn];simp
   simp only[e,iI,ai,al,dN];rw[U6,EZ _ _ hT,EZ _ _ hT];by_cases h3:h.fr<=t
   .rw[bS (h1.2 h3)];by_cases h4:h.to<=t
    .rw[bS (h2.2 h4),bQ (by omega)];omega
    rw[bQ (λq=>h4 (h2.1 q)),bS (by omega)];omega
   rw[bQ (λq=>h3 (h1.1 q)),bQ (λq=>dP (h2.1 q) (by omega)),bQ (by omega)];rfl
  have e:(h.node==node)=false:=by simpa using hn
  simp only[e,ae,ic,af,KA]
def e9(node:Int)(l:List di):List Int:=kR (iJ node l l.length)
theorem U8(node:Int)(l:List di):(e9 node l).length<=2*l.length:=by
 unfold e9;rw[A2];exact Fh node l l.length (aU _)
theorem alU(node:Int)(l:List di):(e9 node l).Pairwise (· < ·):=Tu (Uq node l l.length (aU _))
theorem U9(node:Int)(l:List di)(x:Int):x∈e9 node l↔ ∃h∈l,h.node=node/\(h.fr=x\/h.to=x):=by
 unfold e9;rw[(uf _).mem_iff,Kk node l l.length (aU _),aM]
theorem Va{l:List Int}(h:l.Pairwise (· < ·)){k:Nat}(hk:k<l.length)(x:Int):x∈l.take (k+1)↔x∈l/\x<=l.getD k aA:=by
 rw[List.mem_take_iff_getElem];rw[cV hk];constructor
 .rintro⟨i,hi,rfl⟩;refine⟨aF _,?_⟩;rcases aW i k with h1|h1
  .have:=aJ.1 h i k (by omega) hk h1;omega
  have:i=k:=by omega
  subst this;exact aB _
 rintro⟨hx,hle⟩;obtain⟨i,hi,rfl⟩:=List.getElem_of_mem hx;refine⟨i,?_,rfl⟩;rcases aW k i with h1|h1
 .have:=aJ.1 h k i hk hi h1;omega
 omega
theorem alV{node:Int}{l:List di}(hlt:∀ h∈l,h.fr<h.to){k:Nat}(hk:k<(e9 node l).length):eh (λz=>gr node z l) ((e9 node l).take (k+1))=e7 node ((e9 node l).getD k aA) l:=by
 have KB:=alU node l;refine U7 (List.Nodup.sublist (List.take_sublist _ _) (KB.imp λh=>by omega)) (λh hh hn=>?_) hlt;rw[Va KB hk,Va KB hk];exact⟨⟨λq=>q.2,λq=>⟨(U9 node l _).2 ⟨h,hh,hn,.inl rfl⟩,q⟩⟩,⟨λq=>q.2,λq=>⟨(U9 node l _).2 ⟨h,hh,hn,.inr rfl⟩,q⟩⟩⟩
def og(node:Int)(l:List di)(k:Nat):List cU:=(((e9 node l).take k).filter λz=>!(gr node z l==0)).map λz=>⟨z,e7 node z l⟩
theorem alW{node:Int}{l:List di}{k:Nat}(hk:k<(e9 node l).length):og node l (k+1)=if gr node ((e9 node l).getD k aA) l==0 then og node l k else og node l k++[⟨(e9 node l).getD k aA,e7 node ((e9 node l).getD k aA) l⟩]:=by
 unfold og;rw[gg hk,List.filter_append,List.map_append];generalize(e9 node l).getD k aA=z;cases h:gr node z l==0<;>simp[List.filter_cons,h]
theorem Vb(node:Int)(l:List di)(k:Nat):(og node l k).length<=2*l.length:=by
 unfold og;rw[List.length_map];refine Nat.le_trans (List.length_filter_le _ _) ?_;rw[List.length_take];have:=U8 node l;omega
theorem alX{node:Int}{l:List di}{k:Nat}:∀ x∈og node l k,x.hi=e7 node x.lo l:=by
 intro x hx;unfold og at hx;obtain⟨z,_,rfl⟩:=aS.1 hx;rfl
theorem Vc{node t u:Int}:∀ {l:List di},(∀h∈l,1<=h.size)->(∀h∈l,gz node t h=true->gz node u h=true)->e7 node t l<=e7 node u l
 |[],_,_=>aB _
 |h::l,hs,H=>by
  have ih:=Vc (node:=node) (t:=t) (u:=u) (l:=l) (λx hx=>hs x (aC _ hx)) λx hx=>H x (aC _ hx);have h1:=H h aD;have h2:=hs h aD;simp only[e7];by_cases h3:gz node t h=true
  .rw[bS h3,bS (h1 h3)];omega
  rw[bQ h3];split<;>omega
theorem JO{node t:Int}:∀ {l:List di},(∀h∈l,gz node t h=false)->e7 node t l=0
 |[],_=>rfl
 |h::l,H=>by
  simp only[e7];rw[H h aD,JO λx hx=>H x (aC _ hx)];rfl
theorem KC(node t:Int):∀ l:List di,(∀h∈l,gz node t h=false)\/ ∃h∈l,gz node t h=true/\ ∀g∈l,gz node t g=true->g.fr<=h.fr
 |[]=>.inl λh hh=>by cases hh
 |x::l=>by
  by_cases hx:gz node t x=true
  .rcases KC node t l with h1|⟨h,h1,h2,h3⟩
   .refine .inr ⟨x,aD,hx,λg hg pG=>?_⟩;rcases aK.1 hg with rfl|hg
    .exact aB _
    rw[h1 g hg]at pG;cases pG
   by_cases hc:h.fr<=x.fr
   .refine .inr ⟨x,aD,hx,λg hg pG=>?_⟩;rcases aK.1 hg with rfl|hg
    .exact aB _
    have:=h3 g hg pG;omega
   refine .inr ⟨h,aC _ h1,h2,λg hg pG=>?_⟩;rcases aK.1 hg with rfl|hg
   .omega
   exact h3 g hg pG
  rcases KC node t l with h1|⟨h,h1,h2,h3⟩
  .refine .inl λg hg=>?_;rcases aK.1 hg with rfl|hg
   .simpa using hx
   exact h1 g hg
  refine .inr ⟨h,aC _ h1,h2,λg hg pG=>?_⟩;rcases aK.1 hg with rfl|hg
  .exact(hx pG).elim
  exact h3 g hg pG
theorem KD{node t:Int}{h:di}:gz node t h=true↔h.node=node/\h.fr<=t/\t<h.to:=by
 unfold gz;simp only[al,gH,dN]
theorem A9{p:fE}{l:List di}(hp:Kc p)(hl:∀ h∈l,sF p h)(hf:∀ h∈l,e7 h.node h.fr l<=p.qs.getD h.node.toNat aA){node:Nat}(hn:node<p.qs.length)(t:Int):e7 node t l<=p.qs.getD node aA:=by
 have hq:=hp.qs (p.qs.getD node aA) (by rw[cV hn];exact aF _);rcases KC node t l with h1|⟨h,h1,h2,h3⟩
 .rw[JO h1];exact hq.1
 obtain⟨e,h4,h5⟩:=KD.1 h2;have:=hf h h1;rw[e]at this;refine Int.le_trans (Vc (u:=h.fr) (λg hg=>(hl g hg).size.1) λg hg pG=>?_) this;obtain⟨h6,h7,h8⟩:=KD.1 pG;exact KD.2 ⟨h6,h3 g hg pG,by omega⟩
theorem Vd{q:Int}:∀ {l:List cU} {n:Int},n<=q->(∀x∈l,x.hi<=q)->l.foldl (λn x=>if x.hi>n then x.hi else n) n<=q
 |[],n,h,_=>h
 |x::l,n,h,H=>Vd (l:=l) (by have:=H x aD;show(if x.hi>n then x.hi else n)<=q;split<;>omega) λy hy=>H y (aC _ hy)
def BA(l:List cU):Int:=l.foldl (λn x=>if x.hi>n then x.hi else n) 0
end Go.Mb
namespace Go.Proofs.YtjhmdfofhnijeaaGreatDoor
open Go.Sy Go.Mb
set_option maxRecDepth 100000
set_option maxHeartbeats 4000000
theorem alY(l:List cU)(hl:l.length<=1000000):cJ av 99 [fM l] (.int .i64 (BA l),none):=by
 refine c8 CM Tryz.func99 rfl ?_;refine zG zE ?_;refine NS.loop (σ:={ q:Nat×Int // q.1<=l.length/\(l.drop q.1).foldl (λn x=>if x.hi>n then x.hi else n) q.2=BA l }) (λq=>[(3,.int .i64 q.1.2),(6,fM l),(7,.int .i64 l.length),(8,.int .i64 (q.1.1:Nat))]) (λ_=>[]) (λq=>l.length-q.1.1) ⟨(0,0),aY _,rfl⟩ ?_ ?_
 .exact cB [] ⟨rfl,rfl,rfl,rfl,bP⟩ trivial
 rintro⟨⟨k,n⟩,hk,hn⟩;have hk:k<=l.length:=hk;have hn:(l.drop k).foldl (λn x=>if x.hi>n then x.hi else n) n=BA l:=hn;refine cK zE (λa=>?_) (λa=>?_)
 .have a:k<l.length:=by have a:decide ((k:Int)<(l.length:Int))=true:=a;have:=fv a;omega
  rw[drop_cons a,List.foldl_cons]at hn;refine bU zE (cZ a) (cH zE ⟨(k+1,if(l.getD k aA).hi>n then(l.getD k aA).hi else n),a,hn⟩ (by show l.length-(k+1)<l.length-k;omega) ?_);exact cB [] ⟨rfl,rfl,rfl,c6 (n:=l.length) a,bP⟩ trivial
 have a:k=l.length:=by have a:decide ((k:Int)<(l.length:Int))=false:=a;have:=eY a;omega
 subst a;rw[aR]at hn;refine dt zE rfl zE ?_;exact zG zE (NS.ret rfl rfl (dY ((hn))))
end Go.Proofs.YtjhmdfofhnijeaaGreatDoor
namespace Go.Proofs
open Go.Shelf
def Tryz.alZ:Go.Shelf.Ren:=⟨λ|189=>139|125=>95|257=>194|128=>150|129=>151|294=>259|295=>260|296=>261|297=>262|298=>263|299=>264|216=>265|300=>266|301=>267|328=>320|329=>204|330=>205|331=>321|332=>322|215=>141|343=>387|n=>n,λ|28=>22|3=>3|46=>232|0=>0|51=>280|53=>282|4=>4|183=>273|182=>272|131=>277|5=>5|9=>9|218=>354|222=>358|228=>426|229=>427|n=>n,λ|n=>n⟩
theorem Tryz.SZ:Go.Proofs.Lays.n189 av Tryz.alZ:={
 mixed:=by kernel_rfl
 f125:=dO Tryz.func95
 f128:=dO Tryz.func150
 f129:=dO Tryz.func151
 f189:=dO Tryz.func139
 f215:=dO Tryz.func141
 f216:=dO Tryz.func265
 f257:=dO Tryz.func194
 f294:=dO Tryz.func259
 f295:=dO Tryz.func260
 f296:=dO Tryz.func261
 f297:=dO Tryz.func262
 f298:=dO Tryz.func263
 f299:=dO Tryz.func264
 f300:=dO Tryz.func266
 f301:=dO Tryz.func267
 f328:=dO Tryz.func320
 f329:=dO Tryz.func204
 f330:=dO Tryz.func205
 f331:=dO Tryz.func321
 f332:=dO Tryz.func322
 f343:=dO Tryz.func387
 t0:=Tryz.underlying0
 a0:=Tryz.isAgg0
 z0:=Tryz.sizeOf0
 v0:=Tryz.zeroValue0
 t3:=Tryz.underlying3
 a3:=Tryz.isAgg3
 z3:=Tryz.sizeOf3
 v3:=Tryz.zeroValue3
 t4:=Tryz.underlying4
 a4:=Tryz.isAgg4
 z4:=Tryz.sizeOf4
 v4:=Tryz.zeroValue4
 t5:=Tryz.underlying5
 a5:=Tryz.isAgg5
 z5:=Tryz.sizeOf5
 v5:=Tryz.zeroValue5
 t9:=Tryz.underlying9
 a9:=Tryz.isAgg9
 z9:=Tryz.sizeOf9
 v9:=Tryz.zeroValue9
 t28:=Tryz.underlying22
 a28:=Tryz.isAgg22
 z28:=Tryz.sizeOf22
 v28:=Tryz.zeroValue22
 t46:=Tryz.underlying232
 a46:=Tryz.isAgg232
 z46:=Tryz.sizeOf232
 v46:=Tryz.zeroValue232
 t51:=Tryz.underlying280
 a51:=Tryz.isAgg280
 z51:=Tryz.sizeOf280
 v51:=Tryz.zeroValue280
 t53:=Tryz.underlying282
 a53:=Tryz.isAgg282
 z53:=Tryz.sizeOf282
 v53:=Tryz.zeroValue282
 t131:=Tryz.underlying277
 a131:=Tryz.isAgg277
 z131:=Tryz.sizeOf277
 v131:=Tryz.zeroValue277
 t182:=Tryz.underlying272
 a182:=Tryz.isAgg272
 z182:=Tryz.sizeOf272
 v182:=Tryz.zeroValue272
 t183:=Tryz.underlying273
 a183:=Tryz.isAgg273
 z183:=Tryz.sizeOf273
 v183:=Tryz.zeroValue273
 t218:=Tryz.underlying354
 a218:=Tryz.isAgg354
 z218:=Tryz.sizeOf354
 v218:=Tryz.zeroValue354
 t222:=Tryz.underlying358
 a222:=Tryz.isAgg358
 z222:=Tryz.sizeOf358
 v222:=Tryz.zeroValue358
 t228:=Tryz.underlying426
 a228:=Tryz.isAgg426
 z228:=Tryz.sizeOf426
 v228:=Tryz.zeroValue426
 t229:=Tryz.underlying427
 a229:=Tryz.isAgg427
 z229:=Tryz.sizeOf427
 v229:=Tryz.zeroValue427 }
end Go.Proofs
namespace Go.Proofs.YtjhmdfofhnijeaaGreatDoor
open Go.Sy Go.Mb
set_option maxRecDepth 100000
set_option maxHeartbeats 4000000
theorem mq.AX{P:Program}{f:FuncId}{args:List A}{e:aq}{c n:Nat}{el el':Nat->Nat->A}{post:Ob->A->Prop}(h:mq P f args (.row e c n el') post)(he:∀ i,i<n-> ∀j,j<c->el i j=el' i j):mq P f args (.row e c n el) post:=
 ⟨h.lh,λw l vs hb cy hr=>h.run w l vs hb (by
  obtain⟨v,xs,h1,h2,h3,h4⟩:=cy;exact⟨v,xs,h1,h2,h3,λi hi j hj=>by
   obtain⟨u,h5,h6⟩:=h4 i hi j hj;exact⟨u,h5,by rw[<-he i hi j hj];exact h6⟩⟩) hr⟩
theorem al0(l:List di)(node:Int)(hl:l.length<=1000)(hs:∀ h∈l,1<=h.size/\h.size<=65536)(hlt:∀ h∈l,h.fr<h.to):cJ av 100 [jz l,.int .i64 node] (fM (og node l (e9 node l).length),none):=by
 refine c8 CLv Tryz.func100 rfl ?_;refine eG zE l.length (λk=>[(1,.int .i64 node),(5,.ptr 5 0),(6,.ptr 6 0),(7,.fn 160 [.ptr 5 0,.ptr 6 0]),(16,jz l),(17,.int .i64 l.length),(18,.int .i64 (k:Nat))]) (λk=>[(5,.box [.dA 14]),(6,.box [.own 63]),(14,.mp 216 false 1 true [] (gh (fK node l k)) (kd (fK node l k))),(63,.row 3 1 (iJ node l k).length (cO nC (iJ node l k)))]) ?_ ?_
 .refine(oM 6 0 63 3 1 (cO nC []) rfl rfl rfl).trans ?_;exact cB [] ⟨rfl,rfl,rfl,rfl,rfl,rfl,rfl,bP⟩ ⟨bV,bV,⟨_,_,_,rfl,rfl,λq hq=>rfl⟩,df rfl rfl (λi hi=>dP hi (aV i)),bP⟩
 rintro⟨k,(hk:k<=l.length)⟩;refine cK zE (λa=>?_) (λa=>?_)
 .have a:k<l.length:=by have a:decide ((k:Int)<(l.length:Int))=true:=a;have:=fv a;omega
  have Fk:=hs (l.getD k aA) (by rw[cV a];exact aF _);have hlk:=hlt (l.getD k aA) (by rw[cV a];exact aF _);have hne:kE [(l.getD k aA).to] [(l.getD k aA).fr]=false:=Bo (by simp only[ne_eq,List.cons.injEq,pz];omega)
  repeat' (first|(refine bU zE (cZ a) ?_)|(refine cN zE ?_))
  refine cK zE (λb1=>?_) (λb1=>?_)
  .have b1:((l.getD k aA).node==node)=true:=b1;have ht:=alm a b1;have htl:=Fh node l k hk;refine cK zE (λc1=>?_) (λc1=>?_)
   .have c1:gh (fK node l k) [(l.getD k aA).fr]=true:=c1;rw[Kl (yy c1)]at ht
    repeat' (first|(refine cN zE ?_)|(refine cD zE (c1) ?_)|(refine b8 zE (hne) ?_)|(fail))
    refine cK zE (λc2=>?_) (λc2=>?_)
    .have c2:gh (fK node l k) [(l.getD k aA).to]=true:=c2;rw[Kl (yy c2)]at ht
     repeat' (first|(refine cN zE ?_)|(refine cD zE (c2) ?_)|(refine b8 zE (hne) ?_)|(fail))
     refine cH zE ⟨k+1,a⟩ (dp a) ?_;exact cB [] ⟨rfl,rfl,rfl,rfl,rfl,rfl,c6 (n:=l.length) a,bP⟩ ⟨bV,bV,⟨_,_,_,rfl,rfl,λq hq=>Fj a (ie b1) hlk hl hs (yx hk _) (yx hk _) hq⟩,df rfl (by rw[ht];skip) (λq hq j hj=>by rw[ht]at hq ⊢;skip),bP⟩
    have c2:gh (fK node l k) [(l.getD k aA).to]=false:=c2;rw[Km (yy c2)]at ht
    repeat' (first|(refine cN zE ?_)|(refine b8 zE (c2) ?_)|(refine b8 zE (hne) ?_)|(refine bU zE (cw (by simp only[du];omega)) ?_)|(fail))
    refine cH zE ⟨k+1,a⟩ (dp a) ?_;exact cB [(63,84)] ⟨rfl,rfl,rfl,rfl,rfl,rfl,c6 (n:=l.length) a,bP⟩ ⟨bV,bV,⟨_,_,_,rfl,rfl,λq hq=>Fj a (ie b1) hlk hl hs (yx hk _) (Fl hk c2) hq⟩,df rfl (by rw[ht];simp only[aG,aH,aI]) (λq hq j hj=>by rw[ht]at hq ⊢;exact gE (cells:=nC) (x:=(l.getD k aA).to) rfl q (by simpa using hq) j hj),bP⟩
   have c1:gh (fK node l k) [(l.getD k aA).fr]=false:=c1;rw[Km (yy c1)]at ht
   repeat' (first|(refine cN zE ?_)|(refine b8 zE (c1) ?_)|(refine b8 zE (hne) ?_)|(refine bU zE (cw (by simp only[du];omega)) ?_)|(fail))
   refine cK zE (λc2=>?_) (λc2=>?_)
   .have c2:gh (fK node l k) [(l.getD k aA).to]=true:=c2;rw[Kl (show(iJ node l k++[(l.getD k aA).fr]).contains (l.getD k aA).to=true by rw[aO];exact List.mem_append_left _ (aO.1 (yy c2)))]at ht
    repeat' (first|(refine cN zE ?_)|(refine cD zE (c2) ?_)|(refine b8 zE (hne) ?_)|(fail))
    refine cH zE ⟨k+1,a⟩ (dp a) ?_;exact cB [(63,84)] ⟨rfl,rfl,rfl,rfl,rfl,rfl,c6 (n:=l.length) a,bP⟩ ⟨bV,bV,⟨_,_,_,rfl,rfl,λq hq=>Fj a (ie b1) hlk hl hs (Fl hk c1) (yx hk _) hq⟩,df rfl (by rw[ht];simp only[aG,aH,aI]) (λq hq j hj=>by rw[ht]at hq ⊢;exact gE (cells:=nC) (x:=(l.getD k aA).fr) rfl q (by simpa using hq) j hj),bP⟩
   have c2:gh (fK node l k) [(l.getD k aA).to]=false:=c2;rw[Km (alo (yy c2) (by omega))]at ht
   repeat' (first|(refine cN zE ?_)|(refine b8 zE (c2) ?_)|(refine b8 zE (hne) ?_)|(refine bU zE (cw (by simp only[du];omega)) ?_)|(fail))
   refine cH zE ⟨k+1,a⟩ (dp a) ?_;exact cB [(63,104)] ⟨rfl,rfl,rfl,rfl,rfl,rfl,c6 (n:=l.length) a,bP⟩ ⟨bV,bV,⟨_,_,_,rfl,rfl,λq hq=>Fj a (ie b1) hlk hl hs (Fl hk c1) (Fl hk c2) hq⟩,df rfl (by rw[ht];simp only[aG,aH,aI]) (λq hq j hj=>by rw[ht]at hq ⊢;exact alp (iJ node l k) (l.getD k aA).fr (l.getD k aA).to q (by simpa using hq) j hj),bP⟩
  have b1:((l.getD k aA).node==node)=false:=b1;have ht:=aln a b1;refine cH zE ⟨k+1,a⟩ (dp a) ?_;exact cB [] ⟨rfl,rfl,rfl,rfl,rfl,rfl,c6 (n:=l.length) a,bP⟩ ⟨bV,bV,⟨_,_,_,rfl,rfl,λq hq=>by rw[ug,ug,alk a b1]⟩,df rfl (by rw[ht]) (λq hq j hj=>by rw[ht]),bP⟩
 have a:k=l.length:=by have a:decide ((k:Int)<(l.length:Int))=false:=a;have:=eY a;omega
 subst a;refine dt zE rfl zE ?_;have hN:=Fh node l l.length (aU _);have c3:=SY Tryz.SZ (by kernel_rfl) (iJ node l l.length) 3 (by omega);refine zG zE (NS.mut 63 (Eq.refl _) rfl (mq.AX c3 λi hi j hj=>rfl) rfl ?_);rintro ob r ⟨rfl,rfl⟩;have hS:=U8 node l;have KE:(e9 node l).length=(iJ node l l.length).length:=A2 _;refine eG zE ((e9 node l).length) (λk=>[(5,.ptr 5 0),(10,.own 60),(11,.int .i64 (eh (λz=>gr node z l) ((e9 node l).take k))),(42,eD (e9 node l)),(43,.int .i64 (e9 node l).length),(44,.int .i64 (k:Nat))]) (λk=>[(5,.box [.dA 14]),(14,.mp 216 false 1 true [] (gh (fK node l l.length)) (kd (fK node l l.length))),(60,.row 289 2 (og node l k).length (cO cU.cells (og node l k)))]) ?_ ?_
 .refine(rj 10 60 289 2 (cO cU.cells []) rfl rfl).trans ((ED 42 63 rfl rfl).trans ((AY 42 (x:=eD (e9 node l)) ?_).trans ?_))
  .exact bY.sl KE.symm λi hi j hj=>rfl
  exact cB [] ⟨rfl,rfl,rfl,rfl,c9 rfl (by rw[KE]),rfl,bP⟩ ⟨bV,⟨_,_,_,rfl,rfl,λq hq=>rfl⟩,df rfl rfl (λi hi=>dP hi (aV i)),bP⟩
 rintro⟨k,(hk:k<=(e9 node l).length)⟩;refine cK zE (λa=>?_) (λa=>?_)
 .have a:k<(e9 node l).length:=by have a:decide ((k:Int)<((e9 node l).length:Int))=true:=a;have:=fv a;omega
  have hz:(e9 node l).getD k aA∈e9 node l:=by rw[cV a];exact aF _
  have hin:gh (fK node l l.length) [(e9 node l).getD k aA]=true:=by
   have h1:(e9 node l).getD k aA∈iJ node l l.length:=by unfold e9 at hz ⊢;exact(uf _).mem_iff.1 hz
   show(fK node l l.length ((e9 node l).getD k aA)).isSome=true;unfold fK;rw[bS (by simpa using h1)];rfl
  have hval:(fK node l l.length ((e9 node l).getD k aA)).getD 0=gr node ((e9 node l).getD k aA) l:=by rw[yx (aU _),aM]
  have hsum:eh (λz=>gr node z l) ((e9 node l).take (k+1))=eh (λz=>gr node z l) ((e9 node l).take k)+gr node ((e9 node l).getD k aA) l:=by rw[gg a,Jv];simp[eh]
  have hs1:=alV hlt a;have hb1:=Bx (node:=node) (t:=(e9 node l).getD k aA) hs;have hc:=Fi (node:=node) (t:=(e9 node l).getD k aA) hs;have hlv:=alW a;have hll:=Vb node l k
  repeat' (first|(refine bU zE (cZ a) ?_)|(refine cN zE ?_)|(refine cD zE (hin) ?_)|(fail))
  refine cK zE (λb=>?_) (λb=>?_)
  .have b:(gr node ((e9 node l).getD k aA) l==0)=true:=by rw[<-hval];exact b
   rw[bS b]at hlv;have b0:gr node ((e9 node l).getD k aA) l=0:=ie b;refine cH zE ⟨k+1,a⟩ (dp a) ?_;exact cB [] ⟨rfl,rfl,c9 rfl (by show eh (λz=>gr node z l) ((e9 node l).take k)=eh (λz=>gr node z l) ((e9 node l).take (k+1));rw[hsum,b0,Int.add_zero]),rfl,rfl,c6 (n:=(e9 node l).length) a,bP⟩ ⟨bV,⟨_,_,_,rfl,rfl,λq hq=>rfl⟩,df rfl (by rw[hlv]) (λq hq j hj=>by rw[hlv]),bP⟩
  have b:(gr node ((e9 node l).getD k aA) l==0)=false:=by rw[<-hval];exact b
  rw[bQ (by rw[b];decide)]at hlv;have e1:au.wrap (eh (λz=>gr node z l) ((e9 node l).take k)+(fK node l l.length ((e9 node l).getD k aA)).getD 0)=eh (λz=>gr node z l) ((e9 node l).take (k+1)):=by rw[hval,dG,hsum]
  repeat' (first|(refine cN zE ?_)|(refine cD zE (hin) ?_)|(refine bU zE (cw (by simp only[du];omega)) ?_)|(fail))
  refine cH zE ⟨k+1,a⟩ (dp a) ?_;exact cB [(60,62)] ⟨rfl,rfl,c9 rfl e1,rfl,rfl,c6 (n:=(e9 node l).length) a,bP⟩ ⟨bV,⟨_,_,_,rfl,rfl,λq hq=>rfl⟩,df rfl (by rw[hlv];simp only[aG,aH,aI]) (λq hq j hj=>by rw[hlv]at hq ⊢;exact gE (cells:=cU.cells) (x:=⟨(e9 node l).getD k aA,e7 node ((e9 node l).getD k aA) l⟩) (by rw[<-hs1,<- e1];rfl) q (by simpa using hq) j hj),bP⟩
 have a:k=(e9 node l).length:=by have a:decide ((k:Int)<((e9 node l).length:Int))=false:=a;have:=eY a;omega
 subst a;refine dt zE rfl zE ?_;exact zG zE (NS.ret rfl rfl (bY.refl _))
end Go.Proofs.YtjhmdfofhnijeaaGreatDoor
namespace Go.Mb
open Go.Sy
def kz(a b:di):Int:=mr [gK a.node b.node,gK a.fr b.fr,gK a.to b.to,gK a.tk b.tk,gK a.size b.size]
theorem al1{a b:di}:kz a b<0↔sI a b:=by
 unfold kz sI;simp only[AQ,vN,AR,x7];omega
theorem al2{a b:di}:kz a b=0↔a.node=b.node/\a.fr=b.fr/\a.to=b.to/\a.tk=b.tk/\a.size=b.size:=by
 unfold kz;simp only[alF,vN,x7,pz]
theorem al3{a b:di}(h:kT b a=false):¬ kz a b>0:=by
 intro h1;have h2:¬ sI b a:=λh2=>by rw[<-JQ,h]at h2;cases h2
 have h3:¬ kz a b<0:=by omega
 have h4:¬ kz a b=0:=by omega
 rw[al1]at h3;rw[al2]at h4;unfold sI at h2 h3;omega
end Go.Mb
namespace Go.Proofs.YtjhmdfofhnijeaaGreatDoor
open Go.Sy Go.Mb
set_option maxRecDepth 100000
set_option maxHeartbeats 4000000
theorem al4{el:Nat->Nat->A}{a b c d e:Int}(h0:el 0 0= .int .i64 a)(h1:el 1 0= .int .i64 b)(h2:el 2 0= .int .i64 c)(h3:el 3 0= .int .i64 d)(h4:el 4 0= .int .i64 e):∀ i,i<5-> ∀j,j<1->el i j=cO nC [a,b,c,d,e] i j:=by
 intro i hi j hj;obtain rfl:j=0:=by omega
 match i,hi with
 |0,_=>exact h0
 |1,_=>exact h1
 |2,_=>exact h2
 |3,_=>exact h3
 |4,_=>exact h4
theorem al5(a b:di):cJ av 98 [.agg a.cells,.agg b.cells] (.int .i64 (kz a b),none):=by
 refine c8 CM Tryz.func98 rfl ?_;refine cN zE ?_;exact cj zE (mS a.node b.node) (cj zE (mS a.fr b.fr) (cj zE (mS a.to b.to) (cj zE (mS a.tk b.tk) (cj zE (mS a.size b.size) (cj zE ((AW [gK a.node b.node,gK a.fr b.fr,gK a.to b.to,gK a.tk b.tk,gK a.size b.size] (by simp)).le (db.cons (bY.sl rfl (al4 rfl rfl rfl rfl rfl)) db.nil)) (cL zE rfl rfl (bY.refl _)))))))
theorem S8(p:fE)(l:List di)(hp:jB p=0)(h:ye p l):cJ av 48 [.agg p.cells,jz l] (.int .i64 0,none):=by
 have Ft:=Bb hp;have n2:=Ft.n2;have m:=Ft.m;have hl:=h.len;have cp:=Kh p (by omega) (by omega);rw[hp]at cp;have hsz:∀ x∈l,1<=x.size/\x.size<=65536:=λx hx=>(h.all x hx).size;have hlt:∀ x∈l,x.fr<x.to:=λx hx=>(h.all x hx).lt;refine c8 CM Tryz.func48 rfl ?_;refine cj zE (cp) (b8 zE (rfl) (b8 zE (by show decide ((l.length:Int)>512)=false;exact dQ (by omega)) ?_));refine eG zE l.length (λk=>[(1,jz l),(2,.ptr 2 0),(15,jz l),(16,.int .i64 l.length),(17,.int .i64 (k:Nat))]) (λ_=>[(2,.box p.cells)]) ?_ ?_
 .exact cB [] ⟨rfl,rfl,rfl,rfl,rfl,bP⟩ ⟨bV,bP⟩
 rintro⟨k,(hk:k<=l.length)⟩;refine cK zE (λa=>?_) (λa=>?_)
 .have a:k<l.length:=by have a:decide ((k:Int)<(l.length:Int))=true:=a;have:=fv a;omega
  have hv:qv p (l.getD k aA)=true:=JC.2 (h.all _ (by rw[cV a];exact aF _));have cv:=alO p (l.getD k aA);rw[hv]at cv
  repeat' (first|(refine bU zE (cZ a) ?_)|(refine cN zE ?_)|(refine cj zE (cv) ?_))
  refine b8 zE (rfl) ?_
  repeat' (first|(refine cN zE ?_))
  refine cK zE (λb2=>?_) (λb2=>?_)
  .obtain⟨j,rfl⟩:∃ j,k=j+1:=⟨k-1,by have b2:decide ((k:Int)>0)=true:=b2;have:=fv b2;omega⟩;have e1:au.wrap (((j+1:Nat):Int)-1)=(j:Int):=by rw[dG];omega
   have hn:decide (0<=au.wrap (((j+1:Nat):Int)-1)/\au.wrap (((j+1:Nat):Int)-1)<(l.length:Int))=true:=by rw[e1];exact cw (by omega)
   have hg:l.getD (au.wrap (((j+1:Nat):Int)-1)).toNat aA=l.getD j aA:=by rw[e1];rfl
   have ho:kT (l.getD (j+1) aA) (l.getD j aA)=false:=by
    rw[cV a,cV (show j<l.length by omega)];exact aJ.1 h.ord j (j+1) (by omega) a (by omega)
   have hc:=al3 ho
   repeat' (first|(refine cN zE ?_)|(refine bU zE (hn) ?_)|(refine cj zE ((al5 (l.getD j aA) (l.getD (j+1) aA)).le (db.cons (bY.of (by show A.agg (di.cells (l.getD (au.wrap (((j+1:Nat):Int)-1)).toNat aA))=_;rw[hg])) (db.cons (bY.refl _) db.nil))) ?_))
   refine b8 zE (by show decide (kz (l.getD j aA) (l.getD (j+1) aA)>0)=false;exact dQ hc) (cH zE ⟨j+1+1,a⟩ (by show l.length-(j+1+1)<l.length-(j+1);omega) ?_);exact cB [] ⟨rfl,rfl,rfl,rfl,c6 (k:=j+1) (n:=l.length) a,bP⟩ ⟨bV,bP⟩
  refine cH zE ⟨k+1,a⟩ (dp a) ?_;exact cB [] ⟨rfl,rfl,rfl,rfl,c6 (k:=k) (n:=l.length) a,bP⟩ ⟨bV,bP⟩
 have a:k=l.length:=by have a:decide ((k:Int)<(l.length:Int))=false:=a;have:=eY a;omega
 subst a;refine dt zE rfl zE ?_;refine eG zE p.qs.length (λk=>[(1,jz l),(40,eD p.qs),(41,.int .i64 p.qs.length),(42,.int .i64 (k:Nat))]) (λ_=>[]) ?_ ?_
 .exact cB [] ⟨rfl,rfl,rfl,rfl,bP⟩ trivial
 rintro⟨k,(hk:k<=p.qs.length)⟩;refine cK zE (λa=>?_) (λa=>?_)
 .have a:k<p.qs.length:=by have a:decide ((k:Int)<(p.qs.length:Int))=true:=a;have:=fv a;omega
  have hll:=Vb k l (e9 k l).length;have hq:=Ft.qs (p.qs.getD k aA) (by rw[cV a];exact aF _);have hm:BA (og k l (e9 k l).length)<=p.qs.getD k aA:=Vd hq.1 λx hx=>by rw[alX x hx];exact A9 Ft h.all h.fit a x.lo
  repeat' (first|(refine bU zE (cZ a) ?_)|(refine cN zE ?_)|(refine cj zE (al0 l (k:Nat) (by omega) hsz hlt) ?_)|(refine cj zE (alY (og k l (e9 k l).length) (by omega)) ?_))
  refine b8 zE (by show decide (BA (og k l (e9 k l).length)>p.qs.getD k aA)=false;exact dQ (by omega)) (cH zE ⟨k+1,a⟩ (dp a) ?_);exact cB [] ⟨rfl,rfl,rfl,c6 (k:=k) (n:=p.qs.length) a,bP⟩ trivial
 exact dt zE rfl zE (cL zE rfl rfl (bY.refl _))
theorem al6(t:cE)(h1:t.bO.qs.length<=1000000)(h2:t.bO.bW.length<=1000000)(h3:t.dg.length<=1000000)(h4:t.dw.length<=1000000):cJ av 50 [.agg t.cells] (.int .i64 (fW t),none):=by
 refine c8 CM Tryz.func50 rfl ?_;refine cj zE (Ki t.bO h1 h2) (cK zE (λa=>?_) (λa=>?_))
 .have a:(jB t.bO !=0)=true:=a;exact cL zE rfl rfl (dY ((by unfold fW;rw[bS a])))
 have a:(jB t.bO !=0)=false:=a;refine cj zE (alK t.bO t.dg h1 h2 h3) (cK zE (λb=>?_) (λb=>?_))
 .have b:(lB t.bO t.dg !=0)=true:=b;exact cL zE rfl rfl (dY ((by unfold fW;rw[bQ (by rw[a];decide),bS b])))
 have b:(lB t.bO t.dg !=0)=false:=b;exact cj zE (alS t.bO t.dw h1 h2 h4) (cL zE rfl rfl (dY ((by unfold fW;rw[bQ (by rw[a];decide),bQ (by rw[b];decide)]))))
theorem EW(t:cE)(h:fW t=0):cJ av 38 [.agg t.cells] (.int .i64 0,none):=by
 have ok:=kS h;have n2:=ok.p.n2;have m:=ok.p.m;have hl:=ok.b.len;unfold fW at h;have hp:jB t.bO=0:=by
  by_cases e:jB t.bO=0
  .exact e
  rw[bS (by simpa using e)]at h;exact h
 rw[bQ (by rw[hp];decide)]at h;have hb:lB t.bO t.dg=0:=by
  by_cases e:lB t.bO t.dg=0
  .exact e
  rw[bS (by simpa using e)]at h;exact h
 have cp:=Kh t.bO (by omega) (by omega);rw[hp]at cp;have cb:=U3 t.bO t.dg (by omega) (by omega) (by omega);rw[hb]at cb;refine c8 CM Tryz.func38 rfl ?_;exact cj zE (cp) (b8 zE (rfl) (cj zE (cb) (b8 zE (rfl) (cj zE (S8 t.bO t.dw hp ok.h) (cL zE rfl rfl (bY.refl _))))))
theorem al7(p:fE)(d:cA):cJ av 51 [.agg p.cells,.agg d.cells] (.bool (sL p.qs.length d),none):=by
 refine c8 CM Tryz.func51 rfl ?_
 repeat' (first|(refine cK zE (λh=>?_) (λh=>?_))|(refine cN zE ?_)|(exact cL zE rfl rfl (fk ((by rw[Bool.eq_iff_iff,ak8];simp only[dN,gU,gH,beq_eq_false_iff_ne,ae,false_iff]at *;first|omega|(rw[dG];omega))))))
theorem al8(t:cE)(d:cA)(h1:t.bO.qs.length<=1000000)(h2:t.bO.bW.length<=1000000)(h3:t.dg.length<=1000000)(h4:t.dw.length<=1000000):cJ av 17 [.agg t.cells,.agg d.cells] (.bool (fW t==0&&sL t.bO.qs.length d),none):=by
 refine c8 CM Tryz.func17 rfl ?_;refine cj zE (al6 t h1 h2 h3 h4) (cK zE (λa=>?_) (λa=>?_))
 .exact cj zE (al7 t.bO d) (cL zE rfl rfl (fk ((by rw[show(fW t==0)=true from a];rfl))))
 exact cL zE rfl rfl (fk ((by rw[show(fW t==0)=false from a];rfl)))
theorem al9(p:fE):cJ av 101 [.agg p.cells] (.bool (decide ((p.qs.length:Int)>6)||decide ((p.bW.length:Int)>10)),none):=by
 refine c8 CM Tryz.func101 rfl ?_
 repeat' (first|(refine cK zE (λh=>?_) (λh=>?_))|(refine cN zE ?_)|(exact cL zE rfl rfl (fk ((by simp only[*,ak,aj])))))
theorem ama(t:cE):cJ av 49 [.agg t.cells] (.bool (Bm t),none):=by
 refine c8 CM Tryz.func49 rfl ?_
 repeat' (first|(refine cK zE (λh=>?_) (λh=>?_))|(refine cN zE ?_)|(refine cj zE (al9 t.bO) ?_)|(exact cL zE rfl rfl (fk ((by unfold Bm;rw[<-Bool.or_assoc];simp only[*,ak,aj])))))
theorem amb(t:cE)(d:cA):cJ av 16 [.agg t.cells,.agg d.cells] (.bool (sK t d),none):=by
 refine c8 CM Tryz.func16 rfl ?_
 repeat' (first|(refine cK zE (λh=>?_) (λh=>?_))|(refine cN zE ?_)|(refine cj zE (ama t) ?_)|(exact cL zE rfl rfl (fk ((by unfold sK;simp only[*,ak,aj,ai,af])))))
theorem aj1(t:cE)(d:cA):cJ av 5 [.agg t.cells,.agg d.cells] (.bool (!sK t d&&(fW t==0&&sL t.bO.qs.length d)),none):=by
 refine c8 CM Tryz.func5 rfl ?_;refine cj zE (amb t d) (cK zE (λa=>?_) (λa=>?_))
 .have a:(!sK t d)=true:=a;have g:=ur a;unfold sK Bm at g;simp only[Bool.or_eq_false_iff,gU]at g;exact cj zE (al8 t d (by omega) (by omega) (by omega) (by omega)) (cL zE rfl rfl (fk ((by rw[a];rfl))))
 exact cL zE rfl rfl (fk ((by rw[show(!sK t d)=false from a];rfl)))
theorem KF(t:cE)(d:cA)(ht:fW t=0)(hd:gB t.bO.qs.length d):cJ av 126 [.agg t.cells,.agg d.cells] (.bool true,none):=by
 obtain⟨h1,h2,h3,h4,h5,h6,h7,h8⟩:=hd;have e1:au.wrap (d.dead-d.ready)=d.dead-d.ready:=dG;refine c8 CM Tryz.func126 rfl ?_;refine cj zE (EW t ht) (b8 zE (rfl) ?_)
 repeat' (first|(refine cK zE (λh=>?_) (λh=>?_))|(refine cN zE ?_)|(exact cL zE rfl rfl (fk ((by(try simp only[dN,gU,gH,beq_eq_false_iff_ne,ae]at*)<;>first|omega|(rw[e1];exact cw (by omega))|rfl)))))
theorem Ve(n k:Int):cJ av 58 [.int .i64 k,.ip 1 (bT [.int .i64 n])] (.bool (decide (k>=0)&&decide (k<n)),none):=by
 refine c8 CM Tryz.func58 rfl ?_
 repeat' (first|(refine cK zE (λh=>?_) (λh=>?_))|(refine cN zE ?_)|(exact cL zE rfl rfl (fk ((by simp only[*,ai,af])))))
theorem Vf(t:cE)(d:cA)(ht:fW t=0)(hd:gB t.bO.qs.length d):cJ av 21 [.agg t.cells,.agg d.cells] (.int .i64 0,none):=by
 obtain⟨h1,h2,h3,h4,h5,h6,h7,h8⟩:=hd;have e1:au.wrap (d.dead-d.ready)=d.dead-d.ready:=dG;have c1:=Ve t.bO.qs.length d.src;rw[show(decide (d.src>=0)&&decide (d.src<(t.bO.qs.length:Int)))=true by simp;omega]at c1;have c2:=Ve t.bO.qs.length d.dst;rw[show(decide (d.dst>=0)&&decide (d.dst<(t.bO.qs.length:Int)))=true by simp;omega]at c2;refine c8 CM Tryz.func21 rfl ?_;refine cj zE (EW t ht) (b8 zE (rfl) (cj zE (c1) (b8 zE (rfl) (cj zE (c2) (b8 zE (rfl) ?_)))))
 repeat' (first|(refine cK zE (λh=>?_) (λh=>?_))|(refine cN zE ?_)|(exact cL zE rfl rfl (dY ((by(try simp only[dN,gU,gH,beq_eq_false_iff_ne,ae]at*)<;>first|omega|(rw[e1]at *;omega)|rfl)))))
theorem Jp(l:List dE)(ct:Int)(hl:l.length<=1000000):cJ av 63 [lU l,.int .i64 ct] (fM (eO l ct),none):=by
 refine c8 CM Tryz.func63 rfl ?_;refine eG zE l.length (λk=>[(1,.int .i64 ct),(5,.own 5),(8,lU l),(9,.int .i64 l.length),(10,.int .i64 (k:Nat))]) (λk=>[(5,.row 100 2 (eO (l.take k) ct).length (cO cU.cells (eO (l.take k) ct)))]) ?_ ?_
 .refine(rj 5 5 100 2 (cO cU.cells []) rfl rfl).trans ?_;exact cB [] ⟨rfl,rfl,rfl,rfl,rfl,bP⟩ ⟨df rfl rfl (λi hi=>dP hi (aV i)),bP⟩
 rintro⟨k,(hk:k<=l.length)⟩;refine cK zE (λa=>?_) (λa=>?_)
 .have a:k<l.length:=by have a:decide ((k:Int)<(l.length:Int))=true:=a;have:=fv a;omega
  have hb:=alr (ct:=ct) a;have dF:=ue (l.take k) ct;have htl:(l.take k).length=k:=by simp;omega
  refine bU zE (cZ a) (cK zE (λb=>?_) (λb=>?_))
  .have b:((l.getD k aA).ct==ct)=true:=b;rw[bS b]at hb;refine bU zE (cw (by simp only[du];omega)) (cH zE ⟨k+1,a⟩ (dp a) ?_);exact cB [(5,25)] ⟨rfl,rfl,rfl,rfl,c6 (n:=l.length) a,bP⟩ ⟨df rfl (by rw[hb];simp only[aG,aH,aI]) (λq hq j hj=>by rw[hb]at hq ⊢;exact gE (cells:=cU.cells) (x:=⟨(l.getD k aA).fr,(l.getD k aA).to⟩) rfl q (by simpa using hq) j hj),bP⟩
  have b:((l.getD k aA).ct==ct)=false:=b;rw[bQ (by rw[b];decide)]at hb;refine cH zE ⟨k+1,a⟩ (dp a) ?_;exact cB [] ⟨rfl,rfl,rfl,rfl,c6 (n:=l.length) a,bP⟩ ⟨df rfl (by rw[hb]) (λq hq j hj=>by rw[hb]),bP⟩
 have a:k=l.length:=by have a:decide ((k:Int)<(l.length:Int))=false:=a;have:=eY a;omega
 subst a;refine dt zE rfl zE ?_;refine zG zE (NS.ret rfl rfl (?_));rw[aM];exact bY.refl _
noncomputable def CFr:Cx:={ E:=EM,inl:=[319],ok:=qf }
theorem amc(p:fE)(l:List dE)(ct:Nat)(hc:ct<p.bW.length)(hl:l.length<=1000000):cJ av 258 [.agg p.cells,lU l,.int .i64 (ct:Nat),.int .i64 (p.bW.getD ct aA).start] (fM (ec p l ct),none):=by
 obtain⟨R,hR⟩:∃ R,R=ec p l ct:=⟨_,rfl⟩;rw[<-hR];unfold ec at hR;have dF:=ue l ct;refine c8 CFr Tryz.func258 rfl ?_;refine bU zE (cZ hc) (cj zE (Jp l ct hl) ?_);refine zG zE ?_;refine NS.loop (σ:={ q:Nat×Int×List cU // q.1<=(eO l ct).length/\rI (p.bW.getD ct aA).stop q.2.1 ((eO l ct).drop q.1) q.2.2=R/\q.2.2.length<=q.1 }) (λq=>[(9,.ptr 9 0),(10,.ptr 10 0),(11,.ptr 11 0),(12,.fn 319 [.ptr 11 0,.ptr 10 0]),(27,fM (eO l ct)),(28,.int .i64 (eO l ct).length),(29,.int .i64 (q.1.1:Nat))]) (λq=>[(9,.box (p.bW.getD ct aA).cells),(10,.box [.own 46]),(11,.box [.int .i64 q.1.2.1]),(46,.row 100 2 q.1.2.2.length (cO cU.cells q.1.2.2))]) (λq=>(eO l ct).length-q.1.1) ⟨(0,(p.bW.getD ct aA).start,[]),aY _,hR.symm,aU _⟩ ?_ ?_
 .refine(oM 10 0 46 100 2 (cO cU.cells []) rfl rfl rfl).trans ?_;refine cB [] ⟨rfl,rfl,rfl,rfl,rfl,rfl,rfl,bP⟩ ⟨bV,bV,⟨_,rfl,_,_,rfl,c9 rfl ?_,rfl⟩,df rfl rfl (λi hi=>dP hi (aV i)),bP⟩;show(if(p.bW.getD ct aA).start>(p.bW.getD ct aA).start then(p.bW.getD ct aA).start else(p.bW.getD ct aA).start)=(p.bW.getD ct aA).start;split<;>rfl
 rintro⟨⟨k,lo,out⟩,hk,hf,ho⟩;have hk:k<=(eO l ct).length:=hk;have hf:rI (p.bW.getD ct aA).stop lo ((eO l ct).drop k) out=R:=hf;have ho:out.length<=k:=ho;refine cK zE (λa=>?_) (λa=>?_)
 .have a:k<(eO l ct).length:=by have a:decide ((k:Int)<((eO l ct).length:Int))=true:=a;have:=fv a;omega
  rw[drop_cons a,rI]at hf;refine bU zE (cZ a) (cK zE (λb=>?_) (λb=>?_))
  .have b:decide (lo<((eO l ct).getD k aA).lo)=true:=b;rw[Us b]at hf;refine bU zE (cw (by simp only[du];omega)) (cH zE ⟨(k+1,(if((eO l ct).getD k aA).hi>lo then((eO l ct).getD k aA).hi else lo),out++[⟨lo,((eO l ct).getD k aA).lo⟩]),a,hf,by simp;omega⟩ (by show(eO l ct).length-(k+1)<(eO l ct).length-k;omega) ?_);exact cB [(46,59)] ⟨rfl,rfl,rfl,rfl,rfl,rfl,c6 (n:=(eO l ct).length) a,bP⟩ ⟨bV,bV,bV,df rfl (by simp) (λq hq j hj=>gE (cells:=cU.cells) (l:=out) (x:=⟨lo,((eO l ct).getD k aA).lo⟩) rfl q (by simpa using hq) j hj),bP⟩
  have b:decide (lo<((eO l ct).getD k aA).lo)=false:=b;rw[Ut b]at hf;refine cH zE ⟨(k+1,(if((eO l ct).getD k aA).hi>lo then((eO l ct).getD k aA).hi else lo),out),a,hf,by show out.length<=k+1;omega⟩ (by show(eO l ct).length-(k+1)<(eO l ct).length-k;omega) ?_;exact cB [] ⟨rfl,rfl,rfl,rfl,rfl,rfl,c6 (n:=(eO l ct).length) a,bP⟩ ⟨bV,bV,bV,ee,bP⟩
 have a:k=(eO l ct).length:=by have a:decide ((k:Int)<((eO l ct).length:Int))=false:=a;have:=eY a;omega
 subst a;rw[aR,rI]at hf;refine dt zE rfl zE (cK zE (λb=>?_) (λb=>?_))
 .have b:decide (lo<(p.bW.getD ct aA).stop)=true:=b;rw[Us b]at hf;refine bU zE (cw (by simp only[du];omega)) (cL zE rfl rfl (?_));subst hf;exact bY.sl (by simp) (λq hq j hj=>gE (cells:=cU.cells) (l:=out) (x:=⟨lo,(p.bW.getD ct aA).stop⟩) rfl q hq j hj)
 have b:decide (lo<(p.bW.getD ct aA).stop)=false:=b;rw[Ut b]at hf;refine cL zE rfl rfl (?_);subst hf;exact bY.refl _
theorem amd(p:fE)(l:List dE)(ct:Nat)(hc:ct<p.bW.length)(hb:lB p l=0)(h1:p.qs.length<=1000000)(h2:p.bW.length<=1000000)(h3:l.length<=1000000):cJ av 257 [.agg p.cells,lU l,.int .i64 (ct:Nat)] (.int .i64 0,none):=by
 have cb:=U3 p l h1 h2 h3;rw[hb]at cb;refine c8 CM Tryz.func257 rfl ?_;exact cj zE (cb) (b8 zE (rfl) (b8 zE (by show decide ((ct:Int)<0)=false;exact dQ (by omega)) (b8 zE (by show decide ((ct:Int)>=(p.bW.length:Int))=false;exact dQ (by omega)) (cL zE rfl rfl (bY.refl _)))))
theorem Fu(p:fE)(l:List dE)(ct:Nat)(hc:ct<p.bW.length)(hb:lB p l=0)(h1:p.qs.length<=1000000)(h2:p.bW.length<=1000000)(h3:l.length<=1000000):cJ av 191 [.agg p.cells,lU l,.int .i64 (ct:Nat)] (.cG [fM (ec p l ct),.int .i64 0],none):=by
 refine c8 CM Tryz.func191 rfl ?_;refine cj zE (amd p l ct hc hb h1 h2 h3) (b8 zE (rfl) ?_)
 repeat' (first|(refine bU zE (cZ hc) ?_)|(refine cN zE ?_)|(refine cj zE (amc p l ct hc h3) ?_))
 exact cL zE rfl rfl (bY.refl _)
end Go.Proofs.YtjhmdfofhnijeaaGreatDoor
