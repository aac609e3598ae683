import Derived.Test.YtjhmdfofhnijeaaGreatDoorS5
import Derived.LoopNIn
open Bool renaming and_eq_true->aa, noConfusion->ab
open Go renaming Program->ae, Code->af, Value->ai, World->aj, FuncId->ak, ResultVar->al
open Go.Sy.R renaming later->aq
open Go.Value.slice renaming injEq->ar
open List renaming mem_of_getElem?->au, mem_cons->av, getElem?_eq_getElem->ay, ext_getElem?->az, map->aA
open Nat renaming eq_of_beq_eq_true->aB, beq->aC, zero_add->aD, le_refl->aF, mul_le_mul_right->aG, succ_mul->aH, ble->aI, eq_zero_or_pos->aJ, zero_le->aK, add_mul->aL, ble_eq->aM
open Option.some renaming injEq->aN
set_option linter.all false
namespace Go.Sy
open Go.RowKit
variable [fI]
def Core(st:St)(objs':List Ob)(x y:A):Prop:=∀ (w0:aj) (X:Nat->Prop) (a:Act) (w:aj) (ρ:Nat->Loc),Rel w0 X st a w ρ->
 ∃ρ',dz w w (Ow X ρ) (Ow X ρ') ρ ρ'/\(∀k,fR w (Ow X ρ') ρ' (bZ objs' k) (ρ' k))/\(∀i j b,(ρ' i).has b->(ρ' j).has b->i=j)/\(∀b,owned ρ' b->owned ρ b)/\
  ∀v,R w (Ow X ρ) x ρ v->R w (Ow X ρ') y ρ' v
theorem Core.cell{st:St}{objs':List Ob}{x y:A}(h:Core st objs' x y)(b i:Nat){cells:List A}(hb:bZ st.bR b= .box cells)(hb':bZ objs' b= .box cells)(hi:bT cells i=x):jJ st ⟨st.tmps,cM objs' b (.box (eS cells i y))⟩:=by
 intro w0 X a w ρ hr;obtain⟨ρ',hL,h1,h2,h3,h4⟩:=h w0 X a w ρ hr;refine⟨ρ',⟨hr.len,λi=>aq _ ρ ρ' _ hL (hr.tmp i),λk=>?_,h2,hr.kept,λb hb=>hr.new b (h3 b hb),hr.fu,hr.jM⟩,hL⟩;simp only[ef];by_cases hk:k=b
 .subst hk;rw[bS rfl];have nK:=hr.obj k;rw[hb]at nK;have CW:=h1 k;rw[hb']at CW;obtain⟨bb,vs,t,e1,e2,e3⟩:=nK;obtain⟨bb',vs',t',Nz,e2',e3'⟩:=CW;rcases hL.loc k with e|e|e
  .rw[e1]at e;refine⟨bb,vs,t,e,e2,ze i (RL.later _ _ _ _ hL e3) λu hu=>?_⟩;have ht':=e3.get i u hu;rw[hi]at ht';exact h4 _ ht'
  .rw[e1]at e;cases e
  rw[Nz]at e;cases e
 rw[bQ hk];exact h1 k
def vC(len:Nat->Nat)(k m:Nat):Nat->Nat:=λi=>if i=k then m else len i
def vD(el:Nat->Nat->Nat->A)(k:Nat)(ex:Nat->Nat->A):Nat->Nat->Nat->A:=λi=>if i=k then ex else el i
section
variable {st:St}
theorem Az(id id' e c:Nat){te n:Nat}{el:Nat->Nat->A}(ho:bZ st.bR id= .row te 1 n el)(hnil:∀ k,k<n->el k 0= .bN)(hv:bZ st.bR id'= .de):Core st (cM (cM st.bR id .dead) id' (.rr te e c n (λ_=>0) (λ_ _ _=>.dU) none)) (.own id) (.rv id' n):=by
 intro w0 X a w ρ h;have hne:id≠id':=by intro e1;subst e1;rw[ho]at hv;cases hv
 have cy:=h.obj id;rw[ho]at cy;obtain⟨v,xs,hl,hrow,hone,hel⟩:=cy;have pZ:=h.de hv;have hxs:∀ (i:Nat) (u:ai),xs[i]? =some u->u= .slice none 0 0:=by
  intro i u hu;have hi:i<n:=by
   have:=(List.getElem?_eq_some_iff.1 hu).1;have h2:=hrow.1;omega
  obtain⟨u',h1,h2⟩:=hel i hi 0 (by omega);rw[Nat.mul_one,Nat.add_zero,hu]at h1;cases h1;rw[hnil i hi]at h2;simpa only[R]using h2
 let ρ':=dj (dj ρ id .dead) id' (.pO v xs none)
 have r1:ρ' id'= .pO v xs none:=dM _ _ _;have r2:ρ' id= .dead:=by simp only[ρ'];rw[dX _ _ _ hne,dM]
 have r3:∀ i,i≠id->i≠id'->ρ' i=ρ i:=λi h1 h2=>by simp only[ρ'];rw[dX _ _ _ h2,dX _ _ _ h1]
 have hblk:∀ i b,(ρ' i).has b->(i=id'/\(ρ id).has b)\/(i≠id/\i≠id'/\(ρ i).has b):=by
  intro i b hb;by_cases h2:i=id'
  .subst h2;rw[r1]at hb;refine .inl ⟨rfl,?_⟩;rcases hb with hb|⟨k,u,hu,_,hb⟩
   .rw[hl];exact hb
   rw[hxs k u hu]at hb;cases hb
  by_cases h1:i=id
  .subst h1;rw[r2]at hb;cases hb
  rw[r3 i h1 h2]at hb;exact .inr ⟨h1,h2,hb⟩
 have how:∀ b,owned ρ' b->owned ρ b:=by
  rintro b ⟨i,hi⟩;rcases hblk i b hi with ⟨_,h1⟩|⟨_,_,h1⟩
  .exact⟨_,h1⟩
  exact⟨_,h1⟩
 have hL:dz w w (Ow X ρ) (Ow X ρ') ρ ρ':=⟨aF _,λ_ _ _=>rfl,λb _ hb=>by
  rcases hb with hb|hb
  .exact .inl hb
  .exact .inr (how b hb),λi=>by
  by_cases h1:i=id
  .subst h1;exact .inr (.inr r2)
  by_cases h2:i=id'
  .subst h2;exact .inr (.inl pZ)
  exact .inl (r3 i h1 h2)⟩
 refine⟨ρ',hL,λk=>?_,λi j b hi hj=>?_,how,λu hu=>?_⟩
 .simp only[ef];by_cases h2:k=id'
  .subst h2;rw[bS rfl,r1];refine⟨v,xs,xs,rfl,⟨⟨hrow,hone⟩,⟨rfl,λ_ _=>rfl⟩,λi u hu _=>?_,λi u hu _ b hb=>?_⟩,λi a q=>by cases q⟩
   .rw[hxs i u hu];exact⟨[],⟨by simp,.inl ⟨rfl,_,rfl⟩⟩,(λx hx=>by cases hx),λq hq=>dP hq (Nat.not_lt_zero q)⟩
   rw[hxs i u hu]at hb;cases hb
  rw[bQ h2];by_cases h1:k=id
  .subst h1;rw[bS rfl];exact r2
  rw[bQ h1,r3 k h1 h2];exact(h.obj k).later hL λ_ _=>rfl
 .rcases hblk i b hi with ⟨rfl,h1⟩|⟨h1,h2,h3⟩<;>rcases hblk j b hj with ⟨rfl,k1⟩|⟨k1,k2,k3⟩
  .rfl
  .exact(k1 (h.dJ _ _ b k3 h1)).elim
  .exact(h1 (h.dJ _ _ b h3 k1)).elim
  exact h.dJ _ _ b h3 k3
 simp only[R,hl]at hu;obtain⟨rfl,_⟩:=hu;simp only[R,r1];refine⟨bP,?_⟩;rcases hrow.2 with ⟨hn,a,rfl⟩|⟨g,o,cap,cur,rfl,_⟩
 .exact⟨a,0,by rw[hn],λhp=>by omega⟩
 exact⟨_,_,rfl,λ_=>⟨_,_,rfl⟩⟩
theorem oL(id id' K k:Nat){te e c n:Nat}{len:Nat->Nat}{el:Nat->Nat->Nat->A}(ho:bZ st.bR id= .rr te e c n len el none)(hk:k<n)(hv:bZ st.bR id'= .de)(hK:bZ st.bR K= .de)(apa:id'≠K):
  Core st (cM (cM (cM st.bR id .dead) id' (.rr te e c n len el (some (k,.own K)))) K (.row e c (len k) (el k))) (.rv id n) (.rv id' n):=by
 intro w0 X a w ρ h;have hne:id≠id':=by intro e1;subst e1;rw[ho]at hv;cases hv
 have zm:id≠K:=by intro e1;subst e1;rw[ho]at hK;cases hK
 have cy:=h.obj id;rw[ho]at cy;obtain⟨v,us,vs,hl,⟨⟨hrow,hone⟩,⟨hlen,heq⟩,hin,hds⟩,_⟩:=cy;have wm:us=vs:=az λi=>heq i (by intro q;cases q);subst wm;have pZ:=h.de hv;have hKi:=h.de hK;have sr:k<us.length:=by have:=hrow.1;omega
 obtain⟨u0,pR⟩:∃ u0,us[k]? =some u0:=⟨us[k],ay sr⟩;have Ya:=hin k u0 pR (by intro q;cases q);have Yb:=hds k u0 pR (by intro q;cases q)
 let ρ':=dj (dj (dj ρ id .dead) id' (.pO v us (some k))) K (.row u0)
 have r0:ρ' K= .row u0:=dM _ _ _;have r1:ρ' id'= .pO v us (some k):=by simp only[ρ'];rw[dX _ _ _ apa,dM]
 have r2:ρ' id= .dead:=by simp only[ρ'];rw[dX _ _ _ zm,dX _ _ _ hne,dM]
 have r3:∀ i,i≠id->i≠id'->i≠K->ρ' i=ρ i:=λi h1 h2 h3=>by simp only[ρ'];rw[dX _ _ _ h3,dX _ _ _ h2,dX _ _ _ h1]
 have tL:∀ b:Nat,(ρ id).has b↔(eQ v=some b\/ ∃(i:Nat) (u:ai),us[i]? =some u/\eQ u=some b):=by
  intro b;rw[hl];simp only[Loc.has,uE];constructor
  .rintro(h1|⟨i,u,h1,_,h2⟩)
   .exact .inl h1
   exact .inr ⟨i,u,h1,h2⟩
  rintro(h1|⟨i,u,h1,h2⟩)
  .exact .inl h1
  exact .inr ⟨i,u,h1,(by intro q;cases q),h2⟩
 have hKb:∀ b,(ρ' K).has b->eQ u0=some b:=λb hb=>by rw[r0]at hb;exact hb
 have hib:∀ b,(ρ' id').has b->(ρ id).has b/\eQ u0≠some b:=by
  intro b hb;rw[r1]at hb;rcases hb with hb|⟨i,u,hu,hne',hb⟩
  .exact⟨(tL b).2 (.inl hb),λq=>(Yb b q).1 hb⟩
  exact⟨(tL b).2 (.inr ⟨i,u,hu,hb⟩),λq=>(Yb b q).2 i u hu (by rintro rfl;exact hne' rfl) (by intro q;cases q) hb⟩
 have hblk:∀ i b,(ρ' i).has b->(i=K/\eQ u0=some b/\(ρ id).has b)\/(i=id'/\(ρ id).has b/\eQ u0≠some b)\/(i≠id/\(ρ i).has b):=by
  intro i b hb;by_cases h3:i=K
  .subst h3;have:=hKb b hb;exact .inl ⟨rfl,this,(tL b).2 (.inr ⟨k,u0,pR,this⟩)⟩
  by_cases h2:i=id'
  .subst h2;exact .inr (.inl ⟨rfl,hib b hb⟩)
  by_cases h1:i=id
  .subst h1;rw[r2]at hb;cases hb
  rw[r3 i h1 h2 h3]at hb;exact .inr (.inr ⟨h1,hb⟩)
 have how:∀ b,owned ρ' b->owned ρ b:=by
  rintro b ⟨i,hi⟩;rcases hblk i b hi with ⟨_,_,h1⟩|⟨_,h1,_⟩|⟨_,h1⟩
  .exact⟨_,h1⟩
  .exact⟨_,h1⟩
  exact⟨_,h1⟩
 have hL:dz w w (Ow X ρ) (Ow X ρ') ρ ρ':=⟨aF _,λ_ _ _=>rfl,λb _ hb=>by
  rcases hb with hb|hb
  .exact .inl hb
  .exact .inr (how b hb),λi=>by
  by_cases h1:i=id
  .subst h1;exact .inr (.inr r2)
  by_cases h2:i=id'
  .subst h2;exact .inr (.inl pZ)
  by_cases h3:i=K
  .subst h3;exact .inr (.inl hKi)
  exact .inl (r3 i h1 h2 h3)⟩
 refine⟨ρ',hL,λq=>?_,λi j b hi hj=>?_,how,λu hu=>?_⟩
 .simp only[ef];by_cases h3:q=K
  .subst h3;rw[bS rfl,r0];obtain⟨xs,h6,h7,h8⟩:=Ya;refine⟨u0,xs,rfl,h6,h7,λi hi j hj=>?_⟩;obtain⟨x,hx,hr⟩:=h8 i hi j hj;exact⟨x,hx,aq _ b7 b7 x hL.b7 hr⟩
  rw[bQ h3];by_cases h2:q=id'
  .subst h2;rw[bS rfl,r1];refine⟨v,us,us,rfl,⟨⟨hrow,hone⟩,⟨rfl,λ_ _=>rfl⟩,λi u hu _=>?_,λi u hu za b hb=>⟨(hds i u hu (by intro q;cases q) b hb).1,λj u' gN hji _=>(hds i u hu (by intro q;cases q) b hb).2 j u' gN hji (by intro q;cases q)⟩⟩,λi a q=>?_⟩
   .obtain⟨xs,h6,h7,h8⟩:=hin i u hu (by intro q;cases q);refine⟨xs,h6,h7,λp hp j hj=>?_⟩;obtain⟨x,hx,hr⟩:=h8 p hp j hj;exact⟨x,hx,aq _ b7 b7 x hL.b7 hr⟩
   simp only[aN,Prod.mk.injEq]at q;obtain⟨rfl,rfl⟩:=q;refine⟨rfl,u0,pR,?_⟩;simp only[R,r0];obtain⟨xs,h6,_⟩:=Ya;rcases h6.2 with ⟨_,a,rfl⟩|⟨g,o,cap,cur,rfl,_⟩
   .exact⟨bP,_,_,_,rfl⟩
   exact⟨bP,_,_,_,rfl⟩
  rw[bQ h2];by_cases h1:q=id
  .subst h1;rw[bS rfl];exact r2
  rw[bQ h1,r3 q h1 h2 h3];exact(h.obj q).later hL λ_ _=>rfl
 .rcases hblk i b hi with ⟨e1,e2,e3⟩|⟨e1,e2,e3⟩|⟨e1,e2⟩<;>rcases hblk j b hj with ⟨f1,f2,f3⟩|⟨f1,f2,f3⟩|⟨f1,f2⟩
  .rw[e1,f1]
  .exact(f3 e2).elim
  .exact(f1 (h.dJ _ _ b f2 e3)).elim
  .exact(e3 f2).elim
  .rw[e1,f1]
  .exact(f1 (h.dJ _ _ b f2 e2)).elim
  .exact(e1 (h.dJ _ _ b e2 f3)).elim
  .exact(e1 (h.dJ _ _ b e2 f2)).elim
  exact h.dJ _ _ b e2 f2
 simp only[R,hl]at hu;simp only[R,r1];exact hu
theorem nS(id id' K k:Nat){te e c n m:Nat}{len:Nat->Nat}{el:Nat->Nat->Nat->A}{ex:Nat->Nat->A}(ho:bZ st.bR id= .rr te e c n len el (some (k,.own K)))(GX:bZ st.bR K= .row e c m ex)(hv:bZ st.bR id'= .de):
  Core st (cM (cM (cM st.bR id .dead) K .dead) id' (.rr te e c n (vC len k m) (vD el k ex) none)) (.rv id n) (.rv id' n):=by
 intro w0 X a w ρ h;have hne:id≠id':=by intro e1;subst e1;rw[ho]at hv;cases hv
 have apb:K≠id':=by intro e1;subst e1;rw[GX]at hv;cases hv
 have zm:id≠K:=by intro e1;subst e1;rw[ho]at GX;cases GX
 have cy:=h.obj id;rw[ho]at cy;obtain⟨v,us,vs,hl,⟨⟨hrow,hone⟩,⟨hlen,heq⟩,hin,hds⟩,hh⟩:=cy;obtain⟨_,u0,pR,Yc⟩:=hh k (.own K) rfl;have Yd:=h.obj K;rw[GX]at Yd;obtain⟨vK,xsK,NA,apc,apd,ape⟩:=Yd;simp only[R,NA]at Yc;obtain⟨rfl,_⟩:=Yc;have pZ:=h.de hv;have hold:∀ i u,i≠k->us[i]? =some u->vs[i]? =some u:=λi u hi hu=>by rw[<-heq i (by intro q;simp only[uE,aN]at q;exact hi q.symm)];exact hu
 have hnk:∀ i,i≠k->uE (some (k,A.own K))≠some i:=λi hi q=>by simp only[uE,aN]at q;exact hi q.symm
 have tL:∀ b:Nat,(eQ v=some b\/ ∃(i:Nat) (u:ai),i≠k/\us[i]? =some u/\eQ u=some b)->(ρ id).has b:=by
  intro b hb;rw[hl];rcases hb with hb|⟨i,u,hi,hu,hb⟩
  .exact .inl hb
  exact .inr ⟨i,u,hold i u hi hu,hnk i hi,hb⟩
 let ρ':=dj (dj (dj ρ id .dead) K .dead) id' (.pO v us none)
 have r1:ρ' id'= .pO v us none:=dM _ _ _;have r0:ρ' K= .dead:=by simp only[ρ'];rw[dX _ _ _ apb,dM]
 have r2:ρ' id= .dead:=by simp only[ρ'];rw[dX _ _ _ hne,dX _ _ _ zm,dM]
 have r3:∀ i,i≠id->i≠id'->i≠K->ρ' i=ρ i:=λi h1 h2 h3=>by simp only[ρ'];rw[dX _ _ _ h2,dX _ _ _ h3,dX _ _ _ h1]
 have hblk:∀ i b,(ρ' i).has b->(i=id'/\((ρ id).has b\/(ρ K).has b))\/(i≠id/\i≠K/\(ρ i).has b):=by
  intro i b hb;by_cases h2:i=id'
  .subst h2;refine .inl ⟨rfl,?_⟩;rw[r1]at hb;rcases hb with hb|⟨j,u,hu,_,hb⟩
   .exact .inl (tL b (.inl hb))
   by_cases hj:j=k
   .subst hj;rw[pR]at hu;cases hu;right;rw[NA];exact hb
   exact .inl (tL b (.inr ⟨j,u,hj,hu,hb⟩))
  by_cases h1:i=id
  .subst h1;rw[r2]at hb;cases hb
  by_cases h3:i=K
  .subst h3;rw[r0]at hb;cases hb
  rw[r3 i h1 h2 h3]at hb;exact .inr ⟨h1,h3,hb⟩
 have how:∀ b,owned ρ' b->owned ρ b:=by
  rintro b ⟨i,hi⟩;rcases hblk i b hi with ⟨_,h1|h1⟩|⟨_,_,h1⟩
  .exact⟨_,h1⟩
  .exact⟨_,h1⟩
  exact⟨_,h1⟩
 have hL:dz w w (Ow X ρ) (Ow X ρ') ρ ρ':=⟨aF _,λ_ _ _=>rfl,λb _ hb=>by
  rcases hb with hb|hb
  .exact .inl hb
  .exact .inr (how b hb),λi=>by
  by_cases h1:i=id
  .subst h1;exact .inr (.inr r2)
  by_cases h2:i=id'
  .subst h2;exact .inr (.inl pZ)
  by_cases h3:i=K
  .subst h3;exact .inr (.inr r0)
  exact .inl (r3 i h1 h2 h3)⟩
 have NB:∀ b,eQ u0=some b->(ρ K).has b:=λb hb=>by rw[NA];exact hb
 refine⟨ρ',hL,λq=>?_,λi j b hi hj=>?_,how,λu hu=>?_⟩
 .simp only[ef];by_cases h2:q=id'
  .subst h2;rw[bS rfl,r1];refine⟨v,us,us,rfl,⟨⟨hrow,hone⟩,⟨rfl,λ_ _=>rfl⟩,λi u hu _=>?_,λi u hu _ b hb=>⟨?_,λj u' gN hji _=>?_⟩⟩,λi a q=>by cases q⟩
   .by_cases hik:i=k
    .subst hik;rw[pR]at hu;cases hu;simp only[vC,vD,iI];refine⟨xsK,apc,apd,λp hp j hj=>?_⟩;obtain⟨x,hx,hr⟩:=ape p hp j hj;exact⟨x,hx,aq _ b7 b7 x hL.b7 hr⟩
    simp only[vC,vD,bQ hik];obtain⟨xs,h6,h7,h8⟩:=hin i u (hold i u hik hu) (hnk i hik);refine⟨xs,h6,h7,λp hp j hj=>?_⟩;obtain⟨x,hx,hr⟩:=h8 p hp j hj;exact⟨x,hx,aq _ b7 b7 x hL.b7 hr⟩
   .intro hvb;by_cases hik:i=k
    .subst hik;rw[pR]at hu;cases hu;exact zm (h.dJ id K b (tL b (.inl hvb)) (NB b hb))
    exact(hds i u (hold i u hik hu) (hnk i hik) b hb).1 hvb
   intro hb';by_cases hik:i=k
   .subst hik;rw[pR]at hu;cases hu;exact zm (h.dJ id K b (tL b (.inr ⟨j,u',hji,gN,hb'⟩)) (NB b hb))
   by_cases NC:j=k
   .subst NC;rw[pR]at gN;cases gN;exact zm (h.dJ id K b (tL b (.inr ⟨i,u,hik,hu,hb⟩)) (NB b hb'))
   exact(hds i u (hold i u hik hu) (hnk i hik) b hb).2 j u' (hold j u' NC gN) hji (hnk j NC) hb'
  rw[bQ h2];by_cases h3:q=K
  .subst h3;rw[bS rfl];exact r0
  rw[bQ h3];by_cases h1:q=id
  .subst h1;rw[bS rfl];exact r2
  rw[bQ h1,r3 q h1 h2 h3];exact(h.obj q).later hL λ_ _=>rfl
 .rcases hblk i b hi with ⟨e1,e2⟩|⟨e1,e2,e3⟩<;>rcases hblk j b hj with ⟨f1,f2⟩|⟨f1,f2,f3⟩
  .rw[e1,f1]
  .rcases e2 with e2|e2
   .exact(f1 (h.dJ _ _ b f3 e2)).elim
   exact(f2 (h.dJ _ _ b f3 e2)).elim
  .rcases f2 with f2|f2
   .exact(e1 (h.dJ _ _ b e3 f2)).elim
   exact(e2 (h.dJ _ _ b e3 f2)).elim
  exact h.dJ _ _ b e3 f3
 simp only[R,hl]at hu;simp only[R,r1];exact hu
theorem AA(id:Nat){te e c n:Nat}{len:Nat->Nat}{el:Nat->Nat->Nat->A}(ho:bZ st.bR id= .rr te e c n len el none):
  Core st (cM st.bR id .dead) (.rv id n) (.sl 1 n λi _=>.sl c (len i) (el i)):=by
 intro w0 X a w ρ h;have cy:=h.obj id;rw[ho]at cy;obtain⟨v,us,vs,hl,⟨⟨hrow,hone⟩,⟨hlen,heq⟩,hin,hds⟩,_⟩:=cy;have wm:us=vs:=az λi=>heq i (by intro q;cases q);subst wm;obtain⟨hblk,hL⟩:=ao3 (w0:=w0) (w:=w) (X:=X) (st:=st) (a:=a) (ρ:=ρ) id;have hfree:∀ b,(ρ id).has b->b<w.heap.size/\ ¬Ow X (dj ρ id .dead) b:=by
  intro b hb;refine⟨(h.new b ⟨id,hb⟩).2,?_⟩;rintro(hx|⟨j,hj⟩)
  .have h1:=h.fu b hx;have h2:=(h.new b ⟨id,hb⟩).1;omega
  obtain⟨h1,h2⟩:=hblk j b hj;exact h1 (h.dJ j id b h2 hb)
 refine⟨dj ρ id .dead,hL,λk=>?_,λi j b hi hj=>h.dJ i j b (hblk i b hi).2 (hblk j b hj).2,?_,λu hu=>?_⟩
 .simp only[ef];by_cases hk:k=id
  .subst hk;rw[bS rfl];exact dM _ _ _
  rw[bQ hk,dX _ _ _ hk];exact(h.obj k).later hL λ_ _=>rfl
 .rintro b ⟨i,hi⟩;exact⟨i,(hblk i b hi).2⟩
 simp only[R,hl]at hu;obtain⟨rfl,_⟩:=hu;have apf:∀ i u',us[i]? =some u'->R w (Ow X (dj ρ id .dead)) (.sl c (len i) (el i)) b7 u':=by
  intro i u' gN;obtain⟨xs,h6,h7,h8⟩:=hin i u' gN (by intro q;cases q);have eZ:fR w (Ow X ρ) ρ (.row e c (len i) (el i)) (.row u'):=⟨u',xs,rfl,h6,h7,h8⟩;refine yY eZ rfl (λb hb ho=>hL.own b hb ho) λb hb=>hfree b ?_;rw[hl];exact .inr ⟨i,u',gN,(by intro q;cases q),hb⟩
 simp only[R];rcases aJ n with hn|hn
 .subst hn;rcases hrow.2 with ⟨_,s,rfl⟩|⟨g,o,cap,cur,rfl,_,h1,h2,_⟩
  .exact⟨_,_,rfl,aF _,aK _,λh=>by simp at h⟩
  exact⟨_,_,rfl,h1,h2,λh=>by simp at h⟩
 obtain⟨g,o,cap,rfl,h1,h2,hcell⟩:=qI hrow hn;refine⟨_,_,rfl,h1,h2,λhp=>⟨_,rfl,?_,λi hi j hj=>?_⟩⟩
 .refine hfree g ?_;rw[hl];exact .inl rfl
 obtain rfl:j=0:=by omega
 have ti:i<us.length:=by have:=hrow.1;omega
 have gN:us[i]? =some us[i]:=ay ti;refine⟨us[i],?_,hone _ (List.getElem_mem _),apf i _ gN⟩;have:=hcell (i*1+0) us[i] (by simp);exact this
end
def ND(st:St)(objs':List Ob)(x y:A):Prop:=∀ (w0:aj) (X:Nat->Prop) (a:Act) (w:aj) (ρ:Nat->Loc),Rel w0 X st a w ρ-> ∀v,R w (Ow X ρ) x ρ v->
 ∃ρ',dz w w (Ow X ρ) (Ow X ρ') ρ ρ'/\(∀k,fR w (Ow X ρ') ρ' (bZ objs' k) (ρ' k))/\(∀i j b,(ρ' i).has b->(ρ' j).has b->i=j)/\(∀b,owned ρ' b->owned ρ b)/\R w (Ow X ρ') y ρ' v
theorem ND.cell{st:St}{objs':List Ob}{x y:A}(h:ND st objs' x y)(b i:Nat){cells:List A}(hb:bZ st.bR b= .box cells)(hb':bZ objs' b= .box cells)(hlt:i<cells.length)(hi:bT cells i=x):jJ st ⟨st.tmps,cM objs' b (.box (eS cells i y))⟩:=by
 intro w0 X a w ρ hr;have nK:=hr.obj b;rw[hb]at nK;obtain⟨bb,vs,t,e1,e2,e3⟩:=nK;have ti:i<vs.length:=by rw[e3.len];exact hlt
 have hu:vs[i]? =some vs[i]:=ay ti;have h0:=e3.get i _ hu;rw[hi]at h0;obtain⟨ρ',hL,h1,h2,h3,h4⟩:=h w0 X a w ρ hr _ h0;refine⟨ρ',⟨hr.len,λi=>aq _ ρ ρ' _ hL (hr.tmp i),λk=>?_,h2,hr.kept,λb hb=>hr.new b (h3 b hb),hr.fu,hr.jM⟩,hL⟩;simp only[ef];by_cases hk:k=b
 .subst hk;rw[bS rfl];have CW:=h1 k;rw[hb']at CW;obtain⟨bb',vs',t',Nz,e2',e3'⟩:=CW;rcases hL.loc k with e|e|e
  .rw[e1]at e;refine⟨bb,vs,t,e,e2,ze i (RL.later _ _ _ _ hL e3) λu gN=>?_⟩;rw[hu]at gN;cases gN;exact h4
  .rw[e1]at e;cases e
  rw[Nz]at e;cases e
 rw[bQ hk];exact h1 k
theorem Iz{st:St}(id id':Nat){e c N lo n:Nat}{el:Nat->Nat->A}(ho:bZ st.bR id= .row e c N el)(hv:bZ st.bR id'= .de):
  ND st (cM (cM st.bR id .dead) id' (.row e c n λi j=>el (lo+i) j)) (.ov id c lo n) (.own id'):=by
 intro w0 X a w ρ h u hu;have hne:id≠id':=by intro e1;subst e1;rw[ho]at hv;cases hv
 have cy:=h.obj id;rw[ho]at cy;obtain⟨v,xs,hl,hrow,hone,hel⟩:=cy;have pZ:=h.de hv;simp only[R,hl]at hu;obtain⟨ad0,N',cap',a',hv',hle,rfl,h0,hpos,hcap⟩:=hu;have hN:N'=N:=by
  rcases hrow.2 with ⟨hn,q,hq⟩|⟨g,o,cap,cur,hq,_⟩
  .rw[hv']at hq;simp only[ar]at hq;omega
  rw[hv']at hq;simp only[ar]at hq;omega
 subst hN;have rW:jP w e c (.slice a' n (cap'-lo)) n ((xs.drop (lo*c)).take (n*c)):=by
  have hxl:=hrow.1;have hmul:lo*c+n*c<=N'*c:=by rw[<-aL];exact aG c hle
  refine⟨by rw[List.length_take,List.length_drop];omega,?_⟩;rcases hrow.2 with ⟨hn,q,hq⟩|⟨g,o,cap,cur,hq,⟨fz,hg,hz⟩,h1,h2,h3,h4⟩
  .rw[hv']at hq;simp only[ar]at hq;obtain⟨_,_,rfl⟩:=hq;exact .inl ⟨by omega,a',by rw[show n=0 by omega,Nat.zero_sub]⟩
  rw[hv']at hq;simp only[ar]at hq;obtain⟨e3,_,e4⟩:=hq;subst e3 e4;rcases Nat.lt_or_ge lo (cap+1)with hlo|hlo
  .obtain⟨ad,e1,e2⟩:=hcap hlo;cases e1;refine .inr ⟨g,o+lo*c,cap-lo,cur,by rw[e2,na];congr 1;omega,⟨fz,hg,hz⟩,by omega,by omega,?_,?_⟩
   .rw[h3,show cap-lo+1=(cap+1)-lo by omega,Nat.sub_mul];have:lo*c<=(cap+1)*c:=aG c (by omega);omega
   rw[<-h4,List.drop_take,List.take_take,List.drop_drop];congr 1;omega
  have hn0:n=0:=by omega
  have hcl:cap+1-lo=0:=by omega
  exact .inl ⟨hn0,a',by rw[hn0,hcl]⟩
 let ρ':=dj (dj ρ id .dead) id' (.row (.slice a' n (cap'-lo)))
 have r1:ρ' id'= .row (.slice a' n (cap'-lo)):=dM _ _ _;have r2:ρ' id= .dead:=by simp only[ρ'];rw[dX _ _ _ hne,dM]
 have r3:∀ i,i≠id->i≠id'->ρ' i=ρ i:=λi h1 h2=>by simp only[ρ'];rw[dX _ _ _ h2,dX _ _ _ h1]
 have hblk:∀ i b,(ρ' i).has b->(i=id'/\(ρ id).has b)\/(i≠id/\i≠id'/\(ρ i).has b):=by
  intro i b hb;by_cases h2:i=id'
  .subst h2;rw[r1]at hb;refine .inl ⟨rfl,?_⟩;rw[hl];have hb2:eQ (.slice a' n (cap'-lo))=some b:=hb;clear hb;show eQ v=some b;cases hc:cap'-lo with
   |zero=>rw[hc]at hb2;cases a'<;>cases hb2
   |succ m=>
    obtain⟨ad,e1,e2⟩:=hcap (by omega);rw[hc,e2]at hb2;simp only[eQ,pD]at hb2;obtain⟨q,hq⟩:∃ q,cap'=q+1:=⟨cap'-1,by omega⟩;rw[hv',e1,hq];exact hb2
  by_cases h1:i=id
  .subst h1;rw[r2]at hb;cases hb
  rw[r3 i h1 h2]at hb;exact .inr ⟨h1,h2,hb⟩
 have how:∀ b,owned ρ' b->owned ρ b:=by
  rintro b ⟨i,hi⟩;rcases hblk i b hi with ⟨_,h1⟩|⟨_,_,h1⟩
  .exact⟨_,h1⟩
  exact⟨_,h1⟩
 have hL:dz w w (Ow X ρ) (Ow X ρ') ρ ρ':=⟨aF _,λ_ _ _=>rfl,λb _ hb=>by
  rcases hb with hb|hb
  .exact .inl hb
  .exact .inr (how b hb),λi=>by
  by_cases h1:i=id
  .subst h1;exact .inr (.inr r2)
  by_cases h2:i=id'
  .subst h2;exact .inr (.inl pZ)
  exact .inl (r3 i h1 h2)⟩
 refine⟨ρ',hL,λk=>?_,λi j b hi hj=>?_,how,?_⟩
 .simp only[ef];by_cases h2:k=id'
  .subst h2;rw[bS rfl,r1];refine⟨_,_,rfl,rW,λx hx=>hone x (List.mem_of_mem_drop (List.mem_of_mem_take hx)),λi hi j hj=>?_⟩;obtain⟨x,hx,hr⟩:=hel (lo+i) (by omega) j hj;refine⟨x,?_,aq _ b7 b7 x hL.b7 hr⟩;have hb:i*c+j<n*c:=by
    have:(i+1)*c<=n*c:=aG c hi;rw[aH]at this;omega
   rw[List.getElem?_take_of_lt hb,List.getElem?_drop,<- hx,aL,Nat.add_assoc]
  rw[bQ h2];by_cases h1:k=id
  .subst h1;rw[bS rfl];exact r2
  rw[bQ h1,r3 k h1 h2];exact(h.obj k).later hL λ_ _=>rfl
 .rcases hblk i b hi with ⟨rfl,h1⟩|⟨h1,h2,h3⟩<;>rcases hblk j b hj with ⟨rfl,k1⟩|⟨k1,k2,k3⟩
  .rfl
  .exact(k1 (h.dJ _ _ b k3 h1)).elim
  .exact(h1 (h.dJ _ _ b h3 k1)).elim
  exact h.dJ _ _ b h3 k3
 simp only[R,r1];exact⟨bP,_,_,_,rfl⟩
end Go.Sy
namespace Go.Sy
open Go.RowKit
variable [fI]
def GY:Nat->List Nat->Nat->Option Nat
 |_,[],_=>none
 |T,a::l,j=>bif aC a j then some T else GY (T+1) l j
def CX(B T:Nat)(L:List Nat)(j:Nat):Option Nat:=bif aI B j then GY T L j else some j
theorem Ye:∀ {T:Nat} {L:List Nat} {j k:Nat},GY T L j=some k->T<=k/\L[k-T]? =some j
 |T,[],j,k,h=>by cases h
 |T,a::l,j,k,h=>by
  simp only[GY]at h;cases hb:aC a j with
  |true=>
   rw[hb]at h;simp only[cond_true,aN]at h;subst h;have:=aB hb;subst this;exact⟨aF _,by simp⟩
  |false=>
   rw[hb]at h;simp only[cond_false]at h;obtain⟨h1,h2⟩:=Ye h;refine⟨by omega,?_⟩;rw[show k-T=(k-(T+1))+1 by omega];simpa using h2
def gP(f:Nat->Option Nat):Nat->A->A
 |0,_=>.dU
 |d+1,a=>match a with
  | .own j=>(match f j with|some k=>.own k|none=>.dU)
  | .ptr j o=>(match f j with|some k=>.ptr k o|none=>.dU)
  | .rp j c i o=>(match f j with|some k=>.rp k c i o|none=>.dU)
  | .dA j=>(match f j with|some k=>.dA k|none=>.dU)
  | .ov j c lo n=>(match f j with|some k=>.ov k c lo n|none=>.dU)
  | .ap j i=>(match f j with|some k=>.ap k i|none=>.dU)
  | .bm g j o=>(match f j with|some k=>.bm g k o|none=>.dU)
  | .rv j n=>(match f j with|some k=>.rv k n|none=>.dU)
  | .fn g l=>.fn g (eP (gP f d) l)
  | .agg l=>.agg (eP (gP f d) l)
  | .bv g l=>.bv g (eP (gP f d) l)
  | .cG l=>.cG (eP (gP f d) l)
  |a=>a
section
variable {w:aj} {O O':Nat->Prop} {ρ ρ':Nat->Loc}
theorem CY{f:Nat->Option Nat}(hL:dz w w O O' b7 b7)(hf:∀ j k,f j=some k->ρ' k=ρ j):∀ (d:Nat),
  (∀(a:A) (v:ai),R w O a ρ v->R w O' (gP f d a) ρ' v)/\(∀(l:List A) (vs:List ai),RL w O l ρ vs->RL w O' (eP (gP f d) l) ρ' vs)
 |0=>⟨λa v _=>by simp only[gP,R],λl=>by
   induction l with
   |nil=>intro vs h;simpa only[eP,RL]using h
   |cons a l ih=>
    intro vs h;simp only[RL]at h;obtain⟨v,vs',rfl,_,h2⟩:=h;simp only[eP,RL];exact⟨v,vs',rfl,by simp only[gP,R],ih vs' h2⟩⟩
 |d+1=>by
  obtain⟨_,ih2⟩:=CY hL hf d;have H:∀ (a:A) (v:ai),R w O a ρ v->R w O' (gP f (d+1) a) ρ' v:=by
   intro a v hr;cases a with
   |own j=>simp only[gP];split<;>first|(rename_i k hk;simp only[R,hf j k hk]at hr ⊢;exact hr)|simp only[R]
   |ptr j o=>simp only[gP];split<;>first|(rename_i k hk;simp only[R,hf j k hk]at hr ⊢;exact hr)|simp only[R]
   |rp j c i o=>simp only[gP];split<;>first|(rename_i k hk;simp only[R,hf j k hk]at hr ⊢;exact hr)|simp only[R]
   |dA j=>simp only[gP];split<;>first|(rename_i k hk;simp only[R,hf j k hk]at hr ⊢;exact hr)|simp only[R]
   |ov j c lo n=>simp only[gP];split<;>first|(rename_i k hk;simp only[R,hf j k hk]at hr ⊢;exact hr)|simp only[R]
   |ap j i=>simp only[gP];split<;>first|(rename_i k hk;simp only[R,hf j k hk]at hr ⊢;exact hr)|simp only[R]
   |bm g j o=>simp only[gP];split<;>first|(rename_i k hk;simp only[R,hf j k hk]at hr ⊢;exact hr)|simp only[R]
   |rv j n=>simp only[gP];split<;>first|(rename_i k hk;simp only[R,hf j k hk]at hr ⊢;exact hr)|simp only[R]
   |fn g l=>
    simp only[gP,R]at hr⊢;obtain⟨vs,rfl,h⟩:=hr;exact⟨vs,rfl,ih2 l vs h⟩
   |agg l=>
    simp only[gP,R]at hr⊢;obtain⟨vs,rfl,h⟩:=hr;exact⟨vs,rfl,ih2 l vs h⟩
   |bv g l=>
    simp only[gP,R]at hr⊢;obtain⟨vs,rfl,h⟩:=hr;exact⟨vs,rfl,ih2 l vs h⟩
   |cG l=>
    simp only[gP,R]at hr⊢;obtain⟨vs,rfl,h⟩:=hr;exact⟨vs,rfl,ih2 l vs h⟩
   |dU=>simp only[gP,R]
   |sl c m el=>
    have h1:R w O (.sl c m el) b7 v:=by simpa only[R]using hr
    have:=aq _ b7 b7 v hL h1;simpa only[gP,R]using this
   |ip c el=>
    have h1:R w O (.ip c el) b7 v:=by simpa only[R]using hr
    have:=aq _ b7 b7 v hL h1;simpa only[gP,R]using this
   |im t ag m hh el=>
    have h1:R w O (.im t ag m hh el) b7 v:=by simpa only[R]using hr
    have:=aq _ b7 b7 v hL h1;simpa only[gP,R]using this
   |_=>simpa only[gP,R]using hr
  refine⟨H,λl=>?_⟩
  induction l with
  |nil=>intro vs h;simpa only[eP,RL]using h
  |cons a l ih=>
   intro vs h;simp only[RL]at h;obtain⟨v,vs',rfl,h1,h2⟩:=h;simp only[eP,RL];exact⟨v,vs',rfl,H a v h1,ih vs' h2⟩
end
def xc(f:Nat->Option Nat):List (List Int×Option A)->List (List Int×Option A)
 |[]=>[]
 |(q,some a)::u=>(q,some (gP f 6 a))::xc f u
 |(q,none)::u=>(q,none)::xc f u
def zn(f:Nat->Option Nat):Ob->Ob
 | .de=>.de
 | .dead=>.dead
 | .box cs=>.box (eP (gP f 6) cs)
 | .row e c n el=>.row e c n el
 | .lp ts ps a b y p=>.lp (eP (gP f 6) ts) ps a b y p
 | .mp t ag n true u h v=>.mp t ag n true u h v
 | .mp t ag n false u h v=>.mp t ag n false (xc f u) h (λq=>gP f 6 (v q))
 | .it t ag n h v s=>.it t ag n h v s
 | .rr te e c n len el none=>.rr te e c n len el none
 | .rr te e c n len el (some (i,a))=>.rr te e c n len el (some (i,.lM))
theorem NF(f:Nat->Option Nat)(h:List Int->Bool)(v:List Int->A)(q:List Int):∀ u,eu h (λq=>gP f 6 (v q)) (xc f u) q=(eu h v u q).map (gP f 6)
 |[]=>by simp only[xc,eu];cases h q<;>rfl
 |(p,some a)::u=>by simp only[xc,eu];cases kE q p<;>simp[NF f h v q u]
 |(p,none)::u=>by simp only[xc,eu];cases kE q p<;>simp[NF f h v q u]
theorem Yf{w:aj}{O O':Nat->Prop}{ρ ρ':Nat->Loc}{f:Nat->Option Nat}(hL:dz w w O O' b7 b7)(hf:∀ j k,f j=some k->ρ' k=ρ j){o:Ob}{l:Loc}(h:fR w O ρ o l):fR w O' ρ' (zn f o) l:=by
 cases o with
 |de=>exact h
 |dead=>exact h
 |box cs=>
  obtain⟨b,vs,t,h1,h2,h3⟩:=h;exact⟨b,vs,t,h1,h2,(CY hL hf 6).2 _ _ h3⟩
 |row e c m el=>
  obtain⟨v,xs,h1,h2,h3,h4⟩:=h;refine⟨v,xs,h1,h2,h3,λi hi j hj=>?_⟩;obtain⟨u,hu,hr⟩:=h4 i hi j hj;exact⟨u,hu,aq _ b7 b7 u hL hr⟩
 |lp ts ps gQ gL gZ iK=>
  obtain⟨b,r,vs,h1,h2,h3,h4,h5⟩:=h;exact⟨b,r,vs,h1,h2,h3,(CY hL hf 6).2 _ _ h4,h5⟩
 |it t ag n hh v seen=>
  obtain⟨b,bm,es,clock,sn,h1,hg,hi,mG,hm,hs⟩:=h;exact⟨b,bm,es,clock,sn,h1,hg,hL.tc hi,mG,hm.mono λa v h=>aq a b7 b7 v hL h,hs⟩
 |mp t ag n cl u hh v=>
  obtain⟨b,es,clock,h1,h2,hm,hcl⟩:=h;cases cl with
  |true=>exact⟨b,es,clock,h1,h2,hm.Nh (hcl rfl) (λ_ _=>rfl) λa v hc h=>GN hL hc h,hcl⟩
  |false=>
   refine⟨b,es,clock,h1,h2,⟨hm.1,hm.2.1,λq hq=>?_⟩,λh=>by cases h⟩;have:=hm.2.2 q hq;rw[NF];cases hk:eu hh v u q with
   |none=>rw[hk]at this;exact this
   |some a=>
    rw[hk]at this;obtain⟨e,h3,h4,h5⟩:=this;exact⟨e,h3,h4,(CY hL hf 6).1 _ _ h5⟩
 |rr te e c n len el hole=>
  obtain⟨v,us,vs,h1,hR,hh⟩:=h;cases hole with
  |none=>exact⟨v,us,vs,h1,hR.same hL,λi a q=>by cases q⟩
  |some p=>
   obtain⟨i,a⟩:=p;obtain⟨h2,u,h3,h4⟩:=hh i a rfl;refine⟨v,us,vs,h1,hR.same hL,λi' a' q=>?_⟩;simp only[aN,Prod.mk.injEq]at q;obtain⟨rfl,rfl⟩:=q;exact⟨rfl,u,h3,by simp only[R];exact h4.cell_of h2⟩
def tM(f:Nat->Option Nat):Nat->List Ob->List Ob
 |0,_=>[]
 |B+1,[]=>.de::tM f B []
 |B+1,o::l=>zn f o::tM f B l
def zo(f:Nat->Option Nat)(bR:List Ob):List Nat->List Ob
 |[]=>[]
 |j::L=>zn f (bZ bR j)::zo f bR L
def zp:Nat->List Ob->List Ob
 |0,l=>l
 |n+1,l=>.de::zp n l
theorem NG(f:Nat->Option Nat):∀ (B:Nat) (bR m:List Ob) (i:Nat),bZ (tM f B bR++m) i=if i<B then zn f (bZ bR i)else bZ m (i-B)
 |0,bR,m,i=>by simp[tM]
 |B+1,[],m,0=>by simp[tM,bZ,zn]
 |B+1,[],m,i+1=>by simp[tM,bZ,NG f B [] m i]
 |B+1,o::l,m,0=>by simp[tM,bZ]
 |B+1,o::l,m,i+1=>by simp[tM,bZ,NG f B l m i]
theorem Yg:∀ (n:Nat) (m:List Ob) (i:Nat),bZ (zp n m) i=if i<n then .de else bZ m (i-n)
 |0,m,i=>by simp[zp]
 |n+1,m,0=>by simp[zp,bZ]
 |n+1,m,i+1=>by simp[zp,bZ,Yg n m i]
theorem Yh(f:Nat->Option Nat)(bR:List Ob):∀ (L:List Nat) (i:Nat),bZ (zo f bR L) i=match L[i]? with|some j=>zn f (bZ bR j)|none=>.de
 |[],i=>by simp[zo,bZ]
 |j::L,0=>by simp[zo,bZ]
 |j::L,i+1=>by simp[zo,bZ,Yh f bR L i]
def CZ(B T:Nat)(L:List Nat)(st:St):St:=
 ⟨eP (gP (CX B T L) 6) st.tmps,tM (CX B T L) B st.bR++zp (T-B) (zo (CX B T L) st.bR L)⟩
def zq(B:Nat):List Nat->Bool
 |[]=>true
 |a::l=>aI B a&&zq B l
def GZ(a:Nat):List Nat->Bool
 |[]=>true
 |b::l=>(bif aC a b then false else GZ a l)
def zr:List Nat->Bool
 |[]=>true
 |a::l=>GZ a l&&zr l
theorem NH{B:Nat}:∀ {L:List Nat},zq B L=true-> ∀j∈L,B<=j
 |[],_,j,hj=>by cases hj
 |a::L,h,j,hj=>by
  simp only[zq,aa,aM]at h;rcases av.1 hj with rfl|hj
  .exact h.1
  exact NH h.2 j hj
theorem Yi{a:Nat}:∀ {L:List Nat},GZ a L=true->a∉L
 |[],_,h=>by cases h
 |b::L,h,hm=>by
  simp only[GZ]at h;cases hb:aC a b with
  |true=>rw[hb]at h;cases h
  |false=>
   rw[hb]at h;rcases av.1 hm with rfl|hm
   .have:aC a a=true:=Nat.beq_refl a;rw[this]at hb;cases hb
   exact Yi h hm
theorem Yj:∀ {L:List Nat},zr L=true-> ∀{i k j:Nat},L[i]? =some j->L[k]? =some j->i=k
 |[],_,i,k,j,h,_=>by simp at h
 |a::L,h,i,k,j,hi,hk=>by
  simp only[zr,aa]at h;have hn:=Yi h.1;cases i with
  |zero=>
   simp at hi;subst hi;cases k with
   |zero=>rfl
   |succ k=>simp at hk;exact(hn (au hk)).elim
  |succ i=>
   simp at hi;cases k with
   |zero=>simp at hk;subst hk;exact(hn (au hi)).elim
   |succ k=>simp at hk;rw[Yj h.2 hi hk]
theorem NI(f:A->A):∀ l:List A,(eP f l).length=l.length
 |[]=>rfl
 |a::l=>by simp[eP,NI f l]
theorem NJ(f:A->A)(hf:f .dU= .dU):∀ (l:List A) (i:Nat),bT (eP f l) i=f (bT l i)
 |[],i=>by simp[eP,bT,hf]
 |a::l,0=>by simp[eP,bT]
 |a::l,i+1=>by simp[eP,bT,NJ f hf l i]
theorem apg{B T:Nat}{L:List Nat}{st:St}(Yk:aI B T=true)(hge:zq B L=true)(hnd:zr L=true):eo B st (CZ B T L st):=by
 intro w0 X a w ρ h;have Yk:B<=T:=Nat.le_of_ble_eq_true Yk
 let ρ':Nat->Loc:=λi=>if i<B then ρ i else if i<T then .de else match L[i-T]? with|some j=>ρ j|none=>.de
 have hf:∀ j k,CX B T L j=some k->ρ' k=ρ j:=by
  intro j k hj;unfold CX at hj;cases hb:aI B j with
  |false=>
   rw[hb]at hj;simp only[cond_false,aN]at hj;subst hj;have:¬ B<=j:=by rw[<-aM];simp[hb]
   simp only[ρ'];rw[bS (by omega)]
  |true=>
   rw[hb]at hj;simp only[cond_true]at hj;obtain⟨h1,h2⟩:=Ye hj;simp only[ρ'];rw[bQ (by omega),bQ (by omega),h2]
 have hblk:∀ i b,(ρ' i).has b->(i<B/\(ρ i).has b)\/(T<=i/\ ∃j,L[i-T]? =some j/\(ρ j).has b):=by
  intro i b hb;simp only[ρ']at hb;split at hb
  .rename_i h1;exact .inl ⟨h1,hb⟩
  split at hb
  .cases hb
  split at hb
  .rename_i h2 j hj;exact .inr ⟨by omega,j,hj,hb⟩
  cases hb
 have how:∀ b,owned ρ' b->owned ρ b:=by
  rintro b ⟨i,hi⟩;rcases hblk i b hi with ⟨_,h1⟩|⟨_,j,_,h1⟩
  .exact⟨_,h1⟩
  exact⟨_,h1⟩
 have hO:∀ b,b<w.heap.size->Ow X ρ' b->Ow X ρ b:=λb _ hb=>by
  rcases hb with hb|hb
  .exact .inl hb
  exact .inr (how b hb)
 have hL:dz w w (Ow X ρ) (Ow X ρ') b7 b7:=⟨aF _,λ_ _ _=>rfl,hO,λ_=>.inl rfl⟩;refine⟨ρ',⟨by simp[CZ,NI,h.len],λi=>?_,λi=>?_,λi j b hi hj=>?_,h.kept,λb hb=>h.new b (how b hb),h.fu,h.jM⟩,⟨aF _,λ_ _ _=>rfl,hO,λid cn=>.inl (bS cn)⟩⟩
 .simp only[CZ];rw[NJ _ rfl];exact(CY hL hf 6).1 _ _ (h.tmp i)
 .simp only[CZ];rw[NG];by_cases h1:i<B
  .rw[bS h1,show ρ' i=ρ i from bS h1];exact Yf hL hf (h.obj i)
  rw[bQ h1,Yg];by_cases h2:i<T
  .rw[bS (by omega),show ρ' i= .de by simp only[ρ'];rw[bQ h1,bS h2]];rfl
  rw[bQ (by omega),Yh,show i-B-(T-B)=i-T by omega];have:ρ' i=match L[i-T]? with|some j=>ρ j|none=>.de:=by simp only[ρ'];rw[bQ h1,bQ h2]
  rw[this];cases hl:L[i-T]? with
  |none=>rfl
  |some j=>exact Yf hL hf (h.obj j)
 rcases hblk i b hi with ⟨h1,h2⟩|⟨h1,p,hp,h2⟩<;>rcases hblk j b hj with ⟨k1,k2⟩|⟨k1,q,hq,k2⟩
 .exact h.dJ i j b h2 k2
 .have:=h.dJ _ _ b h2 k2;have:=NH hge q (au hq);omega
 .have:=h.dJ _ _ b h2 k2;have:=NH hge p (au hp);omega
 have:=h.dJ _ _ b h2 k2;subst this;have:=Yj hnd hp hq;omega
def WR(E:Env)(B:Nat)(fl:Bool)(body:af)(Q:Ex->St->Prop):Nat->St->Prop
 |0,_=>False
 |m+1,st=>W E B fl body st λe cz=>match e with
  | .normal=>∃ nI,eo B cz nI/\WR E B fl body Q m nI
  | .exit i=>Q (.exit i) cz
  | .ret=>Q .ret cz
end Go.Sy
namespace Go.Sy
open Go.RowKit
variable [fI]
section
variable {E:Env} {B:Nat} {fl:Bool} {Q:Ex->St->Prop}
theorem W.rounds{body:af}{m:Nat}{st:St}(h:WR E B fl body Q m st):W E B fl (.loop body) st Q:=λro n w0 X a w ρ hro hr=>by
 refine wpIn_loop_rounds m ?_;have key:∀ (m:Nat) (st:St) (a1:Act) (w1:aj) (ρ1:Nat->Loc) (nJ:List Nat),WR E B fl body Q m st->Rel w0 X st a1 w1 ρ1->ju B w w1 (Ow X ρ) (Ow X ρ1) ρ ρ1->a1.defers=aA mb nJ++a.defers->(∀D∈nJ,w.heap.size<=D)->
   Code.roundsIn (fw ro) n E.P body (uP w0 X B a w ρ Q) m a1 w1:=by
  intro m
  induction m with
  |zero=>intro st a1 w1 ρ1 nJ h;exact h.elim
  |succ m ih=>
   intro st a1 w1 ρ1 nJ h fD lg MN Cr;rw[roundsIn_succ];refine wpIn_mono (h ro n w0 X a1 w1 ρ1 hro fD) ?_;rintro e a' w' ⟨e0,cz,ρ',Ds,rfl,h1,h2,h3,h4,h5⟩;have hc:a'.defers=aA mb (Ds++nJ)++a.defers:=by rw[h4,MN,List.map_append,List.append_assoc]
   have hD:∀ D∈Ds++nJ,w.heap.size<=D:=λD hm=>by
    rcases List.mem_append.1 hm with h|h
    .exact Nat.le_trans lg.size (h5 D h)
    exact Cr D h
   cases e0 with
   |normal=>
    obtain⟨nI,hwk,hw⟩:=h1;obtain⟨ρ2,jO,hl2⟩:=hwk _ _ _ _ _ h2;exact ih nI a' w' ρ2 (Ds++nJ) hw jO ((lg.trans h3).trans hl2) hc hD
   |exit id=>exact⟨.exit id,cz,ρ',Ds++nJ,rfl,h1,h2,lg.trans h3,hc,hD⟩
   |ret=>exact⟨.ret,cz,ρ',Ds++nJ,rfl,h1,h2,lg.trans h3,hc,hD⟩
 exact key m st a w ρ [] h hr (ju.refl _ _ _ _) rfl (by simp)
end
def NK{α:Type}:Int->(Int->α)->α
 | .ofNat m,k=>gd m λm=>k (.ofNat m)
 | .negSucc m,k=>gd m λm=>k (.negSucc m)
theorem aph{α:Type}(n:Int)(k:Int->α):NK n k=k n:=by cases n<;>simp only[NK,lI]
def G0{α:Type}:List UInt8->(List UInt8->α)->α
 |[],k=>k []
 |b::l,k=>gd b.toNat λn=>G0 l λl=>k (UInt8.ofNat n::l)
theorem Yl{α:Type}:∀ (l:List UInt8) (k:List UInt8->α),G0 l k=k l
 |[],k=>rfl
 |b::l,k=>by simp only[G0,lI,Yl l,UInt8.ofNat_toNat]
def G1{α:Type}:List Nat->(List Nat->α)->α
 |[],k=>k []
 |a::l,k=>gd a λa=>G1 l λl=>k (a::l)
theorem Ym{α:Type}:∀ (l:List Nat) (k:List Nat->α),G1 l k=k l
 |[],k=>rfl
 |a::l,k=>by simp only[G1,lI,Ym l]
def fQ(c:Nat)(l:List A):Nat->Nat->A:=λi j=>bT l (i*c+j)
def tN(el:Nat->A):Nat->Nat->List A
 |_,0=>[]
 |j,m+1=>el j::tN el (j+1) m
def jD(el:Nat->Nat->A)(c:Nat):Nat->Nat->List A
 |_,0=>[]
 |i,m+1=>tN (el i) 0 c++jD el c (i+1) m
theorem C0(el:Nat->A):∀ (m j:Nat),(tN el j m).length=m
 |0,j=>rfl
 |m+1,j=>by simp[tN,C0 el m]
theorem NL(el:Nat->A):∀ (m j k:Nat),k<m->bT (tN el j m) k=el (j+k)
 |0,j,k,h=>by omega
 |m+1,j,0,h=>by simp[tN,bT]
 |m+1,j,k+1,h=>by simp only[tN,bT];rw[NL el m (j+1) k (by omega),show j+1+k=j+(k+1) by omega]
theorem NM(el:Nat->Nat->A)(c:Nat):∀ (m i p q:Nat),p<m->q<c->bT (jD el c i m) (p*c+q)=el (i+p) q
 |0,i,p,q,h,_=>by omega
 |m+1,i,0,q,h,hq=>by
  simp only[jD];rw[wJ,C0,bS (by omega),NL _ _ _ _ (by omega)];simp
 |m+1,i,p+1,q,h,hq=>by
  simp only[jD];rw[wJ,C0,bQ (by have:c<=(p+1)*c:=Nat.le_mul_of_pos_left c (by omega);omega),show(p+1)*c+q-c=p*c+q by rw[aH];omega,NM el c m (i+1) p q (by omega) hq,show i+1+p=i+(p+1) by omega]
def kL:Nat->A->A
 |0,a=>a
 |d+1,a=>match a with
  | .sl c n el=>.sl c n (fQ c (eP (kL d) (jD el c 0 n)))
  | .ip c el=>.ip c (bT (eP (kL d) (tN el 0 c)))
  | .fn g l=>.fn g (eP (kL d) l)
  | .agg l=>.agg (eP (kL d) l)
  | .bv g l=>.bv g (eP (kL d) l)
  | .cG l=>.cG (eP (kL d) l)
  |a=>a
theorem G2(f:A->A):∀ (l:List A) (i:Nat),i<l.length->bT (eP f l) i=f (bT l i)
 |[],i,h=>by simp at h
 |a::l,0,h=>by simp[eP,bT]
 |a::l,i+1,h=>by simp only[eP,bT];exact G2 f l i (by simpa using h)
theorem NN(el:Nat->Nat->A)(c:Nat):∀ (m i:Nat),(jD el c i m).length=m*c
 |0,i=>by simp[jD]
 |m+1,i=>by simp only[jD,List.length_append,C0,NN el c m,aH];omega
theorem Ny{i n c j:Nat}(hi:i<n)(hj:j<c):i*c+j<n*c:=by
 have:(i+1)*c<=n*c:=aG c hi;rw[aH]at this;omega
section
variable {w:aj} {O:Nat->Prop}
theorem zt:∀ (d:Nat) (ρ:Nat->Loc),(∀(a:A) (v:ai),R w O a ρ v->R w O (kL d a) ρ v)/\(∀(l:List A) (vs:List ai),RL w O l ρ vs->RL w O (eP (kL d) l) ρ vs)
 |0,ρ=>⟨λa v h=>h,λl=>by
   induction l with
   |nil=>intro vs h;simpa only[eP,RL]using h
   |cons a l ih=>
    intro vs h;simp only[RL]at h;obtain⟨v,vs',rfl,h1,h2⟩:=h;simp only[eP,RL];exact⟨v,vs',rfl,h1,ih vs' h2⟩⟩
 |d+1,ρ=>by
  have ih2:=(zt d ρ).2;have Yn:=(zt d b7).1;have H:∀ (a:A) (v:ai),R w O a ρ v->R w O (kL (d+1) a) ρ v:=by
   intro a v hr;cases a with
   |sl c n el=>
    simp only[kL,R]at hr⊢;obtain⟨ad,cap,rfl,h1,h2,h3⟩:=hr;refine⟨ad,cap,rfl,h1,h2,λhp=>?_⟩;obtain⟨ad,rfl,hi,hc⟩:=h3 hp;refine⟨ad,rfl,hi,λi hin j hj=>?_⟩;obtain⟨u,hu,mF,ij⟩:=hc i hin j hj;refine⟨u,hu,mF,?_⟩;have:=Yn _ _ ij;simp only[fQ];rw[G2 _ _ _ (by rw[NN];exact Ny hin hj),NM _ _ _ _ _ _ hin hj,aD];exact this
   |ip c el=>
    simp only[kL,R]at hr⊢;obtain⟨ad,rfl,h3⟩:=hr;refine⟨ad,rfl,λhp=>?_⟩;obtain⟨hi,hc⟩:=h3 hp;refine⟨hi,λj hj=>?_⟩;obtain⟨u,hu,ij⟩:=hc j hj;refine⟨u,hu,?_⟩;have:=Yn _ _ ij;rw[G2 _ _ _ (by rw[C0];exact hj),NL _ _ _ _ hj,aD];exact this
   |fn g l=>
    simp only[kL,R]at hr⊢;obtain⟨vs,rfl,h⟩:=hr;exact⟨vs,rfl,ih2 l vs h⟩
   |agg l=>
    simp only[kL,R]at hr⊢;obtain⟨vs,rfl,h⟩:=hr;exact⟨vs,rfl,ih2 l vs h⟩
   |bv g l=>
    simp only[kL,R]at hr⊢;obtain⟨vs,rfl,h⟩:=hr;exact⟨vs,rfl,ih2 l vs h⟩
   |cG l=>
    simp only[kL,R]at hr⊢;obtain⟨vs,rfl,h⟩:=hr;exact⟨vs,rfl,ih2 l vs h⟩
   |_=>exact hr
  refine⟨H,λl=>?_⟩
  induction l with
  |nil=>intro vs h;simpa only[eP,RL]using h
  |cons a l ih=>
   intro vs h;simp only[RL]at h;obtain⟨v,vs',rfl,h1,h2⟩:=h;simp only[eP,RL];exact⟨v,vs',rfl,H a v h1,ih vs' h2⟩
end
def o7{α:Type}(f:A->(A->α)->α):List A->(List A->α)->α
 |[],k=>k []
 |a::l,k=>f a λa=>o7 f l λl=>k (a::l)
def p6{α:Type}:Nat->A->(A->α)->α
 |0,a,k=>k a
 |d+1,a,k=>match a with
  | .int q n=>NK n λn=>k (.int q n)
  | .str s=>G0 s.data.toList λl=>k (.str ⟨⟨l⟩⟩)
  | .bool true=>k (.bool true)
  | .bool false=>k (.bool false)
  | .kb true=>k (.kb true)
  | .kb false=>k (.kb false)
  | .sl c n el=>gd c λc=>gd n λn=>o7 (p6 d) (jD el c 0 n) λl=>k (.sl c n (fQ c l))
  | .ip c el=>gd c λc=>o7 (p6 d) (tN el 0 c) λl=>k (.ip c (bT l))
  | .fn g l=>gd g λg=>o7 (p6 d) l λl=>k (.fn g l)
  | .agg l=>o7 (p6 d) l λl=>k (.agg l)
  | .bv g l=>gd g λg=>o7 (p6 d) l λl=>k (.bv g l)
  | .cG l=>o7 (p6 d) l λl=>k (.cG l)
  | .own j=>gd j λj=>k (.own j)
  | .ptr j o=>gd j λj=>gd o λo=>k (.ptr j o)
  | .rp j c i o=>gd j λj=>gd c λc=>gd i λi=>gd o λo=>k (.rp j c i o)
  | .ov j c lo n=>gd j λj=>gd c λc=>gd lo λlo=>gd n λn=>k (.ov j c lo n)
  | .rv j n=>gd j λj=>gd n λn=>k (.rv j n)
  | .dA j=>gd j λj=>k (.dA j)
  |a=>k a
theorem G3{α:Type}{f:A->(A->α)->α}{g:A->A}(hf:∀ a k,f a k=k (g a)):∀ (l:List A) (k:List A->α),o7 f l k=k (eP g l)
 |[],k=>rfl
 |a::l,k=>by simp only[o7,hf,G3 hf l,eP]
theorem NO{α:Type}:∀ (d:Nat) (a:A) (k:A->α),p6 d a k=k (kL d a)
 |0,a,k=>rfl
 |d+1,a,k=>by
  have ih:=G3 (NO (α:=α) d);cases a<;>simp only[p6,kL,lI,aph,Yl,ih]<;>first|rfl|(rename_i b;cases b<;>rfl)
def C1:Ob->Ob
 | .box cs=>.box (eP (kL 6) cs)
 | .row e c n el=>.row e c n (fQ c (eP (kL 6) (jD el c 0 n)))
 | .lp ts ps a b y p=>.lp (eP (kL 6) ts) ps a b y p
 |o=>o
theorem apj{w:aj}{O:Nat->Prop}{ρ:Nat->Loc}{o:Ob}{l:Loc}(h:fR w O ρ o l):fR w O ρ (C1 o) l:=by
 cases o with
 |de=>exact h
 |dead=>exact h
 |box cs=>
  obtain⟨b,vs,t,h1,h2,h3⟩:=h;exact⟨b,vs,t,h1,h2,(zt 6 ρ).2 _ _ h3⟩
 |row e c m el=>
  obtain⟨v,xs,h1,h2,h3,h4⟩:=h;refine⟨v,xs,h1,h2,h3,λi hi j hj=>?_⟩;obtain⟨u,hu,hr⟩:=h4 i hi j hj;refine⟨u,hu,?_⟩;simp only[fQ];rw[G2 _ _ _ (by rw[NN];exact Ny hi hj),NM _ _ _ _ _ _ hi hj,aD];exact(zt 6 b7).1 _ _ hr
 |lp ts ps gQ gL gZ iK=>
  obtain⟨b,r,vs,h1,h2,h3,h4,h5⟩:=h;exact⟨b,r,vs,h1,h2,h3,(zt 6 ρ).2 _ _ h4,h5⟩
 |mp t ag n cl u hh v=>exact h
 |rr te e c n len el hole=>exact h
 |it t ag n hh v seen=>exact h
def uV(f:Ob->Ob):List Ob->List Ob
 |[]=>[]
 |o::l=>f o::uV f l
theorem Yo(f:Ob->Ob)(hf:f .de= .de):∀ (l:List Ob) (i:Nat),bZ (uV f l) i=f (bZ l i)
 |[],i=>by simp[uV,bZ,hf]
 |a::l,0=>by simp[uV,bZ]
 |a::l,i+1=>by simp[uV,bZ,Yo f hf l i]
def C2(st:St):St:=⟨eP (kL 6) st.tmps,uV C1 st.bR⟩
theorem apk{B:Nat}(st:St):eo B st (C2 st):=λw0 X a w ρ h=>
 ⟨ρ,⟨by simp[C2,NI,h.len],λi=>by
  simp only[C2];rw[NJ _ rfl];exact(zt 6 ρ).1 _ _ (h.tmp i),λi=>by
  simp only[C2];rw[Yo _ rfl];exact apj (h.obj i),h.dJ,h.kept,h.new,h.fu,h.jM⟩,ju.refl _ _ _ _⟩
def NP{α:Type}(o:Ob)(k:Ob->α):α:=
 match o with
 | .box cs=>o7 (p6 6) cs λcs=>k (.box cs)
 | .row e c n el=>gd c λc=>gd n λn=>o7 (p6 6) (jD el c 0 n) λl=>k (.row e c n (fQ c l))
 | .lp ts ps a b y p=>o7 (p6 6) ts λts=>k (.lp ts ps a b y p)
 | .de=>k .de
 | .dead=>k .dead
 |o=>k o
theorem apl{α:Type}(o:Ob)(k:Ob->α):NP o k=k (C1 o):=by
 have ih:=G3 (NO (α:=α) 6);cases o<;>simp only[NP,C1,lI,ih]
def G4{α:Type}:List Ob->(List Ob->α)->α
 |[],k=>k []
 |o::l,k=>NP o λo=>G4 l λl=>k (o::l)
theorem Yp{α:Type}:∀ (l:List Ob) (k:List Ob->α),G4 l k=k (uV C1 l)
 |[],k=>rfl
 |o::l,k=>by simp only[G4,apl,Yp l,uV]
def NQ{α:Type}(st:St)(k:St->α):α:=o7 (p6 6) st.tmps λts=>G4 st.bR λos=>k ⟨ts,os⟩
theorem apm{α:Type}(st:St)(k:St->α):NQ st k=k (C2 st):=by
 unfold NQ;rw[G3 (NO 6),Yp];rfl
def uW(B j:Nat)(acc:List Nat):List Nat:=bif aI B j then(bif mK acc j then acc else j::acc)else acc
def uX(f:A->List Nat->List Nat):List A->List Nat->List Nat
 |[],acc=>acc
 |a::l,acc=>uX f l (f a acc)
def uY(B:Nat):Nat->A->List Nat->List Nat
 |0,_,acc=>acc
 |d+1,a,acc=>match a with
  | .own j=>uW B j acc
  | .ptr j _=>uW B j acc
  | .rp j _ _ _=>uW B j acc
  | .dA j=>uW B j acc
  | .ov j _ _ _=>uW B j acc
  | .rv j _=>uW B j acc
  | .ap j _=>uW B j acc
  | .bm _ j _=>uW B j acc
  | .fn _ l=>uX (uY B d) l acc
  | .agg l=>uX (uY B d) l acc
  | .bv g l=>uX (uY B d) l acc
  | .cG l=>uX (uY B d) l acc
  |_=>acc
def NR(B:Nat):List (List Int×Option A)->List Nat->List Nat
 |[],acc=>acc
 |(_,some a)::u,acc=>NR B u (uY B 6 a acc)
 |(_,none)::u,acc=>NR B u acc
def Yq(B:Nat):Ob->List Nat->List Nat
 | .box cs,acc=>uX (uY B 6) cs acc
 | .lp ts _ _ _ _ _,acc=>uX (uY B 6) ts acc
 | .mp _ _ _ false u _ _,acc=>NR B u acc
 |_,acc=>acc
def Yr(B:Nat):Nat->List Ob->List Nat->List Nat
 |0,_,acc=>acc
 |_+1,[],acc=>acc
 |n+1,o::l,acc=>Yr B n l (Yq B o acc)
def NT(B:Nat)(bR:List Ob):Nat->List Nat->List Nat->List Nat
 |0,_,done=>done
 |_+1,[],done=>done
 |n+1,j::todo,done=>bif mK done j then NT B bR n todo done else NT B bR n (Yq B (bZ bR j) todo) (j::done)
def NU(B:Nat)(st:St):List Nat:=NT B st.bR 100000 (Yr B B st.bR (uX (uY B 6) st.tmps [])) []
def G5(fr:Fr)(st:St)(k:St->Bool):Bool:=
 G1 (NU fr.base st) λL=>bif aI fr.base fr.top&&(zq fr.base L&&zr L)then NQ (CZ fr.base fr.top L st) k else false
theorem Ys{fr:Fr}{st:St}{k:St->Bool}(h:G5 fr st k=true):∃ cz,eo fr.base st cz/\k cz=true:=by
 unfold G5 at h;rw[Ym]at h;cases hb:aI fr.base fr.top&&(zq fr.base (NU fr.base st)&&zr (NU fr.base st))with
 |false=>rw[hb]at h;cases h
 |true=>
  rw[hb,cond_true,apm]at h;simp only[aa]at hb;exact⟨_,(apg hb.1 hb.2.1 hb.2.2).trans (apk _),h⟩
structure Ct where
 f:ak
 args:List A
 res:A
 /-- a new row of the KR own,which the result names as object 0 -/
 ob:Option Ob:=none
 /-- all memory that the result names is new -/
 fr:Bool:=false
def jI(P:ae)(c:Ct):Prop:=uJ P c.f c.args (c.res,c.ob) c.fr
theorem uJ.le{P:ae}{f:ak}{args args':List A}{r:A×Option Ob}{fh:Bool}(h:uJ P f args' r fh)(hle:db args args'):uJ P f args r fh:=by
 cases fh with
 |false=>exact cJ.le h hle
 |true=>exact⟨⟨h.1.lh,λw X vs hX hr=>h.1.run w X vs hX (hle _ _ _ _ hr)⟩,h.2⟩
def C3{α:Type}(f:A->A->Bool)(el el':α->A):List α->Bool
 |[]=>true
 |i::l=>f (el i) (el' i)&&C3 f el el' l
def pd:Nat->Nat->List Nat
 |_,0=>[]
 |i,m+1=>i::pd (i+1) m
def lj(f:A->A->Bool):List A->List A->Bool
 |[],[]=>true
 |a::l,b::m=>f a b&&lj f l m
 |_,_=>false
def uZ(f:A->A->Bool)(el el':Nat->Nat->A)(c:Nat):List Nat->Bool
 |[]=>true
 |i::l=>C3 f (el i) (el' i) (pd 0 c)&&uZ f el el' c l
def iN:Nat->A->A->Bool
 |0,_,_=>false
 |d+1,a,b=>match a,b with
  |_,.dU=>true
  | .lM,.lM=>true
  | .kb x,.kb y=>x==y
  | .kb x,.bool y=>x==y
  | .bool x,.kb y=>x==y
  | .bool x,.bool y=>x==y
  | .int k n,.int k' n'=>if k=k' then n==n' else false
  | .str s,.str s'=>s.data.toList==s'.data.toList
  | .bN,.bN=>true
  | .bN,.sl _ n _=>aC n 0
  | .sl c n el,.sl c' n' el'=>aC c c'&&(aC n n'&&uZ (iN d) el el' c (pd 0 n))
  | .ip c el,.ip c' el'=>aC c c'&&C3 (iN d) el el' (pd 0 c)
  | .fn f l,.fn f' l'=>aC f f'&&lj (iN d) l l'
  | .agg l,.agg l'=>lj (iN d) l l'
  | .cG l,.cG l'=>lj (iN d) l l'
  | .kh,.kh=>true
  | .own i,.own j=>aC i j
  | .dA i,.dA j=>aC i j
  | .ptr i o,.ptr j p=>aC i j&&aC o p
  |_,_=>false
theorem u6:∀ (m i k:Nat),k<m->i+k∈pd i m
 |0,i,k,h=>by omega
 |m+1,i,0,h=>by simp[pd]
 |m+1,i,k+1,h=>by
  simp only[pd,av];have:=u6 m (i+1) k (by omega);rw[show i+1+k=i+(k+1) by omega]at this;exact .inr this
theorem NV{α:Type}{f:A->A->Bool}{el el':α->A}:∀ {l:List α},C3 f el el' l=true-> ∀i∈l,f (el i) (el' i)=true
 |[],_,i,hi=>by cases hi
 |a::l,h,i,hi=>by
  simp only[C3,aa]at h;rcases av.1 hi with rfl|hi
  .exact h.1
  exact NV h.2 i hi
theorem zu{f:A->A->Bool}{el el':Nat->Nat->A}{c:Nat}:∀ {l:List Nat},uZ f el el' c l=true-> ∀i∈l,∀ j,j<c->f (el i j) (el' i j)=true
 |[],_,i,hi=>by cases hi
 |a::l,h,i,hi=>by
  simp only[uZ,aa]at h;rcases av.1 hi with rfl|hi
  .intro j hj;have:=u6 c 0 j hj;rw[aD]at this;exact NV h.1 j this
  exact zu h.2 i hi
theorem pc{f:A->A->Bool}(hf:∀ a b,f a b=true->bY a b):∀ {l m:List A},lj f l m=true->db l m
 |[],[],_=>db.nil
 |a::l,b::m,h=>by
  simp only[lj,aa]at h;exact db.cons (hf _ _ h.1) (pc hf h.2)
 |[],_::_,h=>by cases h
 |_::_,[],h=>by cases h
theorem bY.G6{x y:Bool}(h:(x==y)=true){a b:A}(ha:a= .kb x\/a= .bool x)(hb:b= .kb y\/b= .bool y):bY a b:=λw O ρ v hr=>by
 have:=ie h;subst this;rcases ha with rfl|rfl<;>rcases hb with rfl|rfl<;>simpa only[R]using hr
theorem ll:∀ (d:Nat) (a b:A),iN d a b=true->bY a b
 |0,a,b,h=>by cases h
 |d+1,a,b,h=>by
  have ih:=ll d;simp only[iN]at h;split at h
  .exact bY.dU _
  .exact bY.refl _
  .exact bY.G6 h (.inl rfl) (.inl rfl)
  .exact bY.G6 h (.inl rfl) (.inr rfl)
  .exact bY.G6 h (.inr rfl) (.inl rfl)
  .exact bY.G6 h (.inr rfl) (.inr rfl)
  .split at h
   .rename_i hk;subst hk;exact bY.of (by rw[ie h])
   cases h
  .rename_i s s';refine bY.of ?_;have:=ie h;obtain⟨⟨l⟩⟩:=s;obtain⟨⟨l'⟩⟩:=s';simp only at this;rw[this]
  .exact bY.refl _
  .exact bY.CB (aB h)
  .rename_i c n el c' n' el';simp only[aa]at h;have h1:=aB h.1;have h2:=aB h.2.1;subst h1;subst h2;intro w O ρ v hr;simp only[R]at hr⊢;obtain⟨ad,cap,rfl,h3,h4,h5⟩:=hr;refine⟨ad,cap,rfl,h3,h4,λhp=>?_⟩;obtain⟨ad,rfl,hi,hc⟩:=h5 hp;refine⟨ad,rfl,hi,λi hin j hj=>?_⟩;obtain⟨u,hu,mF,ij⟩:=hc i hin j hj;have hm:=u6 n 0 i hin;rw[aD]at hm;exact⟨u,hu,mF,ih _ _ (zu h.2.2 i hm j hj) _ _ _ _ ij⟩
  .rename_i c el c' el';simp only[aa]at h;have h1:=aB h.1;subst h1;intro w O ρ v hr;simp only[R]at hr⊢;obtain⟨ad,rfl,h5⟩:=hr;refine⟨ad,rfl,λhp=>?_⟩;obtain⟨hi,hc⟩:=h5 hp;refine⟨hi,λj hj=>?_⟩;obtain⟨u,hu,ij⟩:=hc j hj;have hm:=u6 c 0 j hj;rw[aD]at hm;exact⟨u,hu,ih _ _ (NV h.2 j hm) _ _ _ _ ij⟩
  .rename_i f l f' l';simp only[aa]at h;have h1:=aB h.1;subst h1;have:=pc ih h.2;intro w O ρ v hr;simp only[R]at hr⊢;obtain⟨vs,rfl,h2⟩:=hr;exact⟨vs,rfl,this _ _ _ _ h2⟩
  .exact bY.agg (pc ih h)
  .exact bY.cG (pc ih h)
  .exact bY.refl _
  .exact bY.of (by rw[aB h])
  .exact bY.of (by rw[aB h])
  .simp only[aa]at h;exact bY.of (by rw[aB h.1,aB h.2])
  cases h
def G7(f:ak)(vals:List A)(k:A×Option Ob->Bool->Bool):List Ct->Bool
 |[]=>false
 |c::cs=>bif aC c.f f&&lj (iN 8) vals c.args then k (c.res,c.ob) c.fr else G7 f vals k cs
theorem Yt{P:ae}{f:ak}{vals:List A}{k:A×Option Ob->Bool->Bool}:∀ {cs:List Ct},(∀c∈cs,jI P c)->G7 f vals k cs=true-> ∃r fh,uJ P f vals r fh/\k r fh=true
 |[],_,h=>by cases h
 |c::cs,hc,h=>by
  simp only[G7]at h;cases hb:aC c.f f&&lj (iN 8) vals c.args with
  |true=>
   rw[hb]at h;simp only[aa]at hb;have h1:=aB hb.1;subst h1;exact⟨(c.res,c.ob),c.fr,uJ.le (hc c List.mem_cons_self) (pc (ll 8) hb.2),h⟩
  |false=>
   rw[hb]at h;exact Yt (λc hm=>hc c (List.mem_cons_of_mem _ hm)) h
def G8(F:(Ex->St->Bool)->OT->List It->Fr->Bool)(K:Ex->St->Bool)(body:af)(fr:Fr):Nat->St->Bool
 |0,_=>false
 |m+1,st=>G5 fr st λst=>F (λe st=>match e with
  | .normal=>G8 F K body fr m st
  | .exit i=>K (.exit i) st
  | .ret=>K .ret st) (.more [] st) [.code body] fr
def auto(C:Cx)(cs:List Ct):Nat->(Ex->St->Bool)->OT->List It->Fr->Bool
 |0,_,_,_,_=>false
 |n+1,K,t,s,fr=>match nx C t s fr with
  | .done e st=>K e st
  | .ite b t s t' s' fr=>(match b with
   |true=>auto C cs n K t s fr
   |false=>auto C cs n K t' s' fr)
  | .both t s t' s' fr=>auto C cs n K t s fr&&auto C cs n K t' s' fr
  | .iY b t s fr=>(match b with
   |true=>auto C cs n K t s fr
   |false=>false)
  | .call g vals cl kn st dst s fr=>G7 g vals (λr fh=>auto C cs n K (resume fr.base kn st dst (cl||fh) r) s fr) cs
  | .loop body st s fr=>G8 (auto C cs n) (λe st=>match leave C.E.P e st s fr with
    | .go t s fr=>auto C cs n K t s fr
    | .out e st=>K e st
    | .bad=>false) body fr n st
  |_=>false
theorem Yu{C:Cx}{F:(Ex->St->Bool)->OT->List It->Fr->Bool}(hF:∀ (K:Ex->St->Bool) (Q:Ex->St->Prop) t s fr,F K t s fr=true->(∀e st,K e st=true->Q e st)->eH C.E Q t s fr){K:Ex->St->Bool}{body:af}{fr:Fr}{Q:Ex->St->Prop}
  (hK:∀ e st,e.goes=false->K e st=true->Q e st):∀ (m:Nat) (st:St),G8 F K body fr m st=true-> ∃cz,eo fr.base st cz/\WR C.E fr.base fr.fl body Q m cz
 |0,st,h=>by cases h
 |m+1,st,h=>by
  simp only[G8]at h;obtain⟨cz,hw,hk⟩:=Ys h;refine⟨cz,hw,?_⟩;have:=eH.hZ.1 (hF _ (λe cz=>match e with
   | .normal=>∃ nI,eo fr.base cz nI/\WR C.E fr.base fr.fl body Q m nI
   | .exit i=>Q (.exit i) cz
   | .ret=>Q .ret cz) _ _ _ hk (λe st hq=>by
    cases e with
    |normal=>exact Yu hF hK m st hq
    |exit i=>exact hK _ _ rfl hq
    |ret=>exact hK _ _ rfl hq))
  simp only[Den]at this;exact this.mono λe s h=>by cases e<;>exact h
theorem G9{C:Cx}{cs:List Ct}(hcs:∀ c∈cs,jI C.E.P c):∀ (n:Nat) (K:Ex->St->Bool) (Q:Ex->St->Prop) (t:OT) (s:List It) (fr:Fr),auto C cs n K t s fr=true->(∀e st,K e st=true->Q e st)->eH C.E Q t s fr
 |0,K,Q,t,s,fr,h,_=>by cases h
 |n+1,K,Q,t,s,fr,h,hq=>by
  have ih:=G9 hcs n;simp only[auto]at h;refine kJ (inl:=C.inl) C.ok 100000 t s fr ?_;change w5 C.E Q (nx C t s fr);generalize nx C t s fr=nd at h⊢;cases nd with
  |done e1 st1=>exact hq _ _ h
  |ite b t1 s1 t2 s2 zw=>
   cases b with
   |true=>exact⟨λ_=>ih _ _ _ _ _ h hq,λhb=>ab hb⟩
   |false=>exact⟨λhb=>ab hb,λ_=>ih _ _ _ _ _ h hq⟩
  |both t1 s1 t2 s2 zw=>
   simp only[aa]at h;exact⟨ih _ _ _ _ _ h.1 hq,ih _ _ _ _ _ h.2 hq⟩
  |iY b t1 s1 zw=>
   cases b with
   |true=>exact⟨rfl,ih _ _ _ _ _ h hq⟩
   |false=>cases h
  |call g vals cl kn st1 dst s1 zw=>
   obtain⟨r,fh,h1,h2⟩:=Yt hcs h;exact⟨r,fh,h1,ih _ _ _ _ _ h2 hq⟩
  |loop body st1 s1 zw=>
   obtain⟨cz,hw,hwr⟩:=Yu (C:=C) (F:=auto C cs n) (Q:=λe cz=>Den C.E Q s1 zw e cz []) ih (λe st hg hk=>by
    refine pW s1 e st zw [] (.inl hg) ?_;split at hk
    .rename_i t3 s3 Nu hl;rw[hl];exact ih _ _ _ _ _ hk hq
    .rename_i e3 st3 hl;rw[hl];exact hq _ _ hk
    cases hk) n st1 h
   exact W.gv hw (W.rounds hwr)
  |_=>cases h
def NW(f:A->Option Nat):List A->Option Nat
 |[]=>none
 |a::l=>match f a with|some i=>some i|none=>NW f l
def NX:Nat->A->Option Nat
 |0,_=>none
 |d+1,a=>match a with
  | .own i=>some i
  | .dA i=>some i
  | .agg l=>NW (NX d) l
  | .cG l=>NW (NX d) l
  |_=>none
def NY:A->A->Bool
 | .int k n,.int k' n'=>if k=k' then n==n' else false
 | .bool x,.bool y=>x==y
 | .kb x,.kb y=>x==y
 | .str s,.str s'=>s.data.toList==s'.data.toList
 | .bN,.bN=>true
 |_,_=>false
def NZ:Ob->Ob->Bool
 | .row e c n el,.row e' c' n' el'=>aC e e'&&(aC c c'&&(aC n n'&&(uZ NY el el' c (pd 0 n)&&uZ (λ_ b=>flat 3 b) el el' c (pd 0 n))))
 |_,_=>false
def N0:Ob->Bool
 | .row _ c n el=>uZ (λa _=>flat 3 a) el el c (pd 0 n)
 |_=>false
def oF(bR:List Ob):Nat->A->Bool
 |0,_=>false
 |d+1,a=>match a with
  | .own i=>N0 (bZ bR i)
  | .agg l=>gC (oF bR d) l
  | .cG l=>gC (oF bR d) l
  | .kb _| .bool _| .int _ _| .str _| .bN| .kh=>true
  |_=>false
def qk(P:ae)(res:List al)(r:A)(ob:Option Ob)(fh:Bool)(e:Ex)(st:St):Bool:=
 match e.r8,jr P st res with
 |true,some l=>(match ob with
  |none=>(match eX st.bR 6 (kk l)with
   |some a=>iN 8 (mJ 6 a) r&&(!fh||oF st.bR 6 (kk l))
   |none=>false)
  |some o=>!fh&&(match NX 4 (kk l)with
   |some id=>NZ (bZ st.bR id) o&&iN 8 (mJ 6 (eU id 0 6 (kk l))) r
   |none=>(match kk l,r,o with
    | .bN,.own 0,.row _ _ 0 _=>true
    |_,_,_=>false)))
 |_,_=>false
def zJ(C:Cx)(cs:List Ct)(n:Nat)(c:Ct):Bool:=
 bif c.fr&&c.ob.isSome then false else match jw C.E.P c.f,C.E.P.funcs[c.f]? with
 |true,some fn=>(match fn.body with
  |some b=>auto C cs n (qk C.E.P fn.results.toList c.res c.ob c.fr) (nk (jZ fn.ntmps c.args []) λst=>.more [] st) [.code b] ⟨0,fn.ntmps,false⟩
  |none=>false)
 |_,_=>false
theorem apn{a b:A}(h:NY a b=true):a=b:=by
 unfold NY at h;split at h
 .split at h
  .rename_i hk;subst hk;rw[ie h]
  cases h
 .rw[ie h]
 .rw[ie h]
 .rename_i s s';obtain⟨⟨l⟩⟩:=s;obtain⟨⟨l'⟩⟩:=s';have:=ie h;simp only at this;rw[this]
 .rfl
 cases h
theorem apo{a b:Ob}(h:NZ a b=true):Na a b/\M7 b:=by
 unfold NZ at h;split at h
 .rename_i e c n el e' c' n' el';simp only[aa]at h;obtain⟨h1,h2,h3,h4,h5⟩:=h;have h1:=aB h1;have h2:=aB h2;have h3:=aB h3;subst h1 h2 h3;refine⟨⟨rfl,rfl,rfl,λi hi j hj=>?_⟩,λi hi j hj=>?_⟩
  .have hm:=u6 n 0 i hi;rw[aD]at hm;exact apn (zu h4 i hm j hj)
  have hm:=u6 n 0 i hi;rw[aD]at hm;exact zu h5 i hm j hj
 cases h
def xn(P:ae):List Ct->Prop
 |[]=>True
 |c::cs=>jI P c/\xn P cs
theorem Ha{P:ae}:∀ {cs:List Ct},xn P cs-> ∀c∈cs,jI P c
 |[],_,c,hc=>by cases hc
 |a::cs,h,c,hc=>by
  rcases av.1 hc with rfl|hc
  .exact h.1
  exact Ha h.2 c hc
section
variable {w:aj} {O O':Nat->Prop} {ρ:Nat->Loc} {bR:List Ob}
theorem apq{ob:Ob}(h:N0 ob=true):∃ e c n el,ob= .row e c n el/\ ∀i,i<n-> ∀j,j<c->flat 3 (el i j)=true:=by
 unfold N0 at h;split at h
 .rename_i e c n el;refine⟨e,c,n,el,rfl,λi hi j hj=>?_⟩;have hm:=u6 n 0 i hi;rw[aD]at hm;exact zu h i hm j hj
 cases h
theorem Yv(cy:∀ id,fR w O ρ (bZ bR id) (ρ id))(hfree:∀ id b,(ρ id).has b->b<w.heap.size/\ ¬O' b):∀ (d m:Nat),
  (∀(x a:A) (v:ai),R w O x ρ v->oF bR d x=true->eX bR m x=some a->R w O' a b7 v)/\(∀(l l':List A) (vs:List ai),RL w O l ρ vs->gC (oF bR d) l=true->kW (eX bR m) l=some l'->RL w O' l' b7 vs)
 |0,m=>by
  refine⟨λx a v _ h=>?_,λl l' vs hr h hm=>?_⟩
  .simp[oF]at h
  cases l with
  |nil=>simp[kW]at hm;subst hm;simpa only[RL]using hr
  |cons x l=>simp[gC,oF]at h
 |d+1,m=>by
  have H:∀ (x a:A) (v:ai),R w O x ρ v->oF bR (d+1) x=true->eX bR m x=some a->R w O' a b7 v:=by
   intro x a v hr hf he;cases m with
   |zero=>simp[eX]at he
   |succ m=>
    obtain⟨_,ih2⟩:=Yv cy hfree d m;cases x with
    |own id=>
     simp only[oF]at hf;obtain⟨e,c,n,el,hg,gx⟩:=apq hf;simp only[eX,hg,aN]at he;subst he;have ho:=cy id;rw[hg]at ho;obtain⟨rv,xs,hρ,hown,hxs,hel⟩:=ho;simp only[R,hρ]at hr⊢;obtain⟨rfl,_⟩:=hr;rcases aJ n with hn|hn
     .subst hn;rcases hown.2 with ⟨_,s,rfl⟩|⟨g,o,cap,cur,rfl,_,h1,h2,_⟩
      .exact⟨_,_,rfl,aF _,aK _,λh=>by simp at h⟩
      exact⟨_,_,rfl,h1,h2,λh=>by simp at h⟩
     obtain⟨g,o,cap,rfl,h1,h2,hcell⟩:=qI hown hn;refine⟨_,_,rfl,h1,h2,λhp=>⟨_,rfl,hfree id g (by rw[hρ];rfl),λi hi j hj=>?_⟩⟩;obtain⟨u,hu,ij⟩:=hel i hi j hj;exact⟨u,hcell _ _ hu,hxs u (au hu),(tr 3).1 _ _ (gx i hi j hj) ij⟩
    |agg l=>
     simp only[oF]at hf;simp only[eX]at he;split at he
     .rename_i l' eB;simp only[aN]at he;subst he;simp only[R]at hr⊢;obtain⟨vs,rfl,h⟩:=hr;exact⟨vs,rfl,ih2 l l' vs h hf eB⟩
     cases he
    |cG l=>
     simp only[oF]at hf;simp only[eX]at he;split at he
     .rename_i l' eB;simp only[aN]at he;subst he;simp only[R]at hr⊢;obtain⟨vs,rfl,h⟩:=hr;exact⟨vs,rfl,ih2 l l' vs h hf eB⟩
     cases he
    |kb b=>simp only[eX,aN]at he;subst he;simpa only[R]using hr
    |bool b=>simp only[eX,aN]at he;subst he;simpa only[R]using hr
    |int k n=>simp only[eX,aN]at he;subst he;simpa only[R]using hr
    |str b=>simp only[eX,aN]at he;subst he;simpa only[R]using hr
    |bN=>simp only[eX,aN]at he;subst he;simpa only[R]using hr
    |kh=>simp only[eX,aN]at he;subst he;simpa only[R]using hr
    |_=>simp[oF]at hf
  refine⟨H,λl=>?_⟩
  induction l with
  |nil=>intro l' vs hr _ hm;simp[kW]at hm;subst hm;simpa only[RL]using hr
  |cons x l ih=>
   intro l' vs hr hf hm;simp only[gC,aa]at hf;simp only[kW]at hm;split at hm
   .rename_i y ys hy hys;simp at hm;subst hm;simp only[RL]at hr⊢;obtain⟨v,vs',rfl,h1,h2⟩:=hr;exact⟨v,vs',rfl,H x y v h1 hf.1 hy,ih ys vs' h2 hf.2 hys⟩
   cases hm
end
theorem apr{E:Env}{f:ak}{fn:Func}{c:af}{args:List A}{r:A}(hent:jw E.P f=true)(hf:E.P.funcs[f]? =some fn)(hb:fn.body=some c)
  (h:W E 0 false c (jZ fn.ntmps args []) λe s=>e.out/\ ∃l,jr E.P s fn.results.toList=some l/\oF s.bR 6 (kk l)=true/\ ∃a,eX s.bR 6 (kk l)=some a/\bY (mJ 6 a) r):Wb E.P f args r:=by
 refine⟨hent,λw X vs hX hargs=>?_⟩;have hno:∀ b,¬ owned b7 b:=by rintro b ⟨id,cn⟩;cases cn
 have hp:Hp w (λ_=>False) [] w b7:=⟨λid=>rfl,(λi j b hi=>by cases hi),fP.refl _ _,λb hb=>(hno b hb).elim,λb h=>h.elim⟩;have Nb:RL w (Ow (λ_=>False) b7) args b7 vs:=RL.later _ b7 b7 _ ⟨aF _,λ_ _ _=>rfl,λb _ ho=>by
  rcases ho with ho|ho
  .exact ho
  exact(hno b ho).elim,λ_=>.inl rfl⟩ hargs
 refine(wQ (Q:=λx bR=>oF bR 6 x=true/\ ∃a,eX bR 6 x=some a/\bY (mJ 6 a) r) hp Nb hf hb (λ_ _=>rfl) h).mono ?_;rintro e w' ⟨v,x,objs',ρ',rfl,⟨iu,a,hex,hle⟩,gR,hp',hl⟩;refine⟨v,rfl,hp'.kept,hle _ _ _ _ ((Cz 6).1 _ _ ?_)⟩;refine(Yv hp'.obj (λid b hb=>⟨(hp'.new b ⟨id,hb⟩).2,λhx=>?_⟩) 6 6).1 x a v gR iu hex;have h1:=hX b hx;have h2:=(hp'.new b ⟨id,hb⟩).1;omega
theorem Yw{E:Env}{c:Ct}{fn:Func}{b:af}(oE:(c.fr&&c.ob.isSome)=false)(hent:jw E.P c.f=true)(hf:E.P.funcs[c.f]? =some fn)(hb:fn.body=some b)
  (h:W E 0 false b (jZ fn.ntmps c.args []) λe s=>qk E.P fn.results.toList c.res c.ob c.fr e s=true):jI E.P c:=by
 have hw:∀ Q:Ex->St->Prop,(∀e st,qk E.P fn.results.toList c.res c.ob c.fr e st=true->Q e st)->W E 0 false b (jZ fn.ntmps c.args []) Q:=λQ hq=>h.mono hq;unfold jI;cases iu:c.fr with
 |true=>
  have cy:c.ob=none:=by
   rw[iu,Bool.true_and]at oE;cases cy:c.ob with
   |none=>rfl
   |some o=>rw[cy]at oE;cases oE
  refine⟨apr hent hf hb (hw _ λe st hk=>?_),cy⟩;unfold qk at hk;split at hk
  .rename_i l ho hl;rw[cy]at hk;simp only at hk;split at hk
   .rename_i a hx;rw[iu]at hk;simp only[Bool.not_true,Bool.false_or,aa]at hk;exact⟨tJ ho,l,hl,hk.2,a,hx,ll 8 _ _ hk.1⟩
   cases hk
  cases hk
 |false=>
  refine Xs hent hf hb (hw _ λe st hk=>?_);unfold qk at hk;split at hk
  .rename_i l ho hl;refine⟨tJ ho,l,hl,?_⟩;unfold CC;cases cy:c.ob with
   |none=>
    rw[cy]at hk;simp only at hk⊢;split at hk
    .rename_i a hx;simp only[aa]at hk;exact⟨a,hx,ll 8 _ _ hk.1⟩
    cases hk
   |some o=>
    rw[cy]at hk;simp only[aa]at hk⊢;have hk:=hk.2;split at hk
    .rename_i id cn;simp only[aa]at hk;have h1:=apo hk.1;exact .inl ⟨id,h1.1,ll 8 _ _ hk.2,h1.2⟩
    split at hk
    .rename_i hx hr _ _;exact .inr (.inl ⟨by assumption,by assumption,_,_,_,rfl⟩)
    cases hk
  cases hk
theorem ZX(C:Cx)(n:Nat)(cs:List Ct){P:ae}{c:Ct}(hcs:xn P cs)(hP:C.E.P=P)(h:zJ C cs n c=true):jI P c:=by
 subst hP;unfold zJ at h;cases oE:c.fr&&c.ob.isSome with
 |true=>rw[oE]at h;cases h
 |false=>
 rw[oE,cond_false]at h;split at h
 .rename_i fn hent hf;split at h
  .rename_i b hb;refine Yw oE hent hf hb ?_;have:=G9 (Ha hcs) n _ (λe s=>qk C.E.P fn.results.toList c.res c.ob c.fr e s=true) _ _ _ h λe s hk=>hk;rw[pX]at this;have:=eH.hZ.1 this;simp only[Den]at this;exact this
  cases h
 cases h
end Go.Sy
namespace Go.Sy
open Go.RowKit
variable [fI]
def xd:Ob->Ob->Bool
 | .de,.de=>true
 | .dead,.dead=>true
 | .box l,.box l'=>lj (iN 8) l l'
 | .row e c n el,.row e' c' n' el'=>aC e e'&&(aC c c'&&(aC n n'&&uZ (iN 8) el el' c (pd 0 n)))
 |_,_=>false
def Hb:List Ob->Bool
 |[]=>true
 |o::l=>xd .de o&&Hb l
def zx:List Ob->List Ob->Bool
 |[],m=>Hb m
 |a::l,m=>match m with
  |[]=>xd a .de&&zx l []
  |b::m=>xd a b&&zx l m
def N1(st cz:St):Bool:=lj (iN 8) st.tmps cz.tmps&&zx st.bR cz.bR
theorem Yx{f:A->A->Bool}:∀ {l m:List A},lj f l m=true->l.length=m.length/\ ∀i,f (bT l i) (bT m i)=true\/(bT l i= .dU/\bT m i= .dU)
 |[],[],_=>⟨rfl,λi=>.inr ⟨rfl,rfl⟩⟩
 |a::l,b::m,h=>by
  simp only[lj,aa]at h;obtain⟨h1,h2⟩:=Yx h.2;refine⟨by simp[h1],λi=>?_⟩;cases i with
  |zero=>exact .inl h.1
  |succ i=>exact h2 i
 |[],_::_,h=>by cases h
 |_::_,[],h=>by cases h
theorem Yy:∀ {m:List Ob},Hb m=true-> ∀id,xd .de (bZ m id)=true
 |[],_,id=>rfl
 |o::l,h,id=>by
  simp only[Hb,aa]at h;cases id with
  |zero=>exact h.1
  |succ id=>exact Yy h.2 id
theorem N2:∀ {l m:List Ob},zx l m=true-> ∀id,xd (bZ l id) (bZ m id)=true
 |[],m,h,id=>Yy (m:=m) h id
 |o::l,[],h,id=>by
  simp only[zx,aa]at h;cases id with
  |zero=>exact h.1
  |succ id=>exact N2 (m:=[]) h.2 id
 |a::l,b::m,h,id=>by
  simp only[zx,aa]at h;cases id with
  |zero=>exact h.1
  |succ id=>exact N2 h.2 id
theorem aps{w:aj}{O:Nat->Prop}{ρ:Nat->Loc}{a b:Ob}{l:Loc}(h:xd a b=true)(hr:fR w O ρ a l):fR w O ρ b l:=by
 unfold xd at h;split at h
 .exact hr
 .exact hr
 .obtain⟨b,vs,t,h1,h2,h3⟩:=hr;exact⟨b,vs,t,h1,h2,pc (ll 8) h _ _ _ _ h3⟩
 .rename_i e c n el e' c' n' el';simp only[aa]at h;obtain⟨h1,h2,h3,h4⟩:=h;have h1:=aB h1;have h2:=aB h2;have h3:=aB h3;subst h1 h2 h3;obtain⟨v,xs,g1,g2,g3,g4⟩:=hr;refine⟨v,xs,g1,g2,g3,λi hi j hj=>?_⟩;obtain⟨u,hu,ij⟩:=g4 i hi j hj;have hm:=u6 n 0 i hi;rw[aD]at hm;exact⟨u,hu,ll 8 _ _ (zu h4 i hm j hj) _ _ _ _ ij⟩
 cases h
theorem apt{B:Nat}{st cz:St}(h:N1 st cz=true):eo B st cz:=λw0 X a w ρ hr=>by
 simp only[N1,aa]at h;obtain⟨h1,h2⟩:=Yx h.1;refine⟨ρ,⟨hr.len.trans h1,λi=>?_,λid=>aps (N2 h.2 id) (hr.obj id),hr.dJ,hr.kept,hr.new,hr.fu,hr.jM⟩,ju.refl _ _ _ _⟩;have:=hr.tmp i;rcases h2 i with h3|⟨h3,h4⟩
 .exact ll 8 _ _ h3 _ _ _ _ this
 rw[h4,<- h3];exact this
def tO(keep:List Nat):Nat->List A->List A
 |_,[]=>[]
 |i,a::l=>(bif mK keep i then a else .dU)::tO keep (i+1) l
theorem Yz{keep:List Nat}:∀ (l:List A) (i j:Nat),bT (tO keep i l) j=bT l j\/bT (tO keep i l) j= .dU
 |[],i,j=>.inl rfl
 |a::l,i,0=>by
  simp only[tO,bT];cases mK keep i
  .exact .inr rfl
  exact .inl rfl
 |a::l,i,j+1=>Yz l (i+1) j
theorem YA{keep:List Nat}:∀ (l:List A) (i:Nat),(tO keep i l).length=l.length
 |[],i=>rfl
 |a::l,i=>by simp[tO,YA l (i+1)]
theorem apu{B:Nat}{st:St}(keep:List Nat):eo B st ⟨tO keep 0 st.tmps,st.bR⟩:=λw0 X a w ρ hr=>by
 refine⟨ρ,⟨hr.len.trans (YA _ _).symm,λi=>?_,hr.obj,hr.dJ,hr.kept,hr.new,hr.fu,hr.jM⟩,ju.refl _ _ _ _⟩;have:=hr.tmp i;show R w _ (bT (tO keep 0 st.tmps) i) ρ _;rcases Yz (keep:=keep) st.tmps 0 i with h|h
 .rw[h];exact this
 rw[h];exact bY.dU _ _ _ _ _ this
def N3:Ex->Ex->Bool
 | .normal,.normal=>true
 | .exit i,.exit j=>aC i j
 | .ret,.ret=>true
 |_,_=>false
theorem apv{a b:Ex}(h:N3 a b=true):a=b:=by
 unfold N3 at h;split at h
 .rfl
 .rw[aB h]
 .rfl
 cases h
def N4(T:Nat)(keep:List Nat)(e0:Ex)(lit:St)(e:Ex)(st:St):Bool:=
 N3 e e0&&G5 ⟨0,T,false⟩ ⟨tO keep 0 st.tmps,st.bR⟩ λst=>N1 st lit
theorem apw{T:Nat}{keep:List Nat}{e0 e:Ex}{lit st:St}(h:N4 T keep e0 lit e st=true):e=e0/\eo 0 st lit:=by
 simp only[N4,aa]at h;obtain⟨cz,hw,hk⟩:=Ys h.2;exact⟨apv h.1,(apu keep).trans (hw.trans (apt hk))⟩
def apx(C:Cx)(cs:List Ct)(n T:Nat)(keep:List Nat)(code:af)(st:St)(e0:Ex)(lit:St):Bool:=
 auto C cs n (N4 T keep e0 lit) (nk st λst=>.more [] st) [.code code] ⟨0,T,false⟩
theorem lA(C:Cx)(n T:Nat)(keep:List Nat)(cs:List Ct){code:af}{st:St}{e0:Ex}{lit:St}(hcs:xn C.E.P cs)(h:apx C cs n T keep code st e0 lit=true):
  W C.E 0 false code st λe s=>e=e0/\eo 0 s lit:=by
 have:=G9 (Ha hcs) n _ (λe s=>e=e0/\eo 0 s lit) _ _ _ h λe s hk=>apw hk;rw[pX]at this;have:=eH.hZ.1 this;simp only[Den]at this;exact this
def apy(C:Cx)(cs:List Ct)(n T:Nat)(code:af)(st:St)(res:List al)(c:Ct):Bool:=
 auto C cs n (qk C.E.P res c.res c.ob c.fr) (nk st λst=>.more [] st) [.code code] ⟨0,T,false⟩
theorem aiJ(C:Cx)(n T:Nat)(cs:List Ct){code:af}{st:St}{res:List al}{c:Ct}(hcs:xn C.E.P cs)(h:apy C cs n T code st res c=true):
  W C.E 0 false code st λe s=>qk C.E.P res c.res c.ob c.fr e s=true:=by
 have:=G9 (Ha hcs) n _ (λe s=>qk C.E.P res c.res c.ob c.fr e s=true) _ _ _ h λe s hk=>hk;rw[pX]at this;have:=eH.hZ.1 this;simp only[Den]at this;exact this
theorem WR.step{E:Env}{body:af}{Q:Ex->St->Prop}{m:Nat}{st lit:St}(h:W E 0 false body st λe s=>e= .normal/\eo 0 s lit)(h':WR E 0 false body Q m lit):WR E 0 false body Q (m+1) st:=by
 refine h.mono ?_;rintro e s ⟨rfl,hw⟩;exact⟨lit,hw,h'⟩
theorem WR.last{E:Env}{body:af}{Q:Ex->St->Prop}{st lit:St}{i:Nat}(h:W E 0 false body st λe s=>e= .exit i/\eo 0 s lit)(hq:∀ s,eo 0 s lit->Q (.exit i) s):WR E 0 false body Q 1 st:=by
 refine h.mono ?_;rintro e s ⟨rfl,hw⟩;exact hq s hw
theorem W.ud{E:Env}{B:Nat}{fl:Bool}{Q:Ex->St->Prop}{a b:af}{st lit:St}(h:W E B fl a st λe s=>e= .normal/\eo B s lit)(h':W E B fl b lit Q):W E B fl (.seq a b) st Q:=by
 refine W.seq (h.mono ?_);rintro e s ⟨rfl,hw⟩;exact W.gv hw h'
theorem W.sq2{E:Env}{B:Nat}{fl:Bool}{a b:af}{st l1 l2:St}(h:W E B fl a st λe s=>e= .normal/\eo B s l1)(h':W E B fl b l1 λe s=>e= .normal/\eo B s l2):W E B fl (.seq a b) st λe s=>e= .normal/\eo B s l2:=
 W.ud h h'
theorem W.aiM{E:Env}{i m:Nat}{body:af}{st lit:St}(h:WR E 0 false body (λe s=>e= .exit i/\eo 0 s lit) m st):W E 0 false (.block i (.loop body)) st λe s=>e= .normal/\eo 0 s lit:=by
 refine W.block ((W.rounds h).mono ?_);rintro e s ⟨rfl,hw⟩;show(if i=i then _ else _);rw[bS rfl];exact⟨rfl,hw⟩
def I7(P:ae)(f:ak):af:=match P.funcs[f]? with|some fn=>fn.body.getD .skip|none=>.skip
def iv:af->af
 | .seq a _=>a
 |c=>c
def cY:Nat->af->af
 |0,c=>c
 |k+1,.seq _ b=>cY k b
 |_+1,c=>c
def oN:af->af
 | .block _ (.loop c)=>c
 |c=>c
def I8(P:ae)(f:ak):List al:=match P.funcs[f]? with|some fn=>fn.results.toList|none=>[]
def YB(P:ae)(f:ak):Nat:=match P.funcs[f]? with|some fn=>fn.ntmps|none=>0
theorem aiL{E:Env}{c:Ct}{code:af}(oE:(c.fr&&c.ob.isSome)=false)(hent:(jw E.P c.f&&(match E.P.funcs[c.f]? with|some fn=>fn.body.isSome|none=>false))=true)(hc:I7 E.P c.f=code)
  (h:W E 0 false code (jZ (YB E.P c.f) c.args []) λe s=>qk E.P (I8 E.P c.f) c.res c.ob c.fr e s=true):jI E.P c:=by
 simp only[aa]at hent;obtain⟨he,hb⟩:=hent;unfold I7 at hc;unfold I8 YB at h;split at hb
 .rename_i fn hf;rw[hf]at hc h;simp only at hc h;cases nK:fn.body with
  |none=>rw[nK]at hb;cases hb
  |some b=>
   rw[nK]at hc;simp only[Option.getD_some]at hc;subst hc;exact Yw oE he hf nK h
 cases hb
theorem OD{P:ae}{c:Ct}{args:List A}{r:A}(h:cJ P c.f args (r,none))(oE:(lj (iN 8) c.args args&&(iN 8 r c.res&&(c.ob.isNone&&flat 6 c.res)))=true):jI P c:=by
 simp only[aa,Option.isNone_iff_eq_none]at oE;obtain⟨h1,h2,h3,h4⟩:=oE;have h':cJ P c.f c.args (c.res,c.ob):=by rw[h3];exact cJ.res (h.le (pc (ll 8) h1)) (ll 8 _ _ h2)
 unfold jI;cases iu:c.fr with
 |false=>exact h'
 |true=>
  refine⟨⟨h'.lh,λw X vs hX hr=>(h'.run w (λ_=>False) vs (λ_ h=>h.elim) hr).mono ?_⟩,h3⟩;rintro e w' ⟨v,l,he,hb,hv,ho,hn⟩;rw[h3]at ho;simp only at ho;subst ho;have hu:dj b7 0 Loc.de=b7:=by
   funext i;unfold dj;split<;>rfl
  rw[hu]at hv;exact⟨v,he,hb,(tr 6).1 _ _ h4 hv⟩
end Go.Sy
