import Derived.Test.YtjhmdfofhnijeaaGreatDoorP2
open Go.Proofs.Tryz renaming prog->aa
open List renaming range->ab
set_option linter.all false
namespace Go.Mb
open Go.Sy
set_option maxRecDepth 100000
def jW:A->Int
 | .int _ n=>n
 |_=>0
theorem km{a:A}{k:IntKind}(h:GW (.int k) a):a= .int k (jW a):=by obtain⟨n,rfl,_⟩:=h;rfl
theorem ZJ:∀ {l m:List A},l.length=m.length->(∀j,j<l.length->bY (bT l j) (bT m j))->db l m
 |[],[],_,_=>db.nil
 |[],b::m,h,_=>by simp at h
 |a::l,[],h,_=>by simp at h
 |a::l,b::m,h,hj=>db.cons (hj 0 (by simp)) (ZJ (by simpa using h) λj hlt=>hj (j+1) (by simpa using hlt))
theorem aqP{n:Nat}{el:Nat->Nat->A}(h:∀ i,i<n->jc [.int .i64] (el i) 0):∃ l:List Int,l.length=n/\bY (.sl 1 n el) (eD l):=by
 refine⟨(ab n).map λi=>jW (el i 0),by simp,bY.sl (by simp) λi hi j hj=>?_⟩;obtain rfl:j=0:=by omega
 obtain⟨h0,_⟩:=h i hi;rw[km h0];simp[cO,nC,bT,hi]
def Oo:List Sh:=[.int .i64,.int .i64,.int .i64,.int .i64,.int .i64,.int .i64,.int .i64]
def ZK(f:Nat->A):fV:=⟨jW (f 0),jW (f 1),jW (f 2),jW (f 3),jW (f 4),jW (f 5),jW (f 6)⟩
theorem aqQ{f:Nat->A}(h:jc Oo f 0):∀ j,j<7->f j=bT (ZK f).cells j:=by
 obtain⟨h0,h1,h2,h3,h4,h5,h6,_⟩:=h;intro j hj
 match j,hj with
 |0,_=>exact km h0
 |1,_=>exact km h1
 |2,_=>exact km h2
 |3,_=>exact km h3
 |4,_=>exact km h4
 |5,_=>exact km h5
 |6,_=>exact km h6
theorem aqR{n:Nat}{el:Nat->Nat->A}(h:∀ i,i<n->jc Oo (el i) 0):∃ l:List fV,l.length=n/\bY (.sl 7 n el) (nv l):=by
 refine⟨(ab n).map λi=>ZK (el i),by simp,bY.sl (by simp) λi hi j hj=>?_⟩;rw[aqQ (h i hi) j hj];simp[cO,hi]
def Oq:List Sh:=[.int .i64,.int .i64,.int .i64,.int .i64]
def ZL(f:Nat->A):dE:=⟨jW (f 0),jW (f 1),jW (f 2),jW (f 3)⟩
theorem aqS{f:Nat->A}(h:jc Oq f 0):∀ j,j<4->f j=bT (ZL f).cells j:=by
 obtain⟨h0,h1,h2,h3,_⟩:=h;intro j hj
 match j,hj with
 |0,_=>exact km h0
 |1,_=>exact km h1
 |2,_=>exact km h2
 |3,_=>exact km h3
theorem aqT{n:Nat}{el:Nat->Nat->A}(h:∀ i,i<n->jc Oq (el i) 0):∃ l:List dE,l.length=n/\bY (.sl 4 n el) (lU l):=by
 refine⟨(ab n).map λi=>ZL (el i),by simp,bY.sl (by simp) λi hi j hj=>?_⟩;rw[aqS (h i hi) j hj];simp[cO,hi]
def Ot:List Sh:=[.int .i64,.int .i64,.int .i64,.int .i64,.int .i64]
def ZM(f:Nat->A):di:=⟨jW (f 0),jW (f 1),jW (f 2),jW (f 3),jW (f 4)⟩
theorem aqU{f:Nat->A}(h:jc Ot f 0):∀ j,j<5->f j=bT (ZM f).cells j:=by
 obtain⟨h0,h1,h2,h3,h4,_⟩:=h;intro j hj
 match j,hj with
 |0,_=>exact km h0
 |1,_=>exact km h1
 |2,_=>exact km h2
 |3,_=>exact km h3
 |4,_=>exact km h4
theorem aqV{n:Nat}{el:Nat->Nat->A}(h:∀ i,i<n->jc Ot (el i) 0):∃ l:List di,l.length=n/\bY (.sl 5 n el) (jz l):=by
 refine⟨(ab n).map λi=>ZM (el i),by simp,bY.sl (by simp) λi hi j hj=>?_⟩;rw[aqU (h i hi) j hj];simp[cO,hi]
def aqW:List Sh:=[.sl 1 [.int .i64],.sl 7 Oo,.sl 4 Oq,.sl 5 Ot]
def Ou:List Sh:=[.int .i64,.int .i64,.int .i64,.int .i64,.int .i64]
def ZN(f:Nat->A):cA:=⟨jW (f 0),jW (f 1),jW (f 2),jW (f 3),jW (f 4)⟩
theorem aqX{f:Nat->A}(h:jc Ou f 0):∀ j,j<5->f j=bT (ZN f).cells j:=by
 obtain⟨h0,h1,h2,h3,h4,_⟩:=h;intro j hj
 match j,hj with
 |0,_=>exact km h0
 |1,_=>exact km h1
 |2,_=>exact km h2
 |3,_=>exact km h3
 |4,_=>exact km h4
theorem aqY{n:Nat}{el:Nat->Nat->A}(h:∀ i,i<n->jc Ou (el i) 0):∃ l:List cA,l.length=n/\bY (.sl 5 n el) (rB l):=by
 refine⟨(ab n).map λi=>ZN (el i),by simp,bY.sl (by simp) λi hi j hj=>?_⟩;rw[aqX (h i hi) j hj];simp[cO,hi]
end Go.Mb
namespace Go.Proofs.YtjhmdfofhnijeaaGreatDoor
open Go.Sy Go.Mb
set_option maxRecDepth 100000
section
variable {H:Type} {enc:TypeId×Value->H} {W:World} {base:Nat} {spare:Nat->Bool} {held:Bool} {v:Value} {dd:DataW H} {ps:List MemPlace} {r:Reach} {b0:Nat}
theorem aqZ(hok:Value.okWide aa W r b0 29 v)(h:DataW.Trod enc aa W base spare held 29 v dd ps):∃ x:cE,R W (λ_=>False) (.agg x.cells) b7 v:=by
 obtain⟨cs,hl,hr,hs⟩:=X5 (X:=λ_=>False) (λ_ h=>h) (show pY aa 6 29=some aqW by kernel_rfl) hok h;have Ov:sd aa 29 cs= .agg cs:=by unfold sd;rw[show jn aa 29=some true by kernel_rfl]
 rw[Ov]at hr;obtain⟨⟨n0,el0,e0,_,aq0⟩,⟨n1,el1,e1,_,aq1⟩,⟨n2,VV,e2,_,hel2⟩,⟨n3,el3,e3,_,aq2⟩,_⟩:=hs;obtain⟨l0,_,aq3⟩:=aqP aq0;obtain⟨l1,_,aq4⟩:=aqR aq1;obtain⟨l2,_,aq5⟩:=aqT hel2;obtain⟨l3,_,aq6⟩:=aqV aq2;refine⟨⟨⟨l0,l1⟩,l2,l3⟩,bY.agg (ZJ (by rw[hl];rfl) λj hj=>?_) _ _ _ _ hr⟩;rw[hl]at hj
 match j,hj with
 |0,_=>rw[show bT cs 0=_ from e0];exact aq3
 |1,_=>rw[show bT cs 1=_ from e1];exact aq4
 |2,_=>rw[show bT cs 2=_ from e2];exact aq5
 |3,_=>rw[show bT cs 3=_ from e3];exact aq6
theorem aq7(hok:Value.okWide aa W r b0 43 v)(h:DataW.Trod enc aa W base spare held 43 v dd ps):∃ x:List cA,R W (λ_=>False) (rB x) b7 v:=by
 obtain⟨cs,hl,hr,hs⟩:=X5 (X:=λ_=>False) (λ_ h=>h) (show pY aa 6 43=some [.sl 5 Ou] by kernel_rfl) hok h;have Ov:sd aa 43 cs=bT cs 0:=by unfold sd;rw[show jn aa 43=some false by kernel_rfl]
 rw[Ov]at hr;obtain⟨⟨n,el,e0,_,hel⟩,_⟩:=hs;obtain⟨l,_,hle⟩:=aqY hel;rw[show bT cs 0=_ from e0]at hr;exact⟨l,hle _ _ _ _ hr⟩
end
end Go.Proofs.YtjhmdfofhnijeaaGreatDoor
