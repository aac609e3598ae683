import Derived.Test.YtjhmdfofhnijeaaGreatDoorP2
open Bool renaming or_eq_true->aa, false_and->ab, true_and->ae
open Go.IntKind renaming i64->af
open Go.Proofs.Tryz renaming prog->ai
open Go.Sy.NS renaming ret->aj, loop->ak, gu->al
open Inhabited renaming default->aq
open List renaming drop_length->ar, getElem_mem->au
open Nat renaming zero_le->av
set_option linter.all false
namespace Go.Mb
open Go.Sy
def gK(a b:Int):Int:=if a<b then-1 else if a>b then 1 else 0
def mr:List Int->Int
 |[]=>0
 |a::l=>if a !=0 then a else mr l
theorem AR{a b:Int}:gK a b<0↔a<b:=by unfold gK;split<;>(try split)<;>omega
theorem x7{a b:Int}:gK a b=0↔a=b:=by unfold gK;split<;>(try split)<;>omega
theorem AQ{a:Int}{l:List Int}:mr (a::l)<0↔a<0\/(a=0/\mr l<0):=by
 rw[mr];split
 .rename_i h;have h:a≠0:=by simpa using h
  omega
 rename_i h;have h:a=0:=by simpa using h
 omega
theorem alF{a:Int}{l:List Int}:mr (a::l)=0↔a=0/\mr l=0:=by
 rw[mr];split
 .rename_i h;have h:a≠0:=by simpa using h
  omega
 rename_i h;have h:a=0:=by simpa using h
 omega
theorem vN:mr []=0:=rfl
def kQ(a b:dE):Int:=mr [gK a.ct b.ct,gK a.fr b.fr]
theorem U0{a b:dE}:kQ a b<0↔a.ct<b.ct\/(a.ct=b.ct/\a.fr<b.fr):=by
 unfold kQ;simp only[AQ,vN,AR,x7];omega
def rM(l:List dE):Nat->Option dE
 |0=>none
 |k+1=>some (l.getD k aq)
theorem U1{p:fE}{l:List dE}{k:Nat}(h:k<l.length):oO p (rM l k) (l.drop k)=if !kD p (l.getD k aq)then 2 else if gX (rM l k) (l.getD k aq)!=0 then gX (rM l k) (l.getD k aq)else oO p (rM l (k+1)) (l.drop (k+1)):=by
 rw[drop_cons h,oO];rfl
end Go.Mb
namespace Go.Proofs.YtjhmdfofhnijeaaGreatDoor
open Go.Sy Go.Mb
set_option maxRecDepth 100000
set_option maxHeartbeats 4000000
theorem U2[fI](n:Int):cJ ai 141 [.int .i64 n] (.bool false,none):=by
 refine c8 CM Tryz.func141 rfl ?_;exact cL zE rfl rfl (fk ((np n)))
theorem mS[fI](a b:Int):cJ ai 92 [.int .i64 a,.int .i64 b] (.int .i64 (gK a b),none):=by
 refine c8 CM Tryz.func92 rfl ?_;refine cj zE (U2 a) (cj zE (U2 b) (b8 zE (rfl) (b8 zE (rfl) (cK zE (λh=>?_) (λh=>?_)))))
 .exact cL zE rfl rfl (dY ((by unfold gK;rw[bS (by simpa using h)])))
 refine cK zE (λh2=>?_) (λh2=>?_)
 .exact cL zE rfl rfl (dY ((by unfold gK;rw[bQ (by simpa using h),bS (by simpa using h2)])))
 exact cL zE rfl rfl (dY ((by unfold gK;rw[bQ (by simpa using h),bQ (by simpa using h2)])))
theorem AW[fI](l:List Int)(hl:l.length<=1000):cJ ai 91 [eD l] (.int .i64 (mr l),none):=by
 refine c8 CM Tryz.func91 rfl ?_;refine zG zE ?_;refine ak (σ:={ k:Nat // k<=l.length/\mr l=mr (l.drop k) }) (λk=>[(3,.int .i64 0),(6,eD l),(7,.int .i64 l.length),(8,.int .i64 k.1)]) (λ_=>[]) (λk=>l.length-k.1) ⟨0,av _,rfl⟩ ?_ ?_
 .exact cB [] ⟨rfl,rfl,rfl,rfl,bP⟩ trivial
 rintro⟨k,hk,hs⟩;refine cK zE (λh=>?_) (λh=>?_)
 .have h:k<l.length:=by simpa using h
  rw[drop_cons h]at hs;refine bU zE (by simp;omega) (cK zE (λh2=>?_) (λh2=>?_))
  .have h2:(l.getD k aq !=0)=true:=h2;exact zG zE (al rfl zE (aj rfl rfl (dY ((by show l.getD k aq=mr l;rw[hs,mr,bS h2])))))
  have h2:(l.getD k aq !=0)=false:=h2;refine cH zE ⟨k+1,by omega,by rw[hs,mr,bQ (by rw[h2];simp)]⟩ (by simp;omega) ?_;exact cB [] ⟨rfl,rfl,rfl,c9 rfl (je (by omega) (by omega)),bP⟩ trivial
 have h:l.length<=k:=by simpa using h
 rw[List.drop_eq_nil_of_le h,vN]at hs;exact dt zE rfl zE (cL zE rfl rfl (dY ((hs.symm))))
theorem alG{el:Nat->Nat->A}{x y:Int}(h0:el 0 0= .int .i64 x)(h1:el 1 0= .int .i64 y):∀ i,i<2-> ∀j,j<1->el i j=cO nC [x,y] i j:=by
 intro i hi j hj;obtain rfl:j=0:=by omega
 match i,hi with
 |0,_=>exact h0
 |1,_=>exact h1
theorem alH(p:fE)(b:dE):cJ ai 137 [.agg p.cells,.agg b.cells] (.bool (kD p b),none):=by
 refine c8 CM Tryz.func137 rfl ?_;refine cK zE (λa1=>?_) (λa1=>?_)
 .exact cL zE rfl rfl (fk ((by unfold kD;rw[show decide (b.ct<0)=true from a1];rfl)))
 refine cK zE (λa2=>?_) (λa2=>?_)
 .exact cL zE rfl rfl (fk ((by unfold kD;rw[show decide (b.ct>=(p.bW.length:Int))=true from a2];simp)))
 refine cK zE (λa3=>?_) (λa3=>?_)
 .exact cL zE rfl rfl (fk ((by unfold kD;rw[show decide (b.tk<0)=true from a3];simp)))
 refine cK zE (λa4=>?_) (λa4=>?_)
 .exact cL zE rfl rfl (fk ((by unfold kD;rw[show decide (b.tk>1152921504606846976)=true from a4];simp)))
 have h1:¬ b.ct<0:=eY a1;have h2:¬ b.ct>=(p.bW.length:Int):=eY a2;have hv:kD p b=(decide ((p.bW.getD b.ct.toNat aq).start<=b.fr)&&(decide (b.fr<b.to)&&decide (b.to<=(p.bW.getD b.ct.toNat aq).stop))):=by
  unfold kD;rw[show decide (b.ct<0)=false from a1,show decide (b.ct>=(p.bW.length:Int))=false from a2,show decide (b.tk<0)=false from a3,show decide (b.tk>1152921504606846976)=false from a4];rfl
 rw[hv];refine bU zE (by show decide (0<=b.ct/\b.ct<(p.bW.length:Int))=true;exact cw (by omega)) (cK zE (λb1=>?_) (λb1=>?_))
 .rw[show decide ((p.bW.getD b.ct.toNat aq).start<=b.fr)=true from b1];refine cK zE (λb2=>?_) (λb2=>?_)
  .rw[show decide (b.fr<b.to)=true from b2];exact cL zE rfl rfl (fk ((rfl)))
  rw[show decide (b.fr<b.to)=false from b2];exact cL zE rfl rfl (fk ((rfl)))
 rw[show decide ((p.bW.getD b.ct.toNat aq).start<=b.fr)=false from b1];exact cL zE rfl rfl (fk ((rfl)))
theorem alI(p:fE)(b:dE):cJ ai 163 [.agg p.cells,.agg b.cells] (.bool (kD p b),none):=by
 refine c8 CM Tryz.func163 rfl ?_;refine cK zE (λa1=>?_) (λa1=>?_)
 .exact cL zE rfl rfl (fk ((by unfold kD;rw[show decide (b.ct<0)=true from a1];rfl)))
 refine cK zE (λa2=>?_) (λa2=>?_)
 .exact cL zE rfl rfl (fk ((by unfold kD;rw[show decide (b.ct>=(p.bW.length:Int))=true from a2];simp)))
 refine cK zE (λa3=>?_) (λa3=>?_)
 .exact cL zE rfl rfl (fk ((by unfold kD;rw[show decide (b.tk<0)=true from a3];simp)))
 refine cK zE (λa4=>?_) (λa4=>?_)
 .exact cL zE rfl rfl (fk ((by unfold kD;rw[show decide (b.tk>1152921504606846976)=true from a4];simp)))
 have h1:¬ b.ct<0:=eY a1;have h2:¬ b.ct>=(p.bW.length:Int):=eY a2;have hv:kD p b=(decide ((p.bW.getD b.ct.toNat aq).start<=b.fr)&&(decide (b.fr<b.to)&&decide (b.to<=(p.bW.getD b.ct.toNat aq).stop))):=by
  unfold kD;rw[show decide (b.ct<0)=false from a1,show decide (b.ct>=(p.bW.length:Int))=false from a2,show decide (b.tk<0)=false from a3,show decide (b.tk>1152921504606846976)=false from a4];rfl
 rw[hv];refine bU zE (by show decide (0<=b.ct/\b.ct<(p.bW.length:Int))=true;exact cw (by omega)) (cK zE (λb1=>?_) (λb1=>?_))
 .rw[show decide ((p.bW.getD b.ct.toNat aq).start<=b.fr)=true from b1];refine cK zE (λb2=>?_) (λb2=>?_)
  .rw[show decide (b.fr<b.to)=true from b2];exact cL zE rfl rfl (fk ((rfl)))
  rw[show decide (b.fr<b.to)=false from b2];exact cL zE rfl rfl (fk ((rfl)))
 rw[show decide ((p.bW.getD b.ct.toNat aq).start<=b.fr)=false from b1];exact cL zE rfl rfl (fk ((rfl)))
theorem alJ(a b:dE):cJ ai 138 [.agg a.cells,.agg b.cells] (.int .i64 (kQ a b),none):=by
 refine c8 CM Tryz.func138 rfl ?_;refine cN zE ?_;exact cj zE (mS a.ct b.ct) (cj zE (mS a.fr b.fr) (cj zE ((AW [gK a.ct b.ct,gK a.fr b.fr] (by simp)).le (db.cons (bY.sl rfl (alG rfl rfl)) db.nil)) (cL zE rfl rfl (bY.refl _))))
theorem U3(p:fE)(l:List dE)(h1:p.qs.length<=1000000)(h2:p.bW.length<=1000000)(h3:l.length<=1000000):cJ ai 84 [.agg p.cells,lU l] (.int .i64 (lB p l),none):=by
 obtain⟨R,hR⟩:∃ R,R=lB p l:=⟨_,rfl⟩;rw[<-hR];unfold lB at hR;refine c8 CM Tryz.func84 rfl ?_;refine cj zE (Kh p h1 h2) (cK zE (λa1=>?_) (λa1=>?_))
 .rw[bS a1]at hR;exact cL zE rfl rfl (dY ((hR.symm)))
 rw[bQ (by rw[show(jB p !=0)=false from a1];decide)]at hR;refine cK zE (λa2=>?_) (λa2=>?_)
 .rw[bS a2]at hR;exact cL zE rfl rfl (dY ((hR.symm)))
 rw[bQ (by rw[show decide ((l.length:Int)>512)=false from a2];decide)]at hR;refine zG zE ?_;refine ak (σ:={ k:Nat // k<=l.length/\R=oO p (rM l k) (l.drop k) }) (λk=>[(1,lU l),(2,.ptr 2 0),(13,lU l),(14,.int .i64 l.length),(15,.int .i64 (k.1:Nat))]) (λ_=>[(2,.box p.cells)]) (λk=>l.length-k.1) ⟨0,av _,hR⟩ ?_ ?_
 .exact cB [] ⟨rfl,rfl,rfl,rfl,rfl,bP⟩ ⟨bV,bP⟩
 rintro⟨k,(hk:k<=l.length),hR⟩;refine cK zE (λa=>?_) (λa=>?_)
 .have a:k<l.length:=by have a:decide ((k:Int)<(l.length:Int))=true:=a;have:=fv a;omega
  rw[U1 a]at hR
  repeat' (first|(refine bU zE (cZ a) ?_)|(refine cN zE ?_)|(refine cj zE (alH p (l.getD k aq)) ?_))
  refine cK zE (λb1=>?_) (λb1=>?_)
  .rw[bS b1]at hR;exact zG zE (al rfl zE (aj rfl rfl (dY ((hR.symm)))))
  rw[bQ (by rw[show(!kD p (l.getD k aq))=false from b1];decide)]at hR;refine cK zE (λb2=>?_) (λb2=>?_)
  .have b2:k=0:=by have b2:((k:Int)==0)=true:=b2;have:=ie b2;omega
   subst b2;rw[bQ (by simp[rM,gX])]at hR;refine cH zE ⟨0+1,a,hR⟩ (dp a) ?_;exact cB [] ⟨rfl,rfl,rfl,rfl,c6 (k:=0) (n:=l.length) a,bP⟩ ⟨bV,bP⟩
  obtain⟨j,rfl⟩:∃ j,k=j+1:=⟨k-1,by have b2:((k:Int)==0)=false:=b2;have:=ne_of_beq_false b2;omega⟩;have e1:af.wrap (((j+1:Nat):Int)-1)=(j:Int):=by rw[dG];omega
  have hn:decide (0<=af.wrap (((j+1:Nat):Int)-1)/\af.wrap (((j+1:Nat):Int)-1)<(l.length:Int))=true:=by rw[e1];exact cw (by omega)
  have hg:l.getD (af.wrap (((j+1:Nat):Int)-1)).toNat aq=l.getD j aq:=by rw[e1];rfl
  have hb:gX (rM l (j+1)) (l.getD (j+1) aq)=gX (some (l.getD j aq)) (l.getD (j+1) aq):=rfl;rw[hb]at hR
  repeat' (first|(refine cN zE ?_)|(refine bU zE (hn) ?_)|(refine cj zE ((alJ (l.getD j aq) (l.getD (j+1) aq)).le (db.cons (bY.of (by show A.agg (dE.cells (l.getD (af.wrap (((j+1:Nat):Int)-1)).toNat aq))=_;rw[hg])) (db.cons (bY.refl _) db.nil))) ?_))
  refine cK zE (λb3=>?_) (λb3=>?_)
  .have b3:¬ (kQ (l.getD j aq) (l.getD (j+1) aq)<0):=by have b3:decide (kQ (l.getD j aq) (l.getD (j+1) aq)>=0)=true:=b3;have:=fv b3;omega
   rw[U0]at b3;have hf:gX (some (l.getD j aq)) (l.getD (j+1) aq)=9:=by
    unfold gX;simp only[aa,dN];rw[bQ (by omega),bS (by omega)]
   rw[hf,bS (by decide)]at hR;exact zG zE (al rfl zE (aj rfl rfl (dY ((hR.symm)))))
  have b3:kQ (l.getD j aq) (l.getD (j+1) aq)<0:=by have b3:decide (kQ (l.getD j aq) (l.getD (j+1) aq)>=0)=false:=b3;have:=eY b3;omega
  rw[U0]at b3
  repeat' (first|(refine cN zE ?_)|(refine bU zE (hn) ?_))
  refine cK zE (λb4=>?_) (λb4=>?_)
  .have b4:(l.getD j aq).ct=(l.getD (j+1) aq).ct:=by have b4:((l.getD (af.wrap (((j+1:Nat):Int)-1)).toNat aq).ct==(l.getD (j+1) aq).ct)=true:=b4;rw[hg]at b4;exact ie b4
   repeat' (first|(refine cN zE ?_)|(refine bU zE (hn) ?_))
   refine cK zE (λb5=>?_) (λb5=>?_)
   .have b5:(l.getD (j+1) aq).fr<(l.getD j aq).to:=by have b5:decide ((l.getD (j+1) aq).fr<(l.getD (af.wrap (((j+1:Nat):Int)-1)).toNat aq).to)=true:=b5;rw[hg]at b5;exact fv b5
    have hf:gX (some (l.getD j aq)) (l.getD (j+1) aq)=14:=by
     unfold gX;simp only[aa,dN];rw[bQ (by omega),bQ (by omega),bS b5]
    rw[hf,bS (by decide)]at hR;exact zG zE (al rfl zE (aj rfl rfl (dY ((hR.symm)))))
   have b5:¬ (l.getD (j+1) aq).fr<(l.getD j aq).to:=by have b5:decide ((l.getD (j+1) aq).fr<(l.getD (af.wrap (((j+1:Nat):Int)-1)).toNat aq).to)=false:=b5;rw[hg]at b5;exact eY b5
   have hf:gX (some (l.getD j aq)) (l.getD (j+1) aq)=0:=by
    unfold gX;simp only[aa,dN];rw[bQ (by omega),bQ (by omega),bQ b5]
   rw[hf,bQ (by decide)]at hR;refine cH zE ⟨j+1+1,a,hR⟩ (by show l.length-(j+1+1)<l.length-(j+1);omega) ?_;exact cB [] ⟨rfl,rfl,rfl,rfl,c6 (k:=j+1) (n:=l.length) a,bP⟩ ⟨bV,bP⟩
  have b4:(l.getD j aq).ct≠(l.getD (j+1) aq).ct:=by have b4:((l.getD (af.wrap (((j+1:Nat):Int)-1)).toNat aq).ct==(l.getD (j+1) aq).ct)=false:=b4;rw[hg]at b4;exact ne_of_beq_false b4
  have hf:gX (some (l.getD j aq)) (l.getD (j+1) aq)=0:=by
   unfold gX;simp only[aa,dN];rw[bS (by omega)]
  rw[hf,bQ (by decide)]at hR;refine cH zE ⟨j+1+1,a,hR⟩ (by show l.length-(j+1+1)<l.length-(j+1);omega) ?_;exact cB [] ⟨rfl,rfl,rfl,rfl,c6 (k:=j+1) (n:=l.length) a,bP⟩ ⟨bV,bP⟩
 have a:k=l.length:=by have a:decide ((k:Int)<(l.length:Int))=false:=a;have:=eY a;omega
 subst a;rw[ar,oO]at hR;refine dt zE rfl zE ?_;exact zG zE (aj rfl rfl (dY ((hR.symm))))
theorem alK(p:fE)(l:List dE)(h1:p.qs.length<=1000000)(h2:p.bW.length<=1000000)(h3:l.length<=1000000):cJ ai 103 [.agg p.cells,lU l] (.int .i64 (lB p l),none):=by
 obtain⟨R,hR⟩:∃ R,R=lB p l:=⟨_,rfl⟩;rw[<-hR];unfold lB at hR;refine c8 CM Tryz.func103 rfl ?_;refine cj zE (Ki p h1 h2) (cK zE (λa1=>?_) (λa1=>?_))
 .rw[bS a1]at hR;exact cL zE rfl rfl (dY ((hR.symm)))
 rw[bQ (by rw[show(jB p !=0)=false from a1];decide)]at hR;refine cK zE (λa2=>?_) (λa2=>?_)
 .rw[bS a2]at hR;exact cL zE rfl rfl (dY ((hR.symm)))
 rw[bQ (by rw[show decide ((l.length:Int)>512)=false from a2];decide)]at hR;refine zG zE ?_;refine ak (σ:={ k:Nat // k<=l.length/\R=oO p (rM l k) (l.drop k) }) (λk=>[(1,lU l),(2,.ptr 2 0),(5,.int .i64 (k.1:Nat))]) (λ_=>[(2,.box p.cells)]) (λk=>l.length-k.1) ⟨0,av _,hR⟩ ?_ ?_
 .exact cB [] ⟨rfl,rfl,rfl,bP⟩ ⟨bV,bP⟩
 rintro⟨k,(hk:k<=l.length),hR⟩;refine cK zE (λa=>?_) (λa=>?_)
 .have a:k<l.length:=by have a:decide ((k:Int)<(l.length:Int))=true:=a;have:=fv a;omega
  rw[U1 a]at hR
  repeat' (first|(refine bU zE (cZ a) ?_)|(refine cN zE ?_)|(refine cj zE (alI p (l.getD k aq)) ?_))
  refine cK zE (λb1=>?_) (λb1=>?_)
  .rw[bS b1]at hR;exact zG zE (al rfl zE (aj rfl rfl (dY ((hR.symm)))))
  rw[bQ (by rw[show(!kD p (l.getD k aq))=false from b1];decide)]at hR
  repeat' (first|(refine cN zE ?_))
  refine cK zE (λb2=>?_) (λb2=>?_)
  .have b2:k=0:=by have b2:((k:Int)==0)=true:=b2;have:=ie b2;omega
   subst b2;rw[bQ (by simp[rM,gX])]at hR;refine cH zE ⟨0+1,a,hR⟩ (dp a) ?_;exact cB [] ⟨rfl,rfl,c6 (k:=0) (n:=l.length) a,bP⟩ ⟨bV,bP⟩
  obtain⟨j,rfl⟩:∃ j,k=j+1:=⟨k-1,by have b2:((k:Int)==0)=false:=b2;have:=ne_of_beq_false b2;omega⟩;have e1:af.wrap (((j+1:Nat):Int)-1)=(j:Int):=by rw[dG];omega
  have hn:decide (0<=af.wrap (((j+1:Nat):Int)-1)/\af.wrap (((j+1:Nat):Int)-1)<(l.length:Int))=true:=by rw[e1];exact cw (by omega)
  have hg:l.getD (af.wrap (((j+1:Nat):Int)-1)).toNat aq=l.getD j aq:=by rw[e1];rfl
  have hb:gX (rM l (j+1)) (l.getD (j+1) aq)=gX (some (l.getD j aq)) (l.getD (j+1) aq):=rfl;rw[hb]at hR
  repeat' (first|(refine cN zE ?_)|(refine bU zE (cZ a) ?_)|(refine bU zE (hn) ?_))
  refine cK zE (λb3=>?_) (λb3=>?_)
  .have b3:(l.getD (j+1) aq).ct>(l.getD j aq).ct:=by have b3:decide ((l.getD (j+1) aq).ct>(l.getD (af.wrap (((j+1:Nat):Int)-1)).toNat aq).ct)=true:=b3;rw[hg]at b3;exact fv b3
   rw[show gX (some (l.getD j aq)) (l.getD (j+1) aq)=0 by unfold gX;simp only[aa,dN];(repeat' split)<;>omega,bQ (by decide)]at hR;refine cH zE ⟨j+1+1,a,hR⟩ (by show l.length-(j+1+1)<l.length-(j+1);omega) ?_;exact cB [] ⟨rfl,rfl,c6 (k:=j+1) (n:=l.length) a,bP⟩ ⟨bV,bP⟩
  have b3:¬ (l.getD (j+1) aq).ct>(l.getD j aq).ct:=by have b3:decide ((l.getD (j+1) aq).ct>(l.getD (af.wrap (((j+1:Nat):Int)-1)).toNat aq).ct)=false:=b3;rw[hg]at b3;exact eY b3
  repeat' (first|(refine cN zE ?_)|(refine bU zE (cZ a) ?_)|(refine bU zE (hn) ?_))
  refine cK zE (λb4=>?_) (λb4=>?_)
  .have b4:decide ((l.getD (j+1) aq).ct<(l.getD j aq).ct)=true:=by have b4:decide ((l.getD (j+1) aq).ct<(l.getD (af.wrap (((j+1:Nat):Int)-1)).toNat aq).ct)=true:=b4;rw[hg]at b4;exact b4
   have b4:=fv b4;rw[show gX (some (l.getD j aq)) (l.getD (j+1) aq)=9 by unfold gX;simp only[aa,dN];(repeat' split)<;>omega,bS (by decide)]at hR;exact zG zE (al rfl zE (aj rfl rfl (dY ((hR.symm)))))
  have b4:decide ((l.getD (j+1) aq).ct<(l.getD j aq).ct)=false:=by have b4:decide ((l.getD (j+1) aq).ct<(l.getD (af.wrap (((j+1:Nat):Int)-1)).toNat aq).ct)=false:=b4;rw[hg]at b4;exact b4
  have b4:=eY b4
  repeat' (first|(refine cN zE ?_)|(refine bU zE (cZ a) ?_)|(refine bU zE (hn) ?_))
  refine cK zE (λb5=>?_) (λb5=>?_)
  .have b5:decide ((l.getD (j+1) aq).fr<=(l.getD j aq).fr)=true:=by have b5:decide ((l.getD (j+1) aq).fr<=(l.getD (af.wrap (((j+1:Nat):Int)-1)).toNat aq).fr)=true:=b5;rw[hg]at b5;exact b5
   have b5:=fv b5;rw[show gX (some (l.getD j aq)) (l.getD (j+1) aq)=9 by unfold gX;simp only[aa,dN];(repeat' split)<;>omega,bS (by decide)]at hR;exact zG zE (al rfl zE (aj rfl rfl (dY ((hR.symm)))))
  have b5:decide ((l.getD (j+1) aq).fr<=(l.getD j aq).fr)=false:=by have b5:decide ((l.getD (j+1) aq).fr<=(l.getD (af.wrap (((j+1:Nat):Int)-1)).toNat aq).fr)=false:=b5;rw[hg]at b5;exact b5
  have b5:=eY b5
  repeat' (first|(refine cN zE ?_)|(refine bU zE (cZ a) ?_)|(refine bU zE (hn) ?_))
  refine cK zE (λb6=>?_) (λb6=>?_)
  .have b6:(l.getD (j+1) aq).fr<(l.getD j aq).to:=by have b6:decide ((l.getD (j+1) aq).fr<(l.getD (af.wrap (((j+1:Nat):Int)-1)).toNat aq).to)=true:=b6;rw[hg]at b6;exact fv b6
   rw[show gX (some (l.getD j aq)) (l.getD (j+1) aq)=14 by unfold gX;simp only[aa,dN];(repeat' split)<;>omega,bS (by decide)]at hR;exact zG zE (al rfl zE (aj rfl rfl (dY ((hR.symm)))))
  have b6:¬ (l.getD (j+1) aq).fr<(l.getD j aq).to:=by have b6:decide ((l.getD (j+1) aq).fr<(l.getD (af.wrap (((j+1:Nat):Int)-1)).toNat aq).to)=false:=b6;rw[hg]at b6;exact eY b6
  rw[show gX (some (l.getD j aq)) (l.getD (j+1) aq)=0 by unfold gX;simp only[aa,dN];(repeat' split)<;>omega,bQ (by decide)]at hR;refine cH zE ⟨j+1+1,a,hR⟩ (by show l.length-(j+1+1)<l.length-(j+1);omega) ?_;exact cB [] ⟨rfl,rfl,c6 (k:=j+1) (n:=l.length) a,bP⟩ ⟨bV,bP⟩
 have a:k=l.length:=by have a:decide ((k:Int)<(l.length:Int))=false:=a;have:=eY a;omega
 subst a;rw[ar,oO]at hR;refine dt zE rfl zE ?_;exact zG zE (aj rfl rfl (dY ((hR.symm))))
end Go.Proofs.YtjhmdfofhnijeaaGreatDoor
namespace Go.Mb
open Go.Sy
def yC(l:List di):Nat->Option di
 |0=>none
 |k+1=>some (l.getD k aq)
theorem alL{p:fE}{l:List di}{k:Nat}(h:k<l.length):nX p (yC l k) (l.drop k)=if !qv p (l.getD k aq)then 2 else if yg (yC l k) (l.getD k aq)then 9 else nX p (yC l (k+1)) (l.drop (k+1)):=by
 rw[drop_cons h,nX];rfl
theorem Bx{node t:Int}:∀ {l:List di},(∀h∈l,1<=h.size/\h.size<=65536)->0<=e7 node t l/\e7 node t l<=65536*l.length
 |[],_=>by simp[e7]
 |h::l,hh=>by
  have h1:=Bx (node:=node) (t:=t) (l:=l) λx hx=>hh x (List.mem_cons_of_mem _ hx);have h2:=hh h List.mem_cons_self;simp only[e7,List.length_cons];split<;>omega
theorem alM{node t:Int}{l:List di}{k:Nat}(h:k<l.length):e7 node t (l.drop k)=(if gz node t (l.getD k aq)then(l.getD k aq).size else 0)+e7 node t (l.drop (k+1)):=by
 rw[drop_cons h,e7]
end Go.Mb
namespace Go.Proofs.YtjhmdfofhnijeaaGreatDoor
open Go.Sy Go.Mb
set_option maxRecDepth 100000
set_option maxHeartbeats 4000000
theorem alN(p:fE)(h:di):cJ ai 164 [.agg p.cells,.agg h.cells] (.bool (qv p h),none):=by
 refine c8 CM Tryz.func164 rfl ?_
 repeat' (first|(refine cK zE (λh=>?_) (λh=>?_))|(refine cN zE ?_)|(exact cL zE rfl rfl (fk ((by unfold qv;simp only[*,ae,ab])))))
theorem alO(p:fE)(h:di):cJ ai 97 [.agg p.cells,.agg h.cells] (.bool (qv p h),none):=by
 refine c8 CM Tryz.func97 rfl ?_
 repeat' (first|(refine cK zE (λh=>?_) (λh=>?_))|(refine cN zE ?_)|(exact cL zE rfl rfl (fk ((by unfold qv;simp only[*,ae,ab])))))
theorem alP(a b:di):cJ ai 165 [.agg a.cells,.agg b.cells] (.bool (kT a b),none):=by
 refine c8 CM Tryz.func165 rfl ?_
 repeat' (first|(refine cK zE (λh=>?_) (λh=>?_))|(refine cN zE ?_)|(exact cL zE rfl rfl (fk ((by unfold kT;simp only[*,iI,ic,Bool.false_eq_true])))))
theorem alQ(l:List di)(node t:Int)(hl:l.length<=1000)(hs:∀ h∈l,1<=h.size/\h.size<=65536):cJ ai 211 [jz l,.int .i64 node,.int .i64 t] (.int .i64 (e7 node t l),none):=by
 refine c8 CM Tryz.func211 rfl ?_;refine zG zE ?_;refine ak (σ:={ q:Nat×Int // q.1<=l.length/\q.2+e7 node t (l.drop q.1)=e7 node t l/\0<=q.2 }) (λq=>[(0,jz l),(1,.int .i64 node),(2,.int .i64 t),(7,.int .i64 q.1.2),(8,.int .i64 (q.1.1:Nat))]) (λ_=>[]) (λq=>l.length-q.1.1) ⟨(0,0),av _,by simp,Int.le_refl _⟩ ?_ ?_
 .exact cB [] ⟨rfl,rfl,rfl,rfl,rfl,bP⟩ trivial
 rintro⟨⟨k,n⟩,hk,hn,h0⟩;have hk:k<=l.length:=hk;have hn:n+e7 node t (l.drop k)=e7 node t l:=hn;have h0:0<=n:=h0;have hb:=Bx (node:=node) (t:=t) hs;refine cK zE (λa=>?_) (λa=>?_)
 .have a:k<l.length:=by have a:decide ((k:Int)<(l.length:Int))=true:=a;have:=fv a;omega
  have Fk:=hs (l.getD k aq) (by rw[cV a];exact au _);have hd:=Bx (node:=node) (t:=t) (l:=l.drop (k+1)) (λx hx=>hs x (List.mem_of_mem_drop hx));rw[alM a]at hn;refine bU zE (cZ a) (cK zE (λb1=>?_) (λb1=>?_))
  .have b1:((l.getD k aq).node==node)=true:=b1;refine bU zE (cZ a) (cK zE (λb2=>?_) (λb2=>?_))
   .have b2:decide ((l.getD k aq).fr<=t)=true:=b2;refine bU zE (cZ a) (cK zE (λb3=>?_) (λb3=>?_))
    .have b3:decide (t<(l.getD k aq).to)=true:=b3;have hi:gz node t (l.getD k aq)=true:=by unfold gz;rw[b1,b2,b3];rfl
     rw[bS hi]at hn;have e1:af.wrap (n+(l.getD k aq).size)=n+(l.getD k aq).size:=dG;refine bU zE (cZ a) (cH zE ⟨(k+1,n+(l.getD k aq).size),a,by show n+(l.getD k aq).size+e7 node t (l.drop (k+1))=_;omega,by show 0<=n+(l.getD k aq).size;omega⟩ (by show l.length-(k+1)<l.length-k;omega) ?_);exact cB [] ⟨rfl,rfl,rfl,c9 rfl e1,c6 (n:=l.length) a,bP⟩ trivial
    have b3:decide (t<(l.getD k aq).to)=false:=b3;have hi:gz node t (l.getD k aq)=false:=by unfold gz;rw[b3];simp
    rw[hi,bQ (by decide),Int.zero_add]at hn;refine cH zE ⟨(k+1,n),a,hn,h0⟩ (by show l.length-(k+1)<l.length-k;omega) ?_;exact cB [] ⟨rfl,rfl,rfl,rfl,c6 (n:=l.length) a,bP⟩ trivial
   have b2:decide ((l.getD k aq).fr<=t)=false:=b2;have hi:gz node t (l.getD k aq)=false:=by unfold gz;rw[b2];simp
   rw[hi,bQ (by decide),Int.zero_add]at hn;refine cH zE ⟨(k+1,n),a,hn,h0⟩ (by show l.length-(k+1)<l.length-k;omega) ?_;exact cB [] ⟨rfl,rfl,rfl,rfl,c6 (n:=l.length) a,bP⟩ trivial
  have b1:((l.getD k aq).node==node)=false:=b1;have hi:gz node t (l.getD k aq)=false:=by unfold gz;rw[b1];simp
  rw[hi,bQ (by decide),Int.zero_add]at hn;refine cH zE ⟨(k+1,n),a,hn,h0⟩ (by show l.length-(k+1)<l.length-k;omega) ?_;exact cB [] ⟨rfl,rfl,rfl,rfl,c6 (n:=l.length) a,bP⟩ trivial
 have a:k=l.length:=by have a:decide ((k:Int)<(l.length:Int))=false:=a;have:=eY a;omega
 subst a;rw[ar,e7]at hn;refine dt zE rfl zE ?_;exact zG zE (aj rfl rfl (dY ((by show n=_;omega))))
theorem alR(p:fE)(l:List di)(hq:p.qs.length<=1000000)(hl:l.length<=1000)(hs:∀ h∈l,sF p h):cJ ai 166 [.agg p.cells,jz l] (.bool (l.all (rz p l)),none):=by
 refine c8 CM Tryz.func166 rfl ?_;refine zG zE ?_;refine ak (σ:={ k:Nat // k<=l.length/\ ∀i,i<k->rz p l (l.getD i aq)=true }) (λk=>[(1,jz l),(2,.ptr 2 0),(5,.int .i64 (k.1:Nat))]) (λ_=>[(2,.box p.cells)]) (λk=>l.length-k.1) ⟨0,av _,λi hi=>by omega⟩ ?_ ?_
 .exact cB [] ⟨rfl,rfl,rfl,bP⟩ ⟨bV,bP⟩
 rintro⟨k,(hk:k<=l.length),hn⟩;refine cK zE (λa=>?_) (λa=>?_)
 .have a:k<l.length:=by have a:decide ((k:Int)<(l.length:Int))=true:=a;have:=fv a;omega
  have Fk:=hs (l.getD k aq) (by rw[cV a];exact au _);have hno:=Fk.node
  repeat' (first|(refine cN zE ?_)|(refine bU zE (cZ a) ?_)|(refine cj zE (alQ l (l.getD k aq).node (l.getD k aq).fr hl (λh hh=>(hs h hh).size)) ?_)|(refine bU zE (by show decide (0<=(l.getD k aq).node/\(l.getD k aq).node<(p.qs.length:Int))=true;exact cw hno) ?_))
  refine cK zE (λb=>?_) (λb=>?_)
  .have b:e7 (l.getD k aq).node (l.getD k aq).fr l>p.qs.getD (l.getD k aq).node.toNat aq:=by have b:decide (e7 (l.getD k aq).node (l.getD k aq).fr l>p.qs.getD (l.getD k aq).node.toNat aq)=true:=b;exact fv b
   exact zG zE (al rfl zE (aj rfl rfl (fk ((by symm;rw[List.all_eq_false];exact⟨l.getD k aq,by rw[cV a];exact au _,by unfold rz;rw[dN];omega⟩)))))
  have b:¬ e7 (l.getD k aq).node (l.getD k aq).fr l>p.qs.getD (l.getD k aq).node.toNat aq:=by have b:decide (e7 (l.getD k aq).node (l.getD k aq).fr l>p.qs.getD (l.getD k aq).node.toNat aq)=false:=b;exact eY b
  refine cH zE ⟨k+1,a,λi hi=>by rcases Nat.lt_or_ge i k with h|h;exact hn i h;rw[show i=k by omega];unfold rz;rw[dN];omega⟩ (dp a) ?_;exact cB [] ⟨rfl,rfl,c6 (n:=l.length) a,bP⟩ ⟨bV,bP⟩
 have a:k=l.length:=by have a:decide ((k:Int)<(l.length:Int))=false:=a;have:=eY a;omega
 subst a;refine dt zE rfl zE ?_;exact zG zE (aj rfl rfl (fk ((by symm;rw[List.all_eq_true];intro x hx;obtain⟨i,hi,rfl⟩:=List.getElem_of_mem hx;rw[<-cV hi];exact hn i hi))))
theorem alS(p:fE)(l:List di)(h1:p.qs.length<=1000000)(h2:p.bW.length<=1000000)(h3:l.length<=1000000):cJ ai 104 [.agg p.cells,jz l] (.int .i64 (ui p l),none):=by
 obtain⟨R,hR⟩:∃ R,R=ui p l:=⟨_,rfl⟩;rw[<-hR];unfold ui at hR;refine c8 CM Tryz.func104 rfl ?_;refine cj zE (Ki p h1 h2) (cK zE (λa1=>?_) (λa1=>?_))
 .rw[bS a1]at hR;exact cL zE rfl rfl (dY ((hR.symm)))
 rw[bQ (by rw[show(jB p !=0)=false from a1];decide)]at hR;refine cK zE (λa2=>?_) (λa2=>?_)
 .rw[bS a2]at hR;exact cL zE rfl rfl (dY ((hR.symm)))
 rw[bQ (by rw[show decide ((l.length:Int)>512)=false from a2];decide)]at hR;have a2:l.length<=512:=by have a2:decide ((l.length:Int)>512)=false:=a2;have:=eY a2;omega
 refine zG zE ?_;refine ak (σ:={ k:Nat // k<=l.length/\nX p none l=nX p (yC l k) (l.drop k) }) (λk=>[(1,jz l),(2,.ptr 2 0),(5,.int .i64 (k.1:Nat))]) (λ_=>[(2,.box p.cells)]) (λk=>l.length-k.1) ⟨0,av _,rfl⟩ ?_ ?_
 .exact cB [] ⟨rfl,rfl,rfl,bP⟩ ⟨bV,bP⟩
 rintro⟨k,(hk:k<=l.length),hc⟩;refine cK zE (λa=>?_) (λa=>?_)
 .have a:k<l.length:=by have a:decide ((k:Int)<(l.length:Int))=true:=a;have:=fv a;omega
  rw[alL a]at hc
  repeat' (first|(refine bU zE (cZ a) ?_)|(refine cN zE ?_)|(refine cj zE (alN p (l.getD k aq)) ?_))
  refine cK zE (λb1=>?_) (λb1=>?_)
  .rw[bS b1]at hc;rw[hc,bS (by decide)]at hR;exact zG zE (al rfl zE (aj rfl rfl (dY ((hR.symm)))))
  rw[bQ (by rw[show(!qv p (l.getD k aq))=false from b1];decide)]at hc
  repeat' (first|(refine cN zE ?_))
  refine cK zE (λb2=>?_) (λb2=>?_)
  .obtain⟨j,rfl⟩:∃ j,k=j+1:=⟨k-1,by have b2:decide ((k:Int)>0)=true:=b2;have:=fv b2;omega⟩;have e1:af.wrap (((j+1:Nat):Int)-1)=(j:Int):=by rw[dG];omega
   have hn:decide (0<=af.wrap (((j+1:Nat):Int)-1)/\af.wrap (((j+1:Nat):Int)-1)<(l.length:Int))=true:=by rw[e1];exact cw (by omega)
   have hg:l.getD (af.wrap (((j+1:Nat):Int)-1)).toNat aq=l.getD j aq:=by rw[e1];rfl
   rw[show yg (yC l (j+1)) (l.getD (j+1) aq)=kT (l.getD (j+1) aq) (l.getD j aq)from rfl]at hc
   repeat' (first|(refine cN zE ?_)|(refine bU zE (cZ a) ?_)|(refine bU zE (hn) ?_)|(refine cj zE ((alP (l.getD (j+1) aq) (l.getD j aq)).le (db.cons (bY.refl _) (db.cons (bY.of (by show A.agg (di.cells (l.getD (af.wrap (((j+1:Nat):Int)-1)).toNat aq))=_;rw[hg])) db.nil))) ?_))
   refine cK zE (λb3=>?_) (λb3=>?_)
   .rw[bS b3]at hc;rw[hc,bS (by decide)]at hR;exact zG zE (al rfl zE (aj rfl rfl (dY ((hR.symm)))))
   rw[bQ (by rw[show kT (l.getD (j+1) aq) (l.getD j aq)=false from b3];decide)]at hc;refine cH zE ⟨j+1+1,a,hc⟩ (by show l.length-(j+1+1)<l.length-(j+1);omega) ?_;exact cB [] ⟨rfl,rfl,c6 (k:=j+1) (n:=l.length) a,bP⟩ ⟨bV,bP⟩
  have b2:k=0:=by have b2:decide ((k:Int)>0)=false:=b2;have:=eY b2;omega
  subst b2;rw[bQ (by simp[yC,yg])]at hc;refine cH zE ⟨0+1,a,hc⟩ (dp a) ?_;exact cB [] ⟨rfl,rfl,c6 (k:=0) (n:=l.length) a,bP⟩ ⟨bV,bP⟩
 have a:k=l.length:=by have a:decide ((k:Int)<(l.length:Int))=false:=a;have:=eY a;omega
 subst a;rw[ar,nX]at hc;rw[hc,bQ (by decide)]at hR;refine dt zE rfl zE (cj zE (alR p l h1 (by omega) (Kd hc).1) (cK zE (λb=>?_) (λb=>?_)))
 .have b:(!l.all (rz p l))=true:=b;rw[bQ (by rw[show l.all (rz p l)=false by simpa using b];decide)]at hR;exact cL zE rfl rfl (dY ((hR.symm)))
 have b:(!l.all (rz p l))=false:=b;rw[bS (by simpa using b)]at hR;exact cL zE rfl rfl (dY ((hR.symm)))
end Go.Proofs.YtjhmdfofhnijeaaGreatDoor
