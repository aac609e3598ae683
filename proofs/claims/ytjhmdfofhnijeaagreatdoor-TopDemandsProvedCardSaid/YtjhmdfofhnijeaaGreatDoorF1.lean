import Derived.Test.YtjhmdfofhnijeaaGreatDoorP2
open Go.IntKind renaming i64->aa
open Go.Proofs.Tryz renaming prog->ab, func79->ae, func78->af, func129->ai, func80->aj
open Go.Sy.NS renaming loop->ak, ret->al, ub->aq, fin->ar
open Inhabited renaming default->au
open Int renaming toNat_natCast->av, le_refl->ay, le_trans->az, add_zero->aA
open List renaming getElem_mem->aB, length_cons->aC, mem_cons_of_mem->aD, mem_cons_self->aF, length_filter_le->aG, getD_eq_getElem?_getD->aH, range->aI, length_append->aJ, length_range->aK, replicate->aL, length_set->aM, length_nil->aN, append_nil->aO, take_length->aP, mem_cons->aQ, mem_singleton->aR, length_replicate->aS, mem_append_left->aT, filter_append->aU, append_assoc->aV, range_succ->aW, nodup_cons->aX, pairwise_iff_getElem->aY, mem_singleton_self->aZ, find?_cons_of_neg->a6, mem_of_mem_take->a7, getElem_of_mem->a8, drop_length->ba, mem_append->bc, length->bd
open Nat renaming not_lt_zero->bg, zero_le->bh, lt_one_iff->bj, lt_succ_self->bk, le_refl->bl, zero_lt_one->bn, lt_of_succ_lt_succ->bp, lt_or_ge->bq, add_comm->br, succ_lt_succ->bu, succ_pos->bw
open Ne renaming symm->bx
set_option linter.all false
namespace Go.Proofs.YtjhmdfofhnijeaaGreatDoor
open Go.Sy Go.Mb
set_option maxRecDepth 100000
set_option maxHeartbeats 4000000
theorem An(k n:Int):cJ ab 123 [.int .i64 k,.int .i64 n] (.bool (decide (k>=0)&&decide (k<n)),none):=by
 refine c8 CM Tryz.func123 rfl ?_
 repeat' (first|(refine cK zE (λh=>?_) (λh=>?_))|(refine cN zE ?_)|(exact cL zE rfl rfl (fk ((by simp only[*,Bool.true_and,Bool.false_and])))))
theorem Ao{k n:Int}(h:0<=k/\k<n):(decide (k>=0)&&decide (k<n))=true:=by simp;omega
theorem ahV(n:Nat)(a:dR)(h:mh n a):cJ ab 122 [.agg a.cells,.ip 1 (bT [.int .i64 (n:Nat)])] (.bool false,none):=by
 have c1:=An a.fr n;rw[Ao h.fr]at c1;have c2:=An a.to n;rw[Ao h.to]at c2;have h1:=h.ne;have h2:=h.cap;refine c8 CM Tryz.func122 rfl ?_;exact cj zE (c1) (b8 zE (rfl) (cj zE (c2) (b8 zE (rfl) (b8 zE (jd h1) (b8 zE (by show decide (a.cap<0)=false;exact dQ (by omega)) (cL zE rfl rfl (fk ((by show decide (a.cap>1099511627776)=false;exact dQ (by omega))))))))))
theorem ahW(l:List dR)(hl:l.length<=1000000)(f c:Nat)(el:Nat->A)(p:dR->Bool)(hc:∀ x,x∈l->cJ ab f [.agg (dR.cells x),.ip c el] (.bool (p x),none)):cJ ab 186 [fL l,.fn f [.ip c el]] (.int .i64 (idx p l),none):=by
 refine c8 CM Tryz.func186 rfl ?_;refine zG zE ?_;refine ak (σ:={ k:Nat // k<=l.length/\ ∀i,i<k->p (l.getD i au)=false }) (λk=>[(0,fL l),(1,.fn f [.ip c el]),(7,.int .i64 l.length),(8,.int .i64 k.1)]) (λ_=>[]) (λk=>l.length-k.1) ⟨0,bh _,λi hi=>by omega⟩ ?_ ?_
 .exact cB [] ⟨rfl,rfl,rfl,rfl,bP⟩ trivial
 rintro⟨k,(hk:k<=l.length),hn⟩;refine cK zE (λa=>?_) (λa=>?_)
 .have a:k<l.length:=by have a:decide ((k:Int)<(l.length:Int))=true:=a;have:=fv a;omega
  refine bU zE (by show decide (0<=(k:Int)/\(k:Int)<(l.length:Int))=true;exact cw (by omega)) (cj zE (hc (l.getD k au) (by rw[cV a];exact aB _)) (cK zE (λb=>?_) (λb=>?_)))
  .exact zG zE (NS.gu rfl zE (al rfl rfl (dY (((Ei a b hn).symm)))))
  refine cH zE ⟨k+1,a,λi hi=>by rcases bq i k with h|h;exact hn i h;rw[show i=k by omega];exact b⟩ (dp a) ?_;exact cB [] ⟨rfl,rfl,rfl,c6 (n:=l.length) a,bP⟩ trivial
 have a:k=l.length:=by have a:decide ((k:Int)<(l.length:Int))=false:=a;have:=eY a;omega
 subst a;refine dt zE rfl zE ?_;exact zG zE (al rfl rfl (dY (((Ej λi hi=>hn i hi).symm))))
theorem ahX(l:List dR)(hl:l.length<=1000000)(f c:Nat)(el:Nat->A)(p:dR->Bool)(hc:∀ x,x∈l->cJ ab f [.agg (dR.cells x),.ip c el] (.bool (p x),none)):cJ ab 121 [fL l,.fn f [.ip c el]] (.bool (l.any p),none):=by
 refine c8 CM Tryz.func121 rfl ?_;exact cj zE (ahW l hl f c el p hc) (cL zE rfl rfl (fk ((Ek p l))))
theorem El(n:Nat)(l:List dR)(hn:n<=2000)(hl:l.length<=20000)(h:∀ a∈l,mh n a):cJ ab 65 [.int .i64 (n:Nat),fL l] (.int .i64 0,none):=by
 have cc:=ahX l (by omega) 122 1 (bT [.int .i64 (n:Nat)]) (λ_=>false) λx hx=>ahV n x (h x hx);rw[show l.any (λ_=>false)=false by rw[List.any_eq_false];intro x _;simp]at cc;refine c8 CM Tryz.func65 rfl ?_;exact b8 zE (by show decide ((n:Int)<0)=false;exact dQ (by omega)) (b8 zE (by show decide ((n:Int)>2000)=false;exact dQ (by omega)) (b8 zE (by show decide ((l.length:Int)>20000)=false;exact dQ (by omega)) (cj zE (cc) (b8 zE (rfl) (cL zE rfl rfl (bY.refl _))))))
theorem Il(n s t:Nat)(hs:s<n)(ht:t<n)(hst:s≠t):cJ ab 66 [.int .i64 (n:Nat),.int .i64 (s:Nat),.int .i64 (t:Nat)] (.int .i64 0,none):=by
 have c1:=An s n;rw[Ao (by omega)]at c1;have c2:=An t n;rw[Ao (by omega)]at c2;refine c8 CM Tryz.func66 rfl ?_;exact cj zE (c1) (b8 zE (rfl) (cj zE (c2) (b8 zE (rfl) (b8 zE (jd (by omega)) (cL zE rfl rfl (bY.refl _))))))
def eE(f:List Int)(k:Nat):Int:=f.getD k 0
theorem Em{g:Nat->Int}{b:Int}:∀ {m:Nat},(∀k,k<m-> -b<=g k/\g k<=b)-> -(b*m)<=ez g m/\ez g m<=b*m
 |0,_=>by simp[ez]
 |m+1,h=>by
  have h1:=Em (m:=m) λk hk=>h k (by omega);have h2:=h m (by omega);simp only[ez];have e:b*((m+1:Nat):Int)=b*m+b:=by push_cast;rw[Int.mul_add,Int.mul_one]
  rw[e];omega
theorem RD(n:Nat)(l:List dR)(f:List Int)(s:Nat)(hl:l.length<=20000)(h:∀ a∈l,mh n a)(hf:f.length=l.length)(hb:∀ k,k<l.length->0<=f.getD k 0/\f.getD k 0<=1099511627776):cJ ab 118 [fL l,eD f,.int .i64 (s:Nat)] (.int .i64 (dL (b9 l) (eE f) s),none):=by
 refine c8 CM Tryz.func118 rfl ?_;refine eG zE l.length (λk=>[(1,eD f),(2,.int .i64 (s:Nat)),(7,.int .i64 (ez (gk (b9 l) (eE f) s) k)),(10,fL l),(11,.int .i64 l.length),(12,.int .i64 (k:Nat))]) (λ_=>[]) ?_ ?_
 .exact cB [] ⟨rfl,rfl,rfl,rfl,rfl,rfl,bP⟩ trivial
 rintro⟨k,(hk:k<=l.length)⟩;refine cK zE (λa=>?_) (λa=>?_)
 .have a:k<l.length:=by have a:decide ((k:Int)<(l.length:Int))=true:=a;have:=fv a;omega
  have ok:=h (l.getD k au) (by rw[cV a];exact aB _);have iu:=ok.fr;have jK:=ok.to;have hne:=ok.ne;have hbk:=hb k a;have En:f.getD k au=f.getD k 0:=rfl;have hbd:=Em (g:=gk (b9 l) (eE f) s) (b:=1099511627776) (m:=k) λi hi=>by
   have:=hb i (by omega);have Im:eE f i=f.getD i 0:=rfl;unfold gk;rw[Im];split<;>split<;>omega
  have sr:1099511627776*(k:Int)<=1099511627776*20000:=by omega
  have hs:ez (gk (b9 l) (eE f) s) (k+1)=ez (gk (b9 l) (eE f) s) k+((if(l.getD k au).fr.toNat=s then f.getD k 0 else 0)-(if(l.getD k au).to.toNat=s then f.getD k 0 else 0)):=rfl;refine bU zE (cZ a) (cK zE (λb1=>?_) (λb1=>?_))
  .have b1:(l.getD k au).fr=(s:Int):=by have b1:((l.getD k au).fr==(s:Int))=true:=b1;exact ie b1
   rw[bS (by omega),bQ (by omega)]at hs;have e1:aa.wrap (ez (gk (b9 l) (eE f) s) k+f.getD k au)=ez (gk (b9 l) (eE f) s) (k+1):=by rw[hs,En,dG];omega
   refine bU zE (by show decide (0<=(k:Int)/\(k:Int)<(f.length:Int))=true;exact cw (by omega)) (b8 zE (by show((l.getD k au).to==(s:Int))=false;exact jd (by omega)) (cH zE ⟨k+1,a⟩ (dp a) ?_));exact cB [] ⟨rfl,rfl,c9 rfl e1,rfl,rfl,c6 (n:=l.length) a,bP⟩ trivial
  have b1:(l.getD k au).fr≠(s:Int):=by have b1:((l.getD k au).fr==(s:Int))=false:=b1;exact ne_of_beq_false b1
  rw[bQ (by omega)]at hs;refine cK zE (λb2=>?_) (λb2=>?_)
  .have b2:(l.getD k au).to=(s:Int):=by have b2:((l.getD k au).to==(s:Int))=true:=b2;exact ie b2
   rw[bS (by omega)]at hs;have e1:aa.wrap (ez (gk (b9 l) (eE f) s) k-f.getD k au)=ez (gk (b9 l) (eE f) s) (k+1):=by rw[hs,En,dG];omega
   refine bU zE (by show decide (0<=(k:Int)/\(k:Int)<(f.length:Int))=true;exact cw (by omega)) (cH zE ⟨k+1,a⟩ (dp a) ?_);exact cB [] ⟨rfl,rfl,c9 rfl e1,rfl,rfl,c6 (n:=l.length) a,bP⟩ trivial
  have b2:(l.getD k au).to≠(s:Int):=by have b2:((l.getD k au).to==(s:Int))=false:=b2;exact ne_of_beq_false b2
  rw[bQ (by omega)]at hs;refine cH zE ⟨k+1,a⟩ (dp a) ?_;exact cB [] ⟨rfl,rfl,c9 rfl (by show ez (gk (b9 l) (eE f) s) k=ez (gk (b9 l) (eE f) s) (k+1);rw[hs];omega),rfl,rfl,c6 (n:=l.length) a,bP⟩ trivial
 have a:k=l.length:=by have a:decide ((k:Int)<(l.length:Int))=false:=a;have:=eY a;omega
 subst a;refine dt zE rfl zE ?_;exact zG zE (al rfl rfl (bY.refl _))
noncomputable def Io:Env:={ P:=ab,lJ:=lK [],mu:=[78] }
theorem RE:ib Io:=zK (tab:=[]) (λp hp=>by cases hp)
noncomputable def Eo:Cx:={ E:=Io,inl:=[124,76],ok:=RE }
def ed(L:Lg)(v k:Nat):List Nat:=(aI k).filter λj=>L.lf j==v
def dI(L:Lg)(v k:Nat):List Nat:=(aI k).filter λj=>L.lt j==v
def kp(L:Lg)(j:Nat):List A:=[.int .i64 (j:Nat),.int .i64 (L.lf j:Nat),.int .i64 (L.lt j:Nat)]
def pg(L:Lg)(f:Nat->List Nat)(n:Nat):Ob:=.rr 174 180 3 n (λv=>(f v).length) (λv=>cO (kp L) (f v)) none
def RF:List (Nat×Ob)->Nat->Ob
 |[],_=>.de
 |(k,o)::os,i=>match Nat.beq k i with|true=>o|false=>RF os i
def RG(os:List (Nat×Ob)):Nat->Nat->List Ob
 |0,_=>[]
 |n+1,i=>RF os i::RG os n (i+1)
theorem RH(L:Lg)(v k:Nat):ed L v (k+1)=ed L v k++if L.lf k=v then[k]else[]:=by
 unfold ed;rw[aW,aU];congr 1;by_cases h:L.lf k=v
 .simp[h]
 simp[h]
theorem RI(L:Lg)(v k:Nat):dI L v (k+1)=dI L v k++if L.lt k=v then[k]else[]:=by
 unfold dI;rw[aW,aU];congr 1;by_cases h:L.lt k=v
 .simp[h]
 simp[h]
theorem RJ{α:Type}[Inhabited α]{cells:α->List A}{l m:List α}{n:Nat}{ey:Nat->Nat->A}{c:Nat}(hn:l.length=n)(he:∀ i,i<m.length-> ∀j,j<c->ey i j=cO cells m i j)(i:Nat)(hi:i<n+m.length)(j:Nat)(hj:j<c):(if i<n then cO cells l i j else ey (i-n) j)=cO cells (l++m) i j:=by
 subst hn;rw[<-Ep];split
 .rfl
 exact he _ (by omega) j hj
theorem Ip(L:Lg)(k i:Nat):vC (λv=>(ed L v k).length) (L.lf k) ((ed L (L.lf k) k).length+1) i=(ed L i (k+1)).length:=by
 rw[RH,aJ];simp only[vC];split
 .rename_i e;subst e;rw[bS rfl];rfl
 rename_i e;rw[bQ (λq=>e q.symm)];rfl
theorem Iq(L:Lg)(k:Nat){ex:Nat->Nat->A}(hx:∀ q,q<1-> ∀j,j<3->ex q j=cO (kp L) [k] q j)(i q j:Nat)(hq:q<(ed L i (k+1)).length)(hj:j<3):
  vD (λv=>cO (kp L) (ed L v k)) (L.lf k) (λq j=>if q<(ed L (L.lf k) k).length then cO (kp L) (ed L (L.lf k) k) q j else ex (q-(ed L (L.lf k) k).length) j) i q j=cO (kp L) (ed L i (k+1)) q j:=by
 rw[RH]at hq⊢;simp only[vD];split
 .rename_i e;subst e;rw[bS rfl]at hq⊢;rw[aJ]at hq;exact RJ (c:=3) (m:=[k]) rfl hx q hq j hj
 rename_i e;rw[bQ (λq=>e q.symm),aO]
theorem Ir(L:Lg)(k i:Nat):vC (λv=>(dI L v k).length) (L.lt k) ((dI L (L.lt k) k).length+1) i=(dI L i (k+1)).length:=by
 rw[RI,aJ];simp only[vC];split
 .rename_i e;subst e;rw[bS rfl];rfl
 rename_i e;rw[bQ (λq=>e q.symm)];rfl
theorem Is(L:Lg)(k:Nat){ex:Nat->Nat->A}(hx:∀ q,q<1-> ∀j,j<3->ex q j=cO (kp L) [k] q j)(i q j:Nat)(hq:q<(dI L i (k+1)).length)(hj:j<3):
  vD (λv=>cO (kp L) (dI L v k)) (L.lt k) (λq j=>if q<(dI L (L.lt k) k).length then cO (kp L) (dI L (L.lt k) k) q j else ex (q-(dI L (L.lt k) k).length) j) i q j=cO (kp L) (dI L i (k+1)) q j:=by
 rw[RI]at hq⊢;simp only[vD];split
 .rename_i e;subst e;rw[bS rfl]at hq⊢;rw[aJ]at hq;exact RJ (c:=3) (m:=[k]) rfl hx q hq j hj
 rename_i e;rw[bQ (λq=>e q.symm),aO]
def gO(n:Nat)(L:Lg)(k:Nat)(B P Q:Nat)(cl:A)(os:List (Nat×Ob)):List Ob:=RG (os++[(P,pg L (λv=>ed L v k) n),(Q,pg L (λv=>dI L v k) n),(114,.box [.rv P n,.rv Q n,cl])]) B 0
def xR(l:List dR):List (Nat×Ob):=[(19,.row 3 1 l.length λ_ j=>bT [.int .i64 0] j),(68,.box [fL l]),(69,.box [.own 19]),(109,.dead),(111,.dead)]
def Iu(F:List Int):List (Nat×Ob):=[(14,.box [.own 37]),(37,.row 3 1 F.length (cO nC F)),(95,.dead),(97,.dead)]
theorem ahY  (n:Nat) (l:List dR) (a:dR) (k:Nat) (hn:n<=2000) (hk:k<=40000) (h1:(lf (b9 l) k)<n) (h2:(lt (b9 l) k)<n):
  pb ab 78 [.ptr 114 0,.int .i64 (k:Nat),.int .i64 ((lf (b9 l) k):Nat),.int .i64 ((lt (b9 l) k):Nat)] (gO n (en (b9 l)) k 115 110 112 (.fn 187 [.ptr 68 0,.ptr 69 0]) (xR l++[(73,Ob.box a.cells)])) 115 (.cG []) (ra (oK 115 (gO n (en (b9 l)) k 115 110 112 (.fn 187 [.ptr 68 0,.ptr 69 0]) (xR l++[(73,Ob.box a.cells)]))) [(110,.dead),(112,.dead),(116,pg (en (b9 l)) (λv=>ed (en (b9 l)) v (k+1)) n),(117,pg (en (b9 l)) (λv=>dI (en (b9 l)) v (k+1)) n),(114,.box [.rv 116 n,.rv 117 n,(.fn 187 [.ptr 68 0,.ptr 69 0])])]):=by
 have hmr:∀ f:Nat->Bool,decide ((((aI k).filter f).length+1)*(23+1+1)<=du)=true:=λf=>cw (by
  have:=aG f (aI k);simp only[aK]at this;simp only[du];omega)
 refine Iw Eo rfl (by kernel_rfl) af rfl ?_;refine Sat.wk (((oL 110 170 171 ((lf (b9 l) k)) rfl h1 rfl rfl (by decide)).cell 114 0 rfl rfl rfl).trans ((oL 112 172 173 ((lt (b9 l) k)) rfl h2 rfl rfl (by decide)).cell 114 1 rfl rfl rfl)).gv ?_;refine cN zE ?_;refine bU zE (cw ⟨by omega,by omega⟩) (bU zE (cw rfl) (bU zE (hmr _) (bU zE (cw ⟨by omega,by omega⟩) (bU zE (cw rfl) (bU zE (hmr _) (bU zE (cw ⟨by omega,by omega⟩) (bU zE (cw rfl) (bU zE (cw ⟨by omega,by omega⟩) (bU zE (cw rfl) ?_)))))))));refine zG zE (ar rfl ((((nS 170 190 147 ((lf (b9 l) k)) rfl rfl rfl).cell 114 0 rfl rfl rfl).trans ((nS 172 191 157 ((lt (b9 l) k)) rfl rfl rfl).cell 114 1 rfl rfl rfl)).gv.trans (ph (ts:=[]) [(116,190),(117,191)] rfl trivial ⟨rfl,rfl,⟨_,_,_,rfl,λi hi=>⟨?_,λq hq j hj=>?_⟩,bP⟩,⟨_,_,_,rfl,λi hi=>⟨?_,λq hq j hj=>?_⟩,bP⟩,⟨_,rfl,?_⟩,bP⟩ (Er (by kernel_rfl)) (by kernel_rfl))) rfl (bY.refl _))
 .exact Ip _ _ _
 .exact Iq _ _ (λq hq j hj=>row_one (cells:=kp (en (b9 l))) (x:=k) (c:=3) rfl q hq j hj) _ _ _ hq hj
 .exact Ir _ _ _
 .exact Is _ _ (λq hq j hj=>row_one (cells:=kp (en (b9 l))) (x:=k) (c:=3) rfl q hq j hj) _ _ _ hq hj
 exact⟨_,_,rfl,rfl,_,_,rfl,rfl,_,_,rfl,rfl,rfl⟩
theorem ahZ  (n:Nat) (l:List dR) (a:dR) (k:Nat) (hn:n<=2000) (hk:k<=40000) (h1:(lf (b9 l) k)<n) (h2:(lt (b9 l) k)<n):
  pb ab 78 [.ptr 114 0,.int .i64 (k:Nat),.int .i64 ((lf (b9 l) k):Nat),.int .i64 ((lt (b9 l) k):Nat)] (gO n (en (b9 l)) k 118 116 117 (.fn 187 [.ptr 68 0,.ptr 69 0]) (xR l++[(110,Ob.dead),(112,Ob.dead),(73,Ob.box a.cells)])) 118 (.cG []) (ra (oK 118 (gO n (en (b9 l)) k 118 116 117 (.fn 187 [.ptr 68 0,.ptr 69 0]) (xR l++[(110,Ob.dead),(112,Ob.dead),(73,Ob.box a.cells)]))) [(116,.dead),(117,.dead),(119,pg (en (b9 l)) (λv=>ed (en (b9 l)) v (k+1)) n),(120,pg (en (b9 l)) (λv=>dI (en (b9 l)) v (k+1)) n),(114,.box [.rv 119 n,.rv 120 n,(.fn 187 [.ptr 68 0,.ptr 69 0])])]):=by
 have hmr:∀ f:Nat->Bool,decide ((((aI k).filter f).length+1)*(23+1+1)<=du)=true:=λf=>cw (by
  have:=aG f (aI k);simp only[aK]at this;simp only[du];omega)
 refine Iw Eo rfl (by kernel_rfl) af rfl ?_;refine Sat.wk (((oL 116 170 171 ((lf (b9 l) k)) rfl h1 rfl rfl (by decide)).cell 114 0 rfl rfl rfl).trans ((oL 117 172 173 ((lt (b9 l) k)) rfl h2 rfl rfl (by decide)).cell 114 1 rfl rfl rfl)).gv ?_;refine cN zE ?_;refine bU zE (cw ⟨by omega,by omega⟩) (bU zE (cw rfl) (bU zE (hmr _) (bU zE (cw ⟨by omega,by omega⟩) (bU zE (cw rfl) (bU zE (hmr _) (bU zE (cw ⟨by omega,by omega⟩) (bU zE (cw rfl) (bU zE (cw ⟨by omega,by omega⟩) (bU zE (cw rfl) ?_)))))))));refine zG zE (ar rfl ((((nS 170 190 150 ((lf (b9 l) k)) rfl rfl rfl).cell 114 0 rfl rfl rfl).trans ((nS 172 191 160 ((lt (b9 l) k)) rfl rfl rfl).cell 114 1 rfl rfl rfl)).gv.trans (ph (ts:=[]) [(119,190),(120,191)] rfl trivial ⟨rfl,rfl,⟨_,_,_,rfl,λi hi=>⟨?_,λq hq j hj=>?_⟩,bP⟩,⟨_,_,_,rfl,λi hi=>⟨?_,λq hq j hj=>?_⟩,bP⟩,⟨_,rfl,?_⟩,bP⟩ (Er (by kernel_rfl)) (by kernel_rfl))) rfl (bY.refl _))
 .exact Ip _ _ _
 .exact Iq _ _ (λq hq j hj=>row_one (cells:=kp (en (b9 l))) (x:=k) (c:=3) rfl q hq j hj) _ _ _ hq hj
 .exact Ir _ _ _
 .exact Is _ _ (λq hq j hj=>row_one (cells:=kp (en (b9 l))) (x:=k) (c:=3) rfl q hq j hj) _ _ _ hq hj
 exact⟨_,_,rfl,rfl,_,_,rfl,rfl,_,_,rfl,rfl,rfl⟩
theorem ah0(F:List Int)(n:Nat)(l:List dR)(a:dR)(k:Nat)(hn:n<=2000)(hk:k<=40000)(h1:((b9 l).fr k)<n)(h2:((b9 l).to k)<n):
  pb ab 78 [.ptr 114 0,.int .i64 (k:Nat),.int .i64 (((b9 l).fr k):Nat),.int .i64 (((b9 l).to k):Nat)] (gO n (fH (b9 l)) k 115 110 112 (.fn 77 [.ptr 14 0]) (Iu F++[(17,Ob.box a.cells)])) 115 (.cG []) (ra (oK 115 (gO n (fH (b9 l)) k 115 110 112 (.fn 77 [.ptr 14 0]) (Iu F++[(17,Ob.box a.cells)]))) [(110,.dead),(112,.dead),(116,pg (fH (b9 l)) (λv=>ed (fH (b9 l)) v (k+1)) n),(117,pg (fH (b9 l)) (λv=>dI (fH (b9 l)) v (k+1)) n),(114,.box [.rv 116 n,.rv 117 n,(.fn 77 [.ptr 14 0])])]):=by
 have hmr:∀ f:Nat->Bool,decide ((((aI k).filter f).length+1)*(23+1+1)<=du)=true:=λf=>cw (by
  have:=aG f (aI k);simp only[aK]at this;simp only[du];omega)
 refine Iw Eo rfl (by kernel_rfl) af rfl ?_;refine Sat.wk (((oL 110 170 171 (((b9 l).fr k)) rfl h1 rfl rfl (by decide)).cell 114 0 rfl rfl rfl).trans ((oL 112 172 173 (((b9 l).to k)) rfl h2 rfl rfl (by decide)).cell 114 1 rfl rfl rfl)).gv ?_;refine cN zE ?_;refine bU zE (cw ⟨by omega,by omega⟩) (bU zE (cw rfl) (bU zE (hmr _) (bU zE (cw ⟨by omega,by omega⟩) (bU zE (cw rfl) (bU zE (hmr _) (bU zE (cw ⟨by omega,by omega⟩) (bU zE (cw rfl) (bU zE (cw ⟨by omega,by omega⟩) (bU zE (cw rfl) ?_)))))))));refine zG zE (ar rfl ((((nS 170 190 147 (((b9 l).fr k)) rfl rfl rfl).cell 114 0 rfl rfl rfl).trans ((nS 172 191 157 (((b9 l).to k)) rfl rfl rfl).cell 114 1 rfl rfl rfl)).gv.trans (ph (ts:=[]) [(116,190),(117,191)] rfl trivial ⟨rfl,rfl,⟨_,_,_,rfl,λi hi=>⟨?_,λq hq j hj=>?_⟩,bP⟩,⟨_,_,_,rfl,λi hi=>⟨?_,λq hq j hj=>?_⟩,bP⟩,⟨_,rfl,?_⟩,bP⟩ (Er (by kernel_rfl)) (by kernel_rfl))) rfl (bY.refl _))
 .exact Ip _ _ _
 .exact Iq _ _ (λq hq j hj=>row_one (cells:=kp (fH (b9 l))) (x:=k) (c:=3) rfl q hq j hj) _ _ _ hq hj
 .exact Ir _ _ _
 .exact Is _ _ (λq hq j hj=>row_one (cells:=kp (fH (b9 l))) (x:=k) (c:=3) rfl q hq j hj) _ _ _ hq hj
 exact⟨_,_,rfl,rfl,_,_,rfl,rfl,_,_,rfl,rfl,rfl⟩
theorem bY.lr{k:IntKind}{x y:Int}(h:x=y):bY (.int k x) (.int k y):=by subst h;exact bY.refl _
theorem ah1(l:List dR)(k:Nat):lf (b9 l) (2*k)=(l.getD k au).fr.toNat/\lt (b9 l) (2*k)=(l.getD k au).to.toNat:=by
 unfold lf lt;rw[bS (by omega),bS (by omega),show 2*k/2=k by omega];exact⟨rfl,rfl⟩
theorem ah2(l:List dR)(k:Nat):lf (b9 l) (2*k+1)=(l.getD k au).to.toNat/\lt (b9 l) (2*k+1)=(l.getD k au).fr.toNat:=by
 unfold lf lt;rw[bQ (by omega),bQ (by omega),show(2*k+1)/2=k by omega];exact⟨rfl,rfl⟩
def dh(F:List Int)(k:Nat):Int:=F.getD k 0
structure Ix(l:List dR)(F:List Int):Prop where
 len:F.length=l.length
 dv:∀ a∈l,0<=a.cap/\a.cap<=1099511627776
 c7:∀ k,k<l.length->0<=dh F k/\dh F k<=(l.getD k au).cap
def RK(L:Lg)(f:Nat->List Nat)(n:Nat):A:=.sl 1 n λi _=>.sl 3 (f i).length (cO (kp L) (f i))
def kq(L:Lg)(n:Nat)(cl:A):List A:=[RK L (λv=>ed L v L.m) n,RK L (λv=>dI L v L.m) n,cl]
def RM(l:List dR)(F:List Int):A:=.fn 187 [.ip 1 (bT [fL l]),.ip 1 (bT [eD F])]
theorem RN(l:List dR)(F:List Int)(h:Ix l F)(k:Nat)(hk:k/2<l.length)(hk2:k<=40000):cJ ab 187 [.int .i64 (k:Nat),.ip 1 (bT [fL l]),.ip 1 (bT [eD F])] (.int .i64 (rm (b9 l) (dh F) k),none):=by
 refine c8 CM Tryz.func187 rfl ?_;have e1:((k:Nat):Int).tmod 2=((k%2:Nat):Int):=rfl;have e2:aa.wrap (((k:Nat):Int).tdiv 2)=((k/2:Nat):Int):=by rw[show((k:Nat):Int).tdiv 2=((k/2:Nat):Int)from rfl];exact dG
 have hr:=h.c7 _ hk;have hc:=(h.dv (l.getD (k/2) au) (by rw[cV hk];exact aB _)).2;refine bU zE (rfl) (cK zE (λa=>?_) (λa=>?_))
 .have a:k%2=0:=by have a:((((k:Nat):Int).tmod 2)==0)=true:=a;rw[e1]at a;have:=ie a;omega
  refine cN zE ?_;refine bU zE (rfl) (bU zE (by show decide (0<=aa.wrap (((k:Nat):Int).tdiv 2)/\aa.wrap (((k:Nat):Int).tdiv 2)<(l.length:Int))=true;rw[e2];exact cw (by omega)) (bU zE (rfl) (bU zE (by show decide (0<=aa.wrap (((k:Nat):Int).tdiv 2)/\aa.wrap (((k:Nat):Int).tdiv 2)<(F.length:Int))=true;rw[e2,h.len];exact cw (by omega)) (cL zE rfl rfl (bY.lr ?_)))));show aa.wrap ((l.getD (aa.wrap (((k:Nat):Int).tdiv 2)).toNat au).cap-F.getD (aa.wrap (((k:Nat):Int).tdiv 2)).toNat au)=_;rw[e2];unfold rm;rw[bS a];exact wrap_i64 (by show-9223372036854775808<=(l.getD (k/2) au).cap-dh F (k/2);omega) (by show(l.getD (k/2) au).cap-dh F (k/2)<=9223372036854775807;omega)
 have a:¬ k%2=0:=by
  have a:((((k:Nat):Int).tmod 2)==0)=false:=a;rw[e1]at a;intro q;rw[q]at a;cases a
 refine bU zE (rfl) (bU zE (by show decide (0<=aa.wrap (((k:Nat):Int).tdiv 2)/\aa.wrap (((k:Nat):Int).tdiv 2)<(F.length:Int))=true;rw[e2,h.len];exact cw (by omega)) (cL zE rfl rfl (bY.lr ?_)));show F.getD (aa.wrap (((k:Nat):Int).tdiv 2)).toNat au=_;rw[e2];unfold rm;rw[bQ a];rfl
noncomputable def RO:Cx:={ E:=EM,inl:=[68,125,189],ok:=qf }
def kr(D:Nat->Int)(i _:Nat):A:=.int .i64 (D i)
def mi(D:Nat->Int)(n:Nat):Ob:=.row 3 1 n (kr D)
theorem gw{i n:Nat}(h:i<n):decide ((i:Int).toNat<n)=true:=cw (by omega)
theorem qg{D D':Nat->Int}{i:Nat}{x:Int}{a:Nat->A}(ha:a 0= .int .i64 x)(q j:Nat)(hj:j<1)(h:D' q=if q=i then x else D q):(if q=(i:Int).toNat/\0<=j/\j<0+(0+1)then a (j-0)else kr D q j)=kr D' q j:=by
 obtain rfl:j=0:=by omega
 simp only[kr,h,av];by_cases e:q=i
 .rw[bS ⟨e,bl _,by omega⟩,bS e];exact ha
 rw[bQ (λc=>e c.1),bQ e]
def nN(v:Nat):List A:=[.int .i64 (v:Nat)]
def kM(Q:List Nat):Ob:=.row 3 1 Q.length (cO nN Q)
structure rb(L:Lg)(R:Nat->Int)(n t:Nat)(f:Nat)(D:Nat->Int)(Q:List Nat):Prop where
 bf:nT L R n t D Q
 c:jY D n+Q.length<=f
 r:pj L R f (D,Q)=eL L R n t
 up:∀ v,D v+f<=n
theorem rb.start{L:Lg}{R:Nat->Int}{n t:Nat}(ht:t<n):rb L R n t n (lu t) [t] where
 bf:=by
  refine⟨by simp[lu],λv=>?_,λv hv=>?_,λv hv=>?_,λv hv=>?_,λv hv hne=>?_⟩
  .unfold lu;split<;>omega
  .unfold lu at hv;split at hv
   .assumption
   omega
  .unfold lu at hv;split at hv
   .rename_i e;rw[e];exact ht
   omega
  .simp only[aR]at hv;subst hv;simp[lu]
  unfold lu at hv;rw[bQ hne]at hv;omega
 c:=by
  have:=RP ht;simp only[aC,aN];omega
 r:=rfl
 up v:=by
  unfold lu;split<;>omega
theorem Ap(L:Lg)(R:Nat->Int)(v:Nat)(M:Int):∀ (l:List Nat) {D:Nat->Int} {Q:List Nat},(∀u,D u<=M)->0<=D v->D v+1<=M-> ∀u,(iE L R v (D,Q) l).1 u<=M
 |[],D,Q,h,hv,hM,u=>h u
 |j::l,D,Q,h,hv,hM,u=>by
  show(iE L R v (kN L R v (D,Q) j) l).1 u<=M;by_cases hc:0<R j/\D (L.lf j)<0
  .have e:kN L R v (D,Q) j=(ku D (L.lf j) (D v+1),Q++[L.lf j]):=bS hc;have hne:v≠L.lf j:=λe=>by rw[e]at hv;omega
   have ev:ku D (L.lf j) (D v+1) v=D v:=bQ hne;rw[e];refine Ap L R v M l (λw=>?_) (by rw[ev];exact hv) (by rw[ev];exact hM) u;show(if w=L.lf j then D v+1 else D w)<=M;split
   .exact hM
   exact h w
  have e:kN L R v (D,Q) j=(D,Q):=bQ hc;rw[e];exact Ap L R v M l h hv hM u
theorem Iy(L:Lg)(R:Nat->Int)(v j:Nat):∀ (l:List Nat) (st:(Nat->Int)×List Nat),iE L R v st (l++[j])=kN L R v (iE L R v st l) j
 |[],st=>rfl
 |i::l,st=>Iy L R v j l (kN L R v st i)
theorem RQ{L:Lg}{R:Nat->Int}{n t:Nat}(hlf:∀ j,j<L.m->L.lf j<n):∀ (f:Nat) {D:Nat->Int} {Q:List Nat},nT L R n t D Q->(∀u,D u+f<=n)-> ∀u,pj L R f (D,Q) u<=n
 |0,D,Q,h,hu,u=>by have:=hu u;show D u<=n;omega
 |f+1,D,[],h,hu,u=>by have:=hu u;show D u<=n;omega
 |f+1,D,v::Q,h,hu,u=>by
  have hv:=h.q v aF;obtain⟨g1,_⟩:=Aq (v:=v) hlf (xS L v) (D:=D) (Q:=Q) ⟨h.d0,h.ge,h.zero,h.dn,λu hu=>h.q u (aD _ hu),h.next⟩ hv (λj hj=>vE.1 hj);refine RQ hlf f g1 (λw=>?_) u;have h1:=hu v;have:=Ap L R v (n-f) (xS L v) (D:=D) (Q:=Q) (λu=>by have:=hu u;omega) hv (by omega) w;omega
theorem Es{L:Lg}{R:Nat->Int}{n t:Nat}(hlf:∀ j,j<L.m->L.lf j<n)(ht:t<n)(u:Nat):eL L R n t u<=n:=RQ hlf n (rb.start (L:=L) (R:=R) ht).bf (rb.start (L:=L) (R:=R) ht).up u
theorem RR(L:Lg)(R:Nat->Int)(l:List dR)(F:List Int)(n t:Nat)(hl:L.m<=40000)(hn:n<=2000)(ht:t<n)(hlf:∀ j,j<L.m->L.lf j<n)(gT:∀ j:Nat,j<L.m->cJ ab 187 (.int .i64 j::[.ip 1 (bT [fL l]),.ip 1 (bT [eD F])]) (.int .i64 (R j),none)):cJ ab 129 [.ip 3 (bT (kq L n (.fn 187 [.ip 1 (bT [fL l]),.ip 1 (bT [eD F])]))),.int .i64 (t:Nat)] (.own 0,some (mi (eL L R n t) n)):=by
 refine c8 RO ai rfl ?_;refine bU zE (cw (by simp only[du];omega)) ?_;refine eG zE n (λk=>[(0,.ip 3 (bT (kq L n (.fn 187 [.ip 1 (bT [fL l]),.ip 1 (bT [eD F])])))),(1,.int .i64 (t:Nat)),(5,.ptr 5 0),(18,.int .i64 (n:Nat)),(19,.int .i64 (k:Nat))]) (λk=>[(5,.box [.own 16]),(16,mi (λi=>if i<k then-1 else 0) n)]) ?_ ?_
 .refine cB [] ⟨rfl,rfl,rfl,rfl,rfl,bP⟩ ⟨bV,df rfl rfl (λq hq j hj=>?_),bP⟩;rw[bj.1 hj];show A.int .i64 0=A.int .i64 (if q<0 then-1 else 0);rw[bQ (bg q)]
 rintro⟨k,(hk:k<=n)⟩;by_cases a:k<n
 .refine cD zE (er (show k<n by omega)) (bU zE (cZ a) (bU zE (gw a) (cH zE ⟨k+1,a⟩ (dp a) ?_)));refine cB [] ⟨rfl,rfl,rfl,rfl,c6 a,bP⟩ ⟨bV,df rfl rfl (λq hq j hj=>qg (a:=bT [.int .i64 (-1)]) rfl q j hj ?_),bP⟩;show(if q<k+1 then(-1:Int)else 0)=if q=k then-1 else if q<k then-1 else 0
  by_cases e:q=k
  .rw[bS e,bS (by omega)]
  rw[bQ e];by_cases e':q<k
  .rw[bS e',bS (by omega)]
  rw[bQ e',bQ (by omega)]
 have a:n=k:=by omega
 subst a;refine b8 zE eF (dt zE rfl zE (bU zE (cZ ht) (bU zE (gw ht) ?_)));refine zG zE ?_;refine ak (σ:={ p:Nat×(Nat->Int)×List Nat // rb L R n t p.1 p.2.1 p.2.2 }) (λp=>[(0,.ip 3 (bT (kq L n (.fn 187 [.ip 1 (bT [fL l]),.ip 1 (bT [eD F])])))),(5,.ptr 5 0),(7,.ptr 7 0),(8,.fn 189 [.ptr 7 0])]) (λp=>[(5,.box [.own 16]),(7,.box [.own 30]),(16,mi p.1.2.1 n),(30,kM p.1.2.2)]) (λp=>p.1.1) ⟨(n,lu t,[t]),rb.start ht⟩ ?_ ?_
 .refine cB [] ⟨rfl,rfl,rfl,rfl,bP⟩ ⟨bV,bV,df rfl rfl (λq hq j hj=>qg (a:=bT [.int .i64 0]) rfl q j hj ?_),df rfl rfl (λq hq j hj=>row_one (cells:=nN) (x:=t) (c:=1) rfl q hq j hj),bP⟩;show(if q=t then(0:Int)else-1)=if q=t then 0 else if q<n then-1 else 0
  rw[bS hq]
 rintro⟨⟨f,D,Q⟩,hp⟩;have hp:rb L R n t f D Q:=hp;rcases Q with _|⟨v,Q⟩
 .refine b8 zE (rfl) (dt zE rfl zE ?_);have e:D=eL L R n t:=by rw[<-hp.r];cases f<;>rfl
  subst e;refine zG zE (aq 16 rfl rfl (bY.refl _) ⟨rfl,rfl,rfl,λ_ _ _ _=>rfl⟩ λ_ _ _ _=>rfl)
 refine cD zE (by show decide ((((v::Q).length:Nat):Int)>0)=true;exact cw (by simp only[aC];omega)) ?_;have hlen:0<(v::Q).length:=by simp
 refine bU zE (by show decide (0<=(0:Int)/\(0:Int)<(((v::Q).length:Nat):Int))=true;exact cw (by omega)) (bU zE (by show decide ((0:Int).toNat<(v::Q).length)=true;exact cw hlen) (bU zE (cw ⟨by omega,by show(1:Int)<=(((v::Q).length:Nat):Int);omega,ay _⟩) ?_));have hv:=hp.bf.q v aF;have mj:=hp.bf.dn v hv;refine cN zE ?_;refine bU zE (by show decide (0<=(v:Int)/\(v:Int)<(n:Int))=true;exact cZ mj) ?_;refine zG zE ?_;refine ak (σ:={ p:Nat×(Nat->Int)×List Nat // p.1<=(dI L v (L.m)).length/\iE L R v (D,Q) ((dI L v (L.m)).take p.1)=p.2 }) (λp=>[(0,.dA 72),(1,.ptr 71 0),(2,.ptr 70 0),(6,.sl 3 (dI L v (L.m)).length (cO (kp L) (dI L v (L.m)))),(7,.int .i64 (dI L v (L.m)).length),(8,.int .i64 (p.1.1:Nat))]) (λp=>[(7,.box [.own 101]),(16,mi p.1.2.1 n),(30,.dead),(101,kM p.1.2.2)]) (λp=>(dI L v (L.m)).length-p.1.1) ⟨(0,D,Q),bh _,rfl⟩ ?_ ?_
 .refine((Iz 30 101 rfl rfl).cell 7 0 rfl rfl (by exact bn) rfl).gv.trans ?_;refine dD [] ⟨rfl,rfl,rfl,rfl,rfl,rfl,bP⟩ ⟨bV,ee,rfl,df rfl (by show((((v::Q).length:Nat):Int)-1).toNat=Q.length;simp only[aC];omega) (λq hq j hj=>?_),bP⟩;show cO nN (v::Q) (1+q) j=cO nN Q q j;rw[br];rfl
 rintro⟨⟨k,D1,Q1⟩,hk,hr⟩;have hk:k<=(dI L v (L.m)).length:=hk;have hr:iE L R v (D,Q) ((dI L v (L.m)).take k)=(D1,Q1):=hr;obtain⟨g1,g2,g3,g4,g5,g6⟩:=Aq (v:=v) hlf ((dI L v (L.m)).take k) (D:=D) (Q:=Q) ⟨hp.bf.d0,hp.bf.ge,hp.bf.zero,hp.bf.dn,λu hu=>hp.bf.q u (aD _ hu),hp.bf.next⟩ hv (λj hj=>vE.1 (a7 hj));rw[hr]at g1 g2 g3 g4 g5 g6;have g3v:D1 v=D v:=g3 v hv;have g2:jY D1 n+Q1.length=jY D n+Q.length:=g2;have hL:(dI L v (L.m)).length<=9000000000000000000:=by
  have:=aG (λj=>L.lt j==v) (aI (L.m));simp only[aK]at this;unfold dI;omega
 have hc:=hp.c;have IA:=hp.up t;have ah3:=hp.up v;rw[hp.bf.d0]at IA;simp only[aC]at hc;by_cases a:k<(dI L v (L.m)).length
 .obtain⟨J,hJ⟩:∃ J,J=(dI L v (L.m)).getD k au:=⟨_,rfl⟩;have hj:J∈dI L v (L.m):=by rw[hJ,cV a];exact aB _
  have hj2:=vE.1 hj;have jL:=hlf _ hj2.1;have hs:iE L R v (D,Q) ((dI L v (L.m)).take (k+1))=kN L R v (D1,Q1) J:=by rw[gg a,<- hJ,Iy,hr]
  refine cD zE (er (show k<(dI L v (L.m)).length by omega)) (bU zE (cZ a) (cN zE ?_));have rk:=gT J hj2.1;rw[hJ]at rk;rw[hJ]at jL hs;refine cj zE (rk) (cK zE (λc=>?_) (λc=>?_))
  .have c:decide (R ((dI L v (L.m)).getD k au)>0)=true:=c;refine bU zE (cZ jL) (bU zE (gw jL) (cK zE (λd=>?_) (λd=>?_)))
   .have d:decide (D1 (L.lf ((dI L v (L.m)).getD k au))<0)=true:=d;have hs:iE L R v (D,Q) ((dI L v (L.m)).take (k+1))=(ku D1 (L.lf ((dI L v (L.m)).getD k au)) (D1 v+1),Q1++[L.lf ((dI L v (L.m)).getD k au)]):=hs.trans (bS ⟨fv c,fv d⟩);refine cN zE ?_;refine bU zE (by show decide (0<=(v:Int)/\(v:Int)<(n:Int))=true;exact cZ mj) (bU zE (by show decide ((v:Int).toNat<n)=true;exact gw mj) (bU zE (cZ jL) (bU zE (gw jL) (bU zE (cw (by show(Q1.length+1)*(7+1+1)<=du;simp only[du];omega)) (cH zE ⟨(k+1,ku D1 (L.lf ((dI L v (L.m)).getD k au)) (D1 v+1),Q1++[L.lf ((dI L v (L.m)).getD k au)]),a,hs⟩ (by show(dI L v (L.m)).length-(k+1)<(dI L v (L.m)).length-k;omega) ?_)))));refine dD [(101,168)] ⟨rfl,rfl,rfl,rfl,rfl,c9 rfl (je a hL),bP⟩ ⟨bV,df rfl rfl (λq hq j hj=>qg ?_ q j hj rfl),rfl,df rfl (by show Q1.length+1=(Q1++[_]).length;simp) (λq hq j hj=>gE (cells:=nN) (x:=L.lf ((dI L v (L.m)).getD k au)) rfl q (by simpa[kM]using hq) j hj),bP⟩;show A.int .i64 (aa.wrap (D1 v+1))=A.int .i64 (D1 v+1);rw[dG]
   have d:decide (D1 (L.lf ((dI L v (L.m)).getD k au))<0)=false:=d;have hs:iE L R v (D,Q) ((dI L v (L.m)).take (k+1))=(D1,Q1):=hs.trans (bQ (λq=>eY d q.2));refine cH zE ⟨(k+1,D1,Q1),a,hs⟩ (by show(dI L v (L.m)).length-(k+1)<(dI L v (L.m)).length-k;omega) ?_;exact dD [] ⟨rfl,rfl,rfl,rfl,rfl,c9 rfl (je a hL),bP⟩ ⟨bV,ee,rfl,ee,bP⟩
  have c:decide (R ((dI L v (L.m)).getD k au)>0)=false:=c;have hs:iE L R v (D,Q) ((dI L v (L.m)).take (k+1))=(D1,Q1):=hs.trans (bQ (λq=>eY c q.1));refine cH zE ⟨(k+1,D1,Q1),a,hs⟩ (by show(dI L v (L.m)).length-(k+1)<(dI L v (L.m)).length-k;omega) ?_;exact dD [] ⟨rfl,rfl,rfl,rfl,rfl,c9 rfl (je a hL),bP⟩ ⟨bV,ee,rfl,ee,bP⟩
 have a:(dI L v (L.m)).length=k:=by omega
 subst a;rw[aP]at hr;refine b8 zE eF (dt zE rfl zE ?_);obtain⟨f,rfl⟩:∃ f',f=f'+1:=⟨f-1,by omega⟩;refine cH zE ⟨(f,D1,Q1),⟨g1,by show jY D1 n+Q1.length<=f;omega,by rw[<-hp.r];exact fU (pj L R f) hr.symm,λu=>?_⟩⟩ (bk f) ?_
 .have:=Ap L R v (n-f) (dI L v (L.m)) (D:=D) (Q:=Q) (λu=>by have:=hp.up u;omega) hv (by omega) u;rw[hr]at this;have this:D1 u<=(n:Int)-f:=this;show D1 u+f<=n;omega
 exact cB [(30,101)] ⟨rfl,rfl,rfl,rfl,bP⟩ ⟨bV,bV,ee,ee,bP⟩
theorem RS(L:Lg)(R:Nat->Int)(F:List Int)(n t:Nat)(hl:L.m<=40000)(hn:n<=2000)(ht:t<n)(hlf:∀ j,j<L.m->L.lf j<n)(gT:∀ j:Nat,j<L.m->cJ ab 77 (.int .i64 j::[.ip 1 (bT [eD F])]) (.int .i64 (R j),none)):cJ ab 129 [.ip 3 (bT (kq L n (.fn 77 [.ip 1 (bT [eD F])]))),.int .i64 (t:Nat)] (.own 0,some (mi (eL L R n t) n)):=by
 refine c8 RO ai rfl ?_;refine bU zE (cw (by simp only[du];omega)) ?_;refine eG zE n (λk=>[(0,.ip 3 (bT (kq L n (.fn 77 [.ip 1 (bT [eD F])])))),(1,.int .i64 (t:Nat)),(5,.ptr 5 0),(18,.int .i64 (n:Nat)),(19,.int .i64 (k:Nat))]) (λk=>[(5,.box [.own 16]),(16,mi (λi=>if i<k then-1 else 0) n)]) ?_ ?_
 .refine cB [] ⟨rfl,rfl,rfl,rfl,rfl,bP⟩ ⟨bV,df rfl rfl (λq hq j hj=>?_),bP⟩;rw[bj.1 hj];show A.int .i64 0=A.int .i64 (if q<0 then-1 else 0);rw[bQ (bg q)]
 rintro⟨k,(hk:k<=n)⟩;by_cases a:k<n
 .refine cD zE (er (show k<n by omega)) (bU zE (cZ a) (bU zE (gw a) (cH zE ⟨k+1,a⟩ (dp a) ?_)));refine cB [] ⟨rfl,rfl,rfl,rfl,c6 a,bP⟩ ⟨bV,df rfl rfl (λq hq j hj=>qg (a:=bT [.int .i64 (-1)]) rfl q j hj ?_),bP⟩;show(if q<k+1 then(-1:Int)else 0)=if q=k then-1 else if q<k then-1 else 0
  by_cases e:q=k
  .rw[bS e,bS (by omega)]
  rw[bQ e];by_cases e':q<k
  .rw[bS e',bS (by omega)]
  rw[bQ e',bQ (by omega)]
 have a:n=k:=by omega
 subst a;refine b8 zE eF (dt zE rfl zE (bU zE (cZ ht) (bU zE (gw ht) ?_)));refine zG zE ?_;refine ak (σ:={ p:Nat×(Nat->Int)×List Nat // rb L R n t p.1 p.2.1 p.2.2 }) (λp=>[(0,.ip 3 (bT (kq L n (.fn 77 [.ip 1 (bT [eD F])])))),(5,.ptr 5 0),(7,.ptr 7 0),(8,.fn 189 [.ptr 7 0])]) (λp=>[(5,.box [.own 16]),(7,.box [.own 30]),(16,mi p.1.2.1 n),(30,kM p.1.2.2)]) (λp=>p.1.1) ⟨(n,lu t,[t]),rb.start ht⟩ ?_ ?_
 .refine cB [] ⟨rfl,rfl,rfl,rfl,bP⟩ ⟨bV,bV,df rfl rfl (λq hq j hj=>qg (a:=bT [.int .i64 0]) rfl q j hj ?_),df rfl rfl (λq hq j hj=>row_one (cells:=nN) (x:=t) (c:=1) rfl q hq j hj),bP⟩;show(if q=t then(0:Int)else-1)=if q=t then 0 else if q<n then-1 else 0
  rw[bS hq]
 rintro⟨⟨f,D,Q⟩,hp⟩;have hp:rb L R n t f D Q:=hp;rcases Q with _|⟨v,Q⟩
 .refine b8 zE (rfl) (dt zE rfl zE ?_);have e:D=eL L R n t:=by rw[<-hp.r];cases f<;>rfl
  subst e;refine zG zE (aq 16 rfl rfl (bY.refl _) ⟨rfl,rfl,rfl,λ_ _ _ _=>rfl⟩ λ_ _ _ _=>rfl)
 refine cD zE (by show decide ((((v::Q).length:Nat):Int)>0)=true;exact cw (by simp only[aC];omega)) ?_;have hlen:0<(v::Q).length:=by simp
 refine bU zE (by show decide (0<=(0:Int)/\(0:Int)<(((v::Q).length:Nat):Int))=true;exact cw (by omega)) (bU zE (by show decide ((0:Int).toNat<(v::Q).length)=true;exact cw hlen) (bU zE (cw ⟨by omega,by show(1:Int)<=(((v::Q).length:Nat):Int);omega,ay _⟩) ?_));have hv:=hp.bf.q v aF;have mj:=hp.bf.dn v hv;refine cN zE ?_;refine bU zE (by show decide (0<=(v:Int)/\(v:Int)<(n:Int))=true;exact cZ mj) ?_;refine zG zE ?_;refine ak (σ:={ p:Nat×(Nat->Int)×List Nat // p.1<=(dI L v (L.m)).length/\iE L R v (D,Q) ((dI L v (L.m)).take p.1)=p.2 }) (λp=>[(0,.dA 72),(1,.ptr 71 0),(2,.ptr 70 0),(6,.sl 3 (dI L v (L.m)).length (cO (kp L) (dI L v (L.m)))),(7,.int .i64 (dI L v (L.m)).length),(8,.int .i64 (p.1.1:Nat))]) (λp=>[(7,.box [.own 101]),(16,mi p.1.2.1 n),(30,.dead),(101,kM p.1.2.2)]) (λp=>(dI L v (L.m)).length-p.1.1) ⟨(0,D,Q),bh _,rfl⟩ ?_ ?_
 .refine((Iz 30 101 rfl rfl).cell 7 0 rfl rfl (by exact bn) rfl).gv.trans ?_;refine dD [] ⟨rfl,rfl,rfl,rfl,rfl,rfl,bP⟩ ⟨bV,ee,rfl,df rfl (by show((((v::Q).length:Nat):Int)-1).toNat=Q.length;simp only[aC];omega) (λq hq j hj=>?_),bP⟩;show cO nN (v::Q) (1+q) j=cO nN Q q j;rw[br];rfl
 rintro⟨⟨k,D1,Q1⟩,hk,hr⟩;have hk:k<=(dI L v (L.m)).length:=hk;have hr:iE L R v (D,Q) ((dI L v (L.m)).take k)=(D1,Q1):=hr;obtain⟨g1,g2,g3,g4,g5,g6⟩:=Aq (v:=v) hlf ((dI L v (L.m)).take k) (D:=D) (Q:=Q) ⟨hp.bf.d0,hp.bf.ge,hp.bf.zero,hp.bf.dn,λu hu=>hp.bf.q u (aD _ hu),hp.bf.next⟩ hv (λj hj=>vE.1 (a7 hj));rw[hr]at g1 g2 g3 g4 g5 g6;have g3v:D1 v=D v:=g3 v hv;have g2:jY D1 n+Q1.length=jY D n+Q.length:=g2;have hL:(dI L v (L.m)).length<=9000000000000000000:=by
  have:=aG (λj=>L.lt j==v) (aI (L.m));simp only[aK]at this;unfold dI;omega
 have hc:=hp.c;have IA:=hp.up t;have ah3:=hp.up v;rw[hp.bf.d0]at IA;simp only[aC]at hc;by_cases a:k<(dI L v (L.m)).length
 .obtain⟨J,hJ⟩:∃ J,J=(dI L v (L.m)).getD k au:=⟨_,rfl⟩;have hj:J∈dI L v (L.m):=by rw[hJ,cV a];exact aB _
  have hj2:=vE.1 hj;have jL:=hlf _ hj2.1;have hs:iE L R v (D,Q) ((dI L v (L.m)).take (k+1))=kN L R v (D1,Q1) J:=by rw[gg a,<- hJ,Iy,hr]
  refine cD zE (er (show k<(dI L v (L.m)).length by omega)) (bU zE (cZ a) (cN zE ?_));have rk:=gT J hj2.1;rw[hJ]at rk;rw[hJ]at jL hs;refine cj zE (rk) (cK zE (λc=>?_) (λc=>?_))
  .have c:decide (R ((dI L v (L.m)).getD k au)>0)=true:=c;refine bU zE (cZ jL) (bU zE (gw jL) (cK zE (λd=>?_) (λd=>?_)))
   .have d:decide (D1 (L.lf ((dI L v (L.m)).getD k au))<0)=true:=d;have hs:iE L R v (D,Q) ((dI L v (L.m)).take (k+1))=(ku D1 (L.lf ((dI L v (L.m)).getD k au)) (D1 v+1),Q1++[L.lf ((dI L v (L.m)).getD k au)]):=hs.trans (bS ⟨fv c,fv d⟩);refine cN zE ?_;refine bU zE (by show decide (0<=(v:Int)/\(v:Int)<(n:Int))=true;exact cZ mj) (bU zE (by show decide ((v:Int).toNat<n)=true;exact gw mj) (bU zE (cZ jL) (bU zE (gw jL) (bU zE (cw (by show(Q1.length+1)*(7+1+1)<=du;simp only[du];omega)) (cH zE ⟨(k+1,ku D1 (L.lf ((dI L v (L.m)).getD k au)) (D1 v+1),Q1++[L.lf ((dI L v (L.m)).getD k au)]),a,hs⟩ (by show(dI L v (L.m)).length-(k+1)<(dI L v (L.m)).length-k;omega) ?_)))));refine dD [(101,168)] ⟨rfl,rfl,rfl,rfl,rfl,c9 rfl (je a hL),bP⟩ ⟨bV,df rfl rfl (λq hq j hj=>qg ?_ q j hj rfl),rfl,df rfl (by show Q1.length+1=(Q1++[_]).length;simp) (λq hq j hj=>gE (cells:=nN) (x:=L.lf ((dI L v (L.m)).getD k au)) rfl q (by simpa[kM]using hq) j hj),bP⟩;show A.int .i64 (aa.wrap (D1 v+1))=A.int .i64 (D1 v+1);rw[dG]
   have d:decide (D1 (L.lf ((dI L v (L.m)).getD k au))<0)=false:=d;have hs:iE L R v (D,Q) ((dI L v (L.m)).take (k+1))=(D1,Q1):=hs.trans (bQ (λq=>eY d q.2));refine cH zE ⟨(k+1,D1,Q1),a,hs⟩ (by show(dI L v (L.m)).length-(k+1)<(dI L v (L.m)).length-k;omega) ?_;exact dD [] ⟨rfl,rfl,rfl,rfl,rfl,c9 rfl (je a hL),bP⟩ ⟨bV,ee,rfl,ee,bP⟩
  have c:decide (R ((dI L v (L.m)).getD k au)>0)=false:=c;have hs:iE L R v (D,Q) ((dI L v (L.m)).take (k+1))=(D1,Q1):=hs.trans (bQ (λq=>eY c q.1));refine cH zE ⟨(k+1,D1,Q1),a,hs⟩ (by show(dI L v (L.m)).length-(k+1)<(dI L v (L.m)).length-k;omega) ?_;exact dD [] ⟨rfl,rfl,rfl,rfl,rfl,c9 rfl (je a hL),bP⟩ ⟨bV,ee,rfl,ee,bP⟩
 have a:(dI L v (L.m)).length=k:=by omega
 subst a;rw[aP]at hr;refine b8 zE eF (dt zE rfl zE ?_);obtain⟨f,rfl⟩:∃ f',f=f'+1:=⟨f-1,by omega⟩;refine cH zE ⟨(f,D1,Q1),⟨g1,by show jY D1 n+Q1.length<=f;omega,by rw[<-hp.r];exact fU (pj L R f) hr.symm,λu=>?_⟩⟩ (bk f) ?_
 .have:=Ap L R v (n-f) (dI L v (L.m)) (D:=D) (Q:=Q) (λu=>by have:=hp.up u;omega) hv (by omega) u;rw[hr]at this;have this:D1 u<=(n:Int)-f:=this;show D1 u+f<=n;omega
 exact cB [(30,101)] ⟨rfl,rfl,rfl,rfl,bP⟩ ⟨bV,bV,ee,ee,bP⟩
noncomputable def Ar:Cx:={ E:=EM,inl:=[68,125],ok:=qf }
theorem IB{p:Nat->Bool}:∀ {l:List Nat} {k:Nat},k<l.length->p (l.getD k au)=true->(∀i,i<k->p (l.getD i au)=false)->l.find? p=some (l.getD k au)
 |[],k,hk,_,_=>dP hk (bg k)
 |a::l,0,_,hp,_=>by rw[List.find?_cons_of_pos];rfl;exact hp
 |a::l,k+1,hk,hp,hn=>by
  have h0:p a=false:=hn 0 (bw k);rw[a6 (by rw[h0];decide)];exact IB (bp hk) hp λi hi=>hn (i+1) (bu hi)
theorem IC{p:Nat->Bool}:∀ {l:List Nat},(∀i,i<l.length->p (l.getD i au)=false)->l.find? p=none
 |[],_=>rfl
 |a::l,hn=>by
  have h0:p a=false:=hn 0 (bw _);rw[a6 (by rw[h0];decide)];exact IC λi hi=>hn (i+1) (bu hi)
structure Et(L:Lg)(R D:Nat->Int)(n s t:Nat)(f v:Nat)(acc:List Nat):Prop where
 d:D v=(f:Int)
 p:acc++kO L R D t f v=kO L R D t (D s).toNat s
 l:(acc.length:Int)+f<=n
theorem ah4(L:Lg)(R:Nat->Int)(l:List dR)(F:List Int)(n s t:Nat)(hl:L.m<=40000)(hn:n<=2000)(hs:s<n)(ht:t<n)(hlf:∀ j,j<L.m->L.lf j<n)(gT:∀ j:Nat,j<L.m->cJ ab 187 (.int .i64 j::[.ip 1 (bT [fL l]),.ip 1 (bT [eD F])]) (.int .i64 (R j),none))(hd:eL L R n t s<0):
  cJ ab 79 [.ip 3 (bT (kq L n (.fn 187 [.ip 1 (bT [fL l]),.ip 1 (bT [eD F])]))),.int .i64 (s:Nat),.int .i64 (t:Nat)] (.cG [.bN,.bool false],none):=by
 obtain⟨D,hD⟩:∃ D,D=eL L R n t:=⟨_,rfl⟩;have dk:=RR L R l F n t hl hn ht hlf gT;rw[<-hD]at dk hd;refine c8 Ar ae rfl ?_;exact cj zE (dk) (bU zE (cZ hs) (bU zE (gw hs) (cD zE (by show decide (D s<0)=true;exact cw hd) (cL zE rfl rfl (bY.refl _)))))
theorem ah5(L:Lg)(R:Nat->Int)(l:List dR)(F:List Int)(n s t:Nat)(hl:L.m<=40000)(hn:n<=2000)(hs:s<n)(ht:t<n)(hlf:∀ j,j<L.m->L.lf j<n)(gT:∀ j:Nat,j<L.m->cJ ab 187 (.int .i64 j::[.ip 1 (bT [fL l]),.ip 1 (bT [eD F])]) (.int .i64 (R j),none))(hlt:∀ j,j<L.m->L.lt j<n)(hd:0<=eL L R n t s):
  cJ ab 79 [.ip 3 (bT (kq L n (.fn 187 [.ip 1 (bT [fL l]),.ip 1 (bT [eD F])]))),.int .i64 (s:Nat),.int .i64 (t:Nat)] (.cG [.own 0,.bool true],some (kM (kO L R (eL L R n t) t (eL L R n t s).toNat s))):=by
 have dk:=RR L R l F n t hl hn ht hlf gT;obtain⟨hb,_⟩:=ss (R:=R) hlf ht;have hle:=Es (R:=R) hlf ht;obtain⟨D,hD⟩:∃ D,D=eL L R n t:=⟨_,rfl⟩;rw[<-hD]at dk hd hb hle⊢;refine c8 Ar ae rfl ?_;refine cj zE (dk) (bU zE (cZ hs) (bU zE (gw hs) (b8 zE (by show decide (D s<0)=false;exact dQ (by omega)) ?_)));refine zG zE ?_;refine ak (σ:={ p:Nat×Nat×List Nat // Et L R D n s t p.1 p.2.1 p.2.2 }) (λp=>[(0,.ip 3 (bT (kq L n (.fn 187 [.ip 1 (bT [fL l]),.ip 1 (bT [eD F])])))),(2,.int .i64 (t:Nat)),(8,.ptr 8 0),(9,.ptr 9 0),(10,.ptr 56 0)]) (λp=>[(8,.box [.own 14]),(14,mi D n),(9,.box [.own 55]),(55,kM p.1.2.2),(56,.box [.int .i64 (p.1.2.1:Nat)])]) (λp=>p.1.1) ⟨((D s).toNat,s,[]),⟨by show D s=_;omega,rfl,by have:=hle s;show((0:Nat):Int)+_<=_;omega⟩⟩ ?_ ?_
 .refine(oM 9 0 55 3 1 (cO nN []) rfl rfl rfl).trans ?_;exact cB [(56,10)] ⟨rfl,rfl,rfl,rfl,rfl,bP⟩ ⟨bV,ee,bV,df rfl rfl (λq hq=>dP hq (bg q)),bV,bP⟩
 rintro⟨⟨f,v,acc⟩,hp⟩;have hp:Et L R D n s t f v acc:=hp;have As:=hp.d;have qh:=hp.p;have nU:=hp.l;by_cases e:v=t
 .subst e;rw[hb.d0]at As;obtain rfl:f=0:=by omega
  refine b8 zE (by show((v:Int)!=(v:Int))=false;exact np _) (dt zE rfl zE ?_);rw[kO,aO]at qh;refine zG zE (aq 55 rfl rfl (bY.refl _) ⟨rfl,rfl,fU bd qh,λ_ _ _ _=>by rw[<-qh]⟩ λi _ j hj=>by obtain rfl:j=0:=bj.1 hj;rfl)
 have mj:=hb.dn v (by omega);obtain⟨J,hJ⟩:=hb.qi (v:=v) (by omega) e;have hpos:=hb.pos (v:=v) (by omega) e;obtain⟨j1,j2,j3,j4⟩:=ID hJ;obtain⟨f,rfl⟩:∃ f',f=f'+1:=⟨f-1,by omega⟩;rw[kO,bQ e,hJ]at qh;refine cD zE (by show((v:Int)!=(t:Int))=true;exact bne_iff_ne.2 (λq=>e (by omega))) (cN zE ?_);refine bU zE (cZ mj) ?_;refine zG zE ?_;refine ak (σ:={ k:Nat // k<=(ed L v (L.m)).length/\ ∀i,i<k->decide (0<R ((ed L v (L.m)).getD i au)/\D (L.lt ((ed L v (L.m)).getD i au))=D v-1)=false }) (λk=>[(0,.dA 61),(1,.ptr 60 0),(2,.ptr 59 0),(6,.sl 3 (ed L v (L.m)).length (cO (kp L) (ed L v (L.m)))),(7,.int .i64 (ed L v (L.m)).length),(8,.int .i64 (k.1:Nat))]) (λk=>[]) (λk=>(ed L v (L.m)).length-k.1) ⟨0,bh _,λi hi=>dP hi (bg i)⟩ ?_ ?_
 .exact dD [] ⟨rfl,rfl,rfl,rfl,rfl,rfl,bP⟩ trivial
 rintro⟨k,(hk:k<=(ed L v (L.m)).length),hno⟩;have hL:(ed L v (L.m)).length<=9000000000000000000:=by
  have:=aG (λj=>L.lf j==v) (aI (L.m));simp only[aK]at this;unfold ed;omega
 by_cases a:k<(ed L v (L.m)).length
 .have hj:(ed L v (L.m)).getD k au∈ed L v (L.m):=by rw[cV a];exact aB _
  have hj2:=vF.1 hj;have jL:=hlt _ hj2.1;have rk:=gT _ hj2.1;have hm:∀ i,i<k+1-> ¬(i<k)->i=k:=λi h1 h2=>by omega
  have hwr:aa.wrap (D v-1)=D v-1:=wrap_i64 (by omega) (by have:=hle v;omega);refine cD zE (er (show k<(ed L v (L.m)).length by omega)) (bU zE (cZ a) (cN zE ?_));refine cj zE (rk) (cK zE (λc=>?_) (λc=>?_))
  .have c:decide (R ((ed L v (L.m)).getD k au)>0)=true:=c;refine cN zE ?_;refine bU zE (cZ jL) (bU zE (gw jL) (bU zE (cZ mj) (bU zE (gw mj) (cK zE (λd=>?_) (λd=>?_)))))
   .have d:(D (L.lt ((ed L v (L.m)).getD k au))==aa.wrap (D v-1))=true:=d;have d:=ie d;rw[hwr]at d;have IE:=IB (p:=λj=>decide (0<R j/\D (L.lt j)=D v-1)) a (cw ⟨fv c,d⟩) hno;obtain rfl:J=(ed L v (L.m)).getD k au:=Option.some.inj (hJ.symm.trans IE);refine cN zE ?_;refine bU zE (cw (by simp only[du];omega)) (dt zE rfl zE (cH zE ⟨(f,L.lt ((ed L v (L.m)).getD k au),acc++[(ed L v (L.m)).getD k au]),⟨by show D (L.lt ((ed L v (L.m)).getD k au))=(f:Int);rw[d,As];omega,by show(acc++[_])++kO L R D t f _=_;rw[<-qh,aV];rfl,by show((acc++[_]).length:Int)+f<=n;simp only[aJ,aC,aN];omega⟩⟩ (bk f) ?_));exact cB [(55,138),(56,10)] ⟨rfl,rfl,rfl,rfl,rfl,bP⟩ ⟨bV,ee,bV,df rfl (by show acc.length+1=(acc++[_]).length;simp) (λq hq j hj=>gE (cells:=nN) (x:=(ed L v (L.m)).getD k au) rfl q (by simpa[kM]using hq) j hj),bV,bP⟩
   have d:(D (L.lt ((ed L v (L.m)).getD k au))==aa.wrap (D v-1))=false:=d;refine cH zE ⟨k+1,a,λi hi=>?_⟩ (dp a) ?_
   .by_cases h1:i<k
    .exact hno i h1
    rw[hm i hi h1];refine dQ λq=>?_;rw[hwr,q.2]at d;exact dP d (by simp)
   exact dD [] ⟨rfl,rfl,rfl,rfl,rfl,c9 rfl (je a hL),bP⟩ trivial
  have c:decide (R ((ed L v (L.m)).getD k au)>0)=false:=c;refine cH zE ⟨k+1,a,λi hi=>?_⟩ (dp a) ?_
  .by_cases h1:i<k
   .exact hno i h1
   rw[hm i hi h1];exact dQ λq=>eY c q.1
  exact dD [] ⟨rfl,rfl,rfl,rfl,rfl,c9 rfl (je a hL),bP⟩ trivial
 have IF:=IC (p:=λj=>decide (0<R j/\D (L.lt j)=D v-1)) (l:=ed L v (L.m)) (λi hi=>hno i (by have hi:i<(ed L v (L.m)).length:=hi;omega));exact dP (hJ.symm.trans IF) (by simp)
theorem ah6(L:Lg)(R:Nat->Int)(l:List dR)(F:List Int)(n:Nat)(gT:∀ j:Nat,j<L.m->cJ ab 187 (.int .i64 j::[.ip 1 (bT [fL l]),.ip 1 (bT [eD F])]) (.int .i64 (R j),none))(P:List Nat)(hP:∀ j∈P,j<L.m)(hp:P.length<=1000000):cJ ab 80 [.ip 3 (bT (kq L n (.fn 187 [.ip 1 (bT [fL l]),.ip 1 (bT [eD F])]))),.sl 1 P.length (cO nN P)] (.int .i64 (gF R P 1099511627776),none):=by
 obtain⟨x0,hR⟩:∃ x0,x0=gF R P 1099511627776:=⟨_,rfl⟩;rw[<-hR];refine c8 CM aj rfl ?_;refine zG zE ?_;refine ak (σ:={ p:Nat×Int // p.1<=P.length/\gF R (P.drop p.1) p.2=x0 }) (λp=>[(0,.ip 3 (bT (kq L n (.fn 187 [.ip 1 (bT [fL l]),.ip 1 (bT [eD F])])))),(5,.int .i64 p.1.2),(8,.sl 1 P.length (cO nN P)),(9,.int .i64 P.length),(10,.int .i64 (p.1.1:Nat))]) (λp=>[]) (λp=>P.length-p.1.1) ⟨(0,1099511627776),bh _,hR.symm⟩ ?_ ?_
 .exact cB [] ⟨rfl,rfl,rfl,rfl,rfl,bP⟩ trivial
 rintro⟨⟨k,x⟩,hk,hx⟩;have hk:k<=P.length:=hk;have hx:gF R (P.drop k) x=x0:=hx;by_cases a:k<P.length
 .have hj:=hP (P.getD k au) (by rw[cV a];exact aB _);rw[drop_cons a,gF]at hx;refine cD zE (er (show k<P.length by omega)) (bU zE (cZ a) (cj zE (gT (P.getD k au) hj) (cH zE ⟨(k+1,_),a,hx⟩ (by show P.length-(k+1)<P.length-k;omega) ?_)));refine cB [] ⟨rfl,c9 rfl ?_,rfl,rfl,c6 a,bP⟩ trivial;rfl
 have a:P.length=k:=by omega
 subst a;refine b8 zE eF (dt zE rfl zE ?_);rw[ba,gF]at hx;refine cL zE rfl rfl (bY.lr hx)
theorem ah7(L:Lg)(R:Nat->Int)(F:List Int)(n s t:Nat)(hl:L.m<=40000)(hn:n<=2000)(hs:s<n)(ht:t<n)(hlf:∀ j,j<L.m->L.lf j<n)(gT:∀ j:Nat,j<L.m->cJ ab 77 (.int .i64 j::[.ip 1 (bT [eD F])]) (.int .i64 (R j),none))(hd:eL L R n t s<0):
  cJ ab 79 [.ip 3 (bT (kq L n (.fn 77 [.ip 1 (bT [eD F])]))),.int .i64 (s:Nat),.int .i64 (t:Nat)] (.cG [.bN,.bool false],none):=by
 obtain⟨D,hD⟩:∃ D,D=eL L R n t:=⟨_,rfl⟩;have dk:=RS L R F n t hl hn ht hlf gT;rw[<-hD]at dk hd;refine c8 Ar ae rfl ?_;exact cj zE (dk) (bU zE (cZ hs) (bU zE (gw hs) (cD zE (by show decide (D s<0)=true;exact cw hd) (cL zE rfl rfl (bY.refl _)))))
theorem ah8(L:Lg)(R:Nat->Int)(F:List Int)(n s t:Nat)(hl:L.m<=40000)(hn:n<=2000)(hs:s<n)(ht:t<n)(hlf:∀ j,j<L.m->L.lf j<n)(gT:∀ j:Nat,j<L.m->cJ ab 77 (.int .i64 j::[.ip 1 (bT [eD F])]) (.int .i64 (R j),none))(hlt:∀ j,j<L.m->L.lt j<n)(hd:0<=eL L R n t s):
  cJ ab 79 [.ip 3 (bT (kq L n (.fn 77 [.ip 1 (bT [eD F])]))),.int .i64 (s:Nat),.int .i64 (t:Nat)] (.cG [.own 0,.bool true],some (kM (kO L R (eL L R n t) t (eL L R n t s).toNat s))):=by
 have dk:=RS L R F n t hl hn ht hlf gT;obtain⟨hb,_⟩:=ss (R:=R) hlf ht;have hle:=Es (R:=R) hlf ht;obtain⟨D,hD⟩:∃ D,D=eL L R n t:=⟨_,rfl⟩;rw[<-hD]at dk hd hb hle⊢;refine c8 Ar ae rfl ?_;refine cj zE (dk) (bU zE (cZ hs) (bU zE (gw hs) (b8 zE (by show decide (D s<0)=false;exact dQ (by omega)) ?_)));refine zG zE ?_;refine ak (σ:={ p:Nat×Nat×List Nat // Et L R D n s t p.1 p.2.1 p.2.2 }) (λp=>[(0,.ip 3 (bT (kq L n (.fn 77 [.ip 1 (bT [eD F])])))),(2,.int .i64 (t:Nat)),(8,.ptr 8 0),(9,.ptr 9 0),(10,.ptr 56 0)]) (λp=>[(8,.box [.own 14]),(14,mi D n),(9,.box [.own 55]),(55,kM p.1.2.2),(56,.box [.int .i64 (p.1.2.1:Nat)])]) (λp=>p.1.1) ⟨((D s).toNat,s,[]),⟨by show D s=_;omega,rfl,by have:=hle s;show((0:Nat):Int)+_<=_;omega⟩⟩ ?_ ?_
 .refine(oM 9 0 55 3 1 (cO nN []) rfl rfl rfl).trans ?_;exact cB [(56,10)] ⟨rfl,rfl,rfl,rfl,rfl,bP⟩ ⟨bV,ee,bV,df rfl rfl (λq hq=>dP hq (bg q)),bV,bP⟩
 rintro⟨⟨f,v,acc⟩,hp⟩;have hp:Et L R D n s t f v acc:=hp;have As:=hp.d;have qh:=hp.p;have nU:=hp.l;by_cases e:v=t
 .subst e;rw[hb.d0]at As;obtain rfl:f=0:=by omega
  refine b8 zE (by show((v:Int)!=(v:Int))=false;exact np _) (dt zE rfl zE ?_);rw[kO,aO]at qh;refine zG zE (aq 55 rfl rfl (bY.refl _) ⟨rfl,rfl,fU bd qh,λ_ _ _ _=>by rw[<-qh]⟩ λi _ j hj=>by obtain rfl:j=0:=bj.1 hj;rfl)
 have mj:=hb.dn v (by omega);obtain⟨J,hJ⟩:=hb.qi (v:=v) (by omega) e;have hpos:=hb.pos (v:=v) (by omega) e;obtain⟨j1,j2,j3,j4⟩:=ID hJ;obtain⟨f,rfl⟩:∃ f',f=f'+1:=⟨f-1,by omega⟩;rw[kO,bQ e,hJ]at qh;refine cD zE (by show((v:Int)!=(t:Int))=true;exact bne_iff_ne.2 (λq=>e (by omega))) (cN zE ?_);refine bU zE (cZ mj) ?_;refine zG zE ?_;refine ak (σ:={ k:Nat // k<=(ed L v (L.m)).length/\ ∀i,i<k->decide (0<R ((ed L v (L.m)).getD i au)/\D (L.lt ((ed L v (L.m)).getD i au))=D v-1)=false }) (λk=>[(0,.dA 61),(1,.ptr 60 0),(2,.ptr 59 0),(6,.sl 3 (ed L v (L.m)).length (cO (kp L) (ed L v (L.m)))),(7,.int .i64 (ed L v (L.m)).length),(8,.int .i64 (k.1:Nat))]) (λk=>[]) (λk=>(ed L v (L.m)).length-k.1) ⟨0,bh _,λi hi=>dP hi (bg i)⟩ ?_ ?_
 .exact dD [] ⟨rfl,rfl,rfl,rfl,rfl,rfl,bP⟩ trivial
 rintro⟨k,(hk:k<=(ed L v (L.m)).length),hno⟩;have hL:(ed L v (L.m)).length<=9000000000000000000:=by
  have:=aG (λj=>L.lf j==v) (aI (L.m));simp only[aK]at this;unfold ed;omega
 by_cases a:k<(ed L v (L.m)).length
 .have hj:(ed L v (L.m)).getD k au∈ed L v (L.m):=by rw[cV a];exact aB _
  have hj2:=vF.1 hj;have jL:=hlt _ hj2.1;have rk:=gT _ hj2.1;have hm:∀ i,i<k+1-> ¬(i<k)->i=k:=λi h1 h2=>by omega
  have hwr:aa.wrap (D v-1)=D v-1:=wrap_i64 (by omega) (by have:=hle v;omega);refine cD zE (er (show k<(ed L v (L.m)).length by omega)) (bU zE (cZ a) (cN zE ?_));refine cj zE (rk) (cK zE (λc=>?_) (λc=>?_))
  .have c:decide (R ((ed L v (L.m)).getD k au)>0)=true:=c;refine cN zE ?_;refine bU zE (cZ jL) (bU zE (gw jL) (bU zE (cZ mj) (bU zE (gw mj) (cK zE (λd=>?_) (λd=>?_)))))
   .have d:(D (L.lt ((ed L v (L.m)).getD k au))==aa.wrap (D v-1))=true:=d;have d:=ie d;rw[hwr]at d;have IE:=IB (p:=λj=>decide (0<R j/\D (L.lt j)=D v-1)) a (cw ⟨fv c,d⟩) hno;obtain rfl:J=(ed L v (L.m)).getD k au:=Option.some.inj (hJ.symm.trans IE);refine cN zE ?_;refine bU zE (cw (by simp only[du];omega)) (dt zE rfl zE (cH zE ⟨(f,L.lt ((ed L v (L.m)).getD k au),acc++[(ed L v (L.m)).getD k au]),⟨by show D (L.lt ((ed L v (L.m)).getD k au))=(f:Int);rw[d,As];omega,by show(acc++[_])++kO L R D t f _=_;rw[<-qh,aV];rfl,by show((acc++[_]).length:Int)+f<=n;simp only[aJ,aC,aN];omega⟩⟩ (bk f) ?_));exact cB [(55,138),(56,10)] ⟨rfl,rfl,rfl,rfl,rfl,bP⟩ ⟨bV,ee,bV,df rfl (by show acc.length+1=(acc++[_]).length;simp) (λq hq j hj=>gE (cells:=nN) (x:=(ed L v (L.m)).getD k au) rfl q (by simpa[kM]using hq) j hj),bV,bP⟩
   have d:(D (L.lt ((ed L v (L.m)).getD k au))==aa.wrap (D v-1))=false:=d;refine cH zE ⟨k+1,a,λi hi=>?_⟩ (dp a) ?_
   .by_cases h1:i<k
    .exact hno i h1
    rw[hm i hi h1];refine dQ λq=>?_;rw[hwr,q.2]at d;exact dP d (by simp)
   exact dD [] ⟨rfl,rfl,rfl,rfl,rfl,c9 rfl (je a hL),bP⟩ trivial
  have c:decide (R ((ed L v (L.m)).getD k au)>0)=false:=c;refine cH zE ⟨k+1,a,λi hi=>?_⟩ (dp a) ?_
  .by_cases h1:i<k
   .exact hno i h1
   rw[hm i hi h1];exact dQ λq=>eY c q.1
  exact dD [] ⟨rfl,rfl,rfl,rfl,rfl,c9 rfl (je a hL),bP⟩ trivial
 have IF:=IC (p:=λj=>decide (0<R j/\D (L.lt j)=D v-1)) (l:=ed L v (L.m)) (λi hi=>hno i (by have hi:i<(ed L v (L.m)).length:=hi;omega));exact dP (hJ.symm.trans IF) (by simp)
theorem ah9(L:Lg)(R:Nat->Int)(F:List Int)(n:Nat)(gT:∀ j:Nat,j<L.m->cJ ab 77 (.int .i64 j::[.ip 1 (bT [eD F])]) (.int .i64 (R j),none))(P:List Nat)(hP:∀ j∈P,j<L.m)(hp:P.length<=1000000):cJ ab 80 [.ip 3 (bT (kq L n (.fn 77 [.ip 1 (bT [eD F])]))),.sl 1 P.length (cO nN P)] (.int .i64 (gF R P 1099511627776),none):=by
 obtain⟨x0,hR⟩:∃ x0,x0=gF R P 1099511627776:=⟨_,rfl⟩;rw[<-hR];refine c8 CM aj rfl ?_;refine zG zE ?_;refine ak (σ:={ p:Nat×Int // p.1<=P.length/\gF R (P.drop p.1) p.2=x0 }) (λp=>[(0,.ip 3 (bT (kq L n (.fn 77 [.ip 1 (bT [eD F])])))),(5,.int .i64 p.1.2),(8,.sl 1 P.length (cO nN P)),(9,.int .i64 P.length),(10,.int .i64 (p.1.1:Nat))]) (λp=>[]) (λp=>P.length-p.1.1) ⟨(0,1099511627776),bh _,hR.symm⟩ ?_ ?_
 .exact cB [] ⟨rfl,rfl,rfl,rfl,rfl,bP⟩ trivial
 rintro⟨⟨k,x⟩,hk,hx⟩;have hk:k<=P.length:=hk;have hx:gF R (P.drop k) x=x0:=hx;by_cases a:k<P.length
 .have hj:=hP (P.getD k au) (by rw[cV a];exact aB _);rw[drop_cons a,gF]at hx;refine cD zE (er (show k<P.length by omega)) (bU zE (cZ a) (cj zE (gT (P.getD k au) hj) (cH zE ⟨(k+1,_),a,hx⟩ (by show P.length-(k+1)<P.length-k;omega) ?_)));refine cB [] ⟨rfl,c9 rfl ?_,rfl,rfl,c6 a,bP⟩ trivial;rfl
 have a:P.length=k:=by omega
 subst a;refine b8 zE eF (dt zE rfl zE ?_);rw[ba,gF]at hx;refine cL zE rfl rfl (bY.lr hx)
def kv(l:List dR)(n s t:Nat):List Int:=(aI l.length).map (kx (b9 l) n s t)
structure re(l:List dR)(n s t f:Nat)(F:List Int):Prop where
 ok:Ix l F
 fl:iO (b9 l) n s t (dh F)
 b:Au (b9 l) s-dL (b9 l) (dh F) s<(f:Int)
 r:xT (b9 l) n s t f (dh F)=kx (b9 l) n s t
theorem RT{n k:Nat}{d:Int}(h:k<n):(aL n (0:Int)).getD k d=0:=by
 rw[aH,List.getElem?_replicate,bS h];rfl
theorem re.start{l:List dR}{n s t:Nat}(h:∀ a∈l,mh n a)(hG:iF (b9 l) n s t):re l n s t ((Au (b9 l) s).toNat+1) (aL l.length 0):=by
 have e:dh (aL l.length 0)=xU:=by
  funext k;unfold dh xU;by_cases a:k<l.length
  .rw[RT a]
  rw[aH,List.getElem?_eq_none (by rw[aS];omega)];rfl
 have hc:∀ k,k<l.length->0<=(l.getD k au).cap:=λk hk=>(h _ (by rw[cV hk];exact aB _)).cap.1;refine⟨⟨by rw[aS],λa ha=>(h a ha).cap,λk hk=>?_⟩,?_,?_,?_⟩
 .rw[e];exact⟨ay _,hc k hk⟩
 .rw[e];exact RU hc
 .rw[e,IG];omega
 rw[e];rfl
theorem re.done{l:List dR}{n s t f:Nat}{F:List Int}(h:re l n s t f F)(hG:iF (b9 l) n s t)(hd:eL (en (b9 l)) (rm (b9 l) (dh F)) n t s<0):F=kv l n s t:=by
 have e:dh F=kx (b9 l) n s t:=by
  rw[<-h.r];cases f with
  |zero=>rfl
  |succ f=>exact(bS hd).symm
 refine List.ext_getElem (by rw[h.ok.len];simp[kv]) λk h1 h2=>?_;have e1:F[k]=dh F k:=by unfold dh;rw[aH,List.getElem?_eq_getElem h1];rfl
 rw[e1,e];simp[kv]
theorem IH(L:Lg)(R D:Nat->Int)(t:Nat):∀ f v,(kO L R D t f v).length<=f
 |0,v=>bl _
 |f+1,v=>by
  unfold kO;split
  .exact bh _
  split
  .exact Nat.succ_le_succ (IH L R D t f _)
  exact bh _
theorem re.next{l:List dR}{n s t f:Nat}{F:List Int}(h:re l n s t f F)(hG:iF (b9 l) n s t)(hd:0<=eL (en (b9 l)) (rm (b9 l) (dh F)) n t s):
  0<gF (rm (b9 l) (dh F)) (lO (b9 l) n s t (dh F)) 1099511627776/\gF (rm (b9 l) (dh F)) (lO (b9 l) n s t (dh F)) 1099511627776<=1099511627776/\ ∃f',f=f'+1/\ ∀F',F'.length=F.length->dh F'=lP (gF (rm (b9 l) (dh F)) (lO (b9 l) n s t (dh F)) 1099511627776) (dh F) (lO (b9 l) n s t (dh F))->re l n s t f' F':=by
 obtain⟨h1,h2⟩:=RV hG h.fl hd;have h3:=RW hG h.fl;have h4:=h.b;have hlf:=Av hG;obtain⟨hb,_⟩:=ss (R:=rm (b9 l) (dh F)) hlf hG.lt;obtain⟨p1,p2,p3⟩:=Aw hb (eL (en (b9 l)) (rm (b9 l) (dh F)) n t s).toNat s hd (by omega);refine⟨Eu (by omega) λj hj=>(p3 j hj).2.1,(Ax _ _ _).1,f-1,by omega,λF' hl hF=>?_⟩;have e:dh F'=once (b9 l) n s t (dh F):=hF;refine⟨⟨by rw[hl];exact h.ok.len,h.ok.dv,λk hk=>?_⟩,?_,?_,?_⟩
 .rw[e];exact⟨h1.lo k hk,h1.hi k hk⟩
 .rw[e];exact h1
 .rw[e];omega
 obtain⟨f,rfl⟩:∃ f',f=f'+1:=⟨f-1,by omega⟩;rw[e,<- h.r];exact(bQ (by omega)).symm
theorem RX:∀ {P:List Nat} {k:Nat},(ml P).Nodup->k<P.length->(P.getD k au)/2∉ml (P.take k)
 |[],k,_,h=>dP h (bg k)
 |j::P,0,_,_=>λh=>by cases h
 |j::P,k+1,hn,hk=>by
  have hn:(j/2::ml P).Nodup:=hn;rw[aX]at hn;have hk':=bp hk;have e:(j::P).getD (k+1) au=P.getD k au:=rfl;rw[e];show _∉j/2::ml (P.take k);rw[aQ];rintro(h|h)
  .exact hn.1 (by rw[<-h];exact II (by rw[cV hk'];exact aB _))
  exact RX hn.2 hk' h
theorem IJ(r:Int)(j:Nat):∀ (P:List Nat) (F:Nat->Int),lP r F (P++[j])=push r (lP r F P) j
 |[],F=>rfl
 |i::P,F=>IJ r j P (push r F i)
theorem Ev{E:List Int}{i:Nat}{x:Int}(h:i<E.length):dh (E.set i x)=λk=>if k=i then x else dh E k:=by
 funext k;unfold dh;rw[aH,aH,List.getElem?_set];by_cases e:i=k
 .rw[bS e,bS (e▸h),bS e.symm];rfl
 rw[bQ e,bQ (λq=>e q.symm)]
theorem IK{E:List Int}{i q j:Nat}{x w:Int}{a:Nat->A}(hw:w=(i:Int))(hi:i<E.length)(ha:a 0= .int .i64 x)(hj:j<1):(if q=w.toNat/\0<=j/\j<0+(0+1)then a (j-0)else cO nC E q j)=cO nC (E.set i x) q j:=by
 obtain rfl:j=0:=by omega
 subst hw;have h:=congrFun (Ev (x:=x) hi) q;have e:cO nC (E.set i x) q 0= .int .i64 (dh (E.set i x) q):=rfl;rw[e,h,av];by_cases c:q=i
 .rw[bS ⟨c,bl _,by omega⟩,bS c];exact ha
 rw[bQ (λq=>c q.1),bQ c];rfl
def RY(l:List dR)(n:Nat):List A:=kq (en (b9 l)) n (.fn 187 [.ptr 68 0,.ptr 69 0])
theorem RZ(n:Nat)(l:List dR)(s t:Nat)(hn:n<=2000)(hl:l.length<=20000)(h:∀ a∈l,mh n a)(hs:s<n)(ht:t<n)(hst:s≠t):cJ ab 67 [.int .i64 (n:Nat),fL l,.int .i64 (s:Nat),.int .i64 (t:Nat)] (.cG [eD (kv l n s t),.ip 3 (bT (kq (en (b9 l)) n (RM l (kv l n s t))))],none):=by
 have hG:=Ay h hs ht hst;refine c8 Eo Tryz.func67 rfl ?_;refine bU zE (by show decide (0<=(l.length:Int)/\(l.length:Int)<=(l.length:Int)/\(l.length:Int).toNat*(7+1+1)<=du)=true;exact cw (by simp only[du];omega)) (cN zE ?_);refine bU zE (by show decide (0<=(n:Int)/\(n:Int)<=(n:Int)/\(n:Int).toNat*(23+1+1)<=du)=true;exact cw (by simp only[du];omega)) (bU zE (by show decide (0<=(n:Int)/\(n:Int)<=(n:Int)/\(n:Int).toNat*(23+1+1)<=du)=true;exact cw (by simp only[du];omega)) ?_);refine eG zE l.length (λk=>[(7,.ptr 114 0),(13,fL l),(14,.int .i64 l.length),(15,.int .i64 (k:Nat))]) (λk=>[(68,.box [fL l]),(69,.box [.own 19]),(109,.dead),(111,.dead),(114,.box [.rv 110 n,.rv 112 n,.fn 187 [.ptr 68 0,.ptr 69 0]]),(110,pg (en (b9 l)) (λv=>ed (en (b9 l)) v (2*k)) n),(112,pg (en (b9 l)) (λv=>dI (en (b9 l)) v (2*k)) n)]) ?_ ?_
 .refine((Az 109 110 180 3 (by rfl) (λk hk=>rfl) rfl).cell 114 0 rfl rfl rfl).gv.trans ?_;refine((Az 111 112 180 3 (by rfl) (λk hk=>rfl) rfl).cell 114 1 rfl rfl rfl).gv.trans ?_;exact dD [] ⟨rfl,rfl,rfl,rfl,bP⟩ ⟨bV,bV,rfl,rfl,bV,⟨_,_,_,rfl,λi hi=>⟨rfl,λq hq=>dP hq (bg q)⟩,(by exact bP)⟩,⟨_,_,_,rfl,λi hi=>⟨rfl,λq hq=>dP hq (bg q)⟩,(by exact bP)⟩,bP⟩
 rintro⟨k,(hk:k<=l.length)⟩;by_cases a:k<l.length
 .have ok:=h (l.getD k au) (by rw[cV a];exact aB _);refine cD zE (er (show k<l.length by omega)) (bU zE (cZ a) ?_);have iu:=ok.fr;have jK:=ok.to;have e:=ah1 l k;have e':=ah2 l k;have hw:∀ x:Nat,x<=40001->aa.wrap (x:Int)=(x:Int):=λx hx=>dG;refine zG zE (NS.xo (P:=ab) (vals:=_) (objs1:=gO n (en (b9 l)) (2*k) 115 110 112 (.fn 187 [.ptr 68 0,.ptr 69 0]) (xR l++[(73,Ob.box (l.getD k au).cells)])) (jJ.refl _) (by kernel_rfl) (db.cons (bY.refl _) (db.cons (bY.lr (hw (2*k) (by omega))) (db.cons (bY.lr (by rw[e.1];show(l.getD k au).fr=_;omega)) (db.cons (bY.lr (by rw[e.2];show(l.getD k au).to=_;omega)) db.nil)))) (by kernel_rfl) (ahY n l (l.getD k au) (2*k) hn (by omega) (by omega) (by omega)) rfl ?_);refine zG zE (NS.xo (P:=ab) (vals:=_) (objs1:=gO n (en (b9 l)) (2*k+1) 118 116 117 (.fn 187 [.ptr 68 0,.ptr 69 0]) (xR l++[(110,Ob.dead),(112,Ob.dead),(73,Ob.box (l.getD k au).cells)])) (jJ.refl _) (by kernel_rfl) (db.cons (bY.refl _) (db.cons (bY.lr (by show aa.wrap (aa.wrap ((2*k:Nat):Int)+1)=_;rw[hw (2*k) (by omega)];exact hw (2*k+1) (by omega))) (db.cons (bY.lr (by rw[e'.1];show(l.getD k au).to=_;omega)) (db.cons (bY.lr (by rw[e'.2];show(l.getD k au).fr=_;omega)) db.nil)))) (by kernel_rfl) (ahZ n l (l.getD k au) (2*k+1) hn (by omega) (by omega) (by omega)) rfl ?_);refine cH zE ⟨k+1,a⟩ (dp a) ?_;exact dD [(110,119),(112,120)] ⟨rfl,rfl,rfl,c6 a,bP⟩ ⟨bV,bV,rfl,rfl,bV,⟨_,_,_,rfl,λi hi=>⟨rfl,λq hq j hj=>rfl⟩,(by exact bP)⟩,⟨_,_,_,rfl,λi hi=>⟨rfl,λq hq j hj=>rfl⟩,(by exact bP)⟩,bP⟩
 obtain rfl:k=l.length:=by omega
 refine b8 zE eF (dt zE rfl zE ?_);refine Sat.wk (((AA 110 rfl).cell 114 0 rfl rfl rfl).trans ((AA 112 rfl).cell 114 1 rfl rfl rfl)).gv ?_;refine zG zE ?_;refine ak (σ:={ p:Nat×List Int // re l n s t p.1 p.2 }) (λp=>[(0,.int .i64 (n:Nat)),(1,fL l),(2,.int .i64 (s:Nat)),(3,.int .i64 (t:Nat)),(10,.own 19),(11,.ptr 114 0)]) (λp=>[(19,.row 3 1 p.1.2.length (cO nC p.1.2)),(68,.box [fL l]),(69,.box [.own 19]),(114,.box (RY l n))]) (λp=>p.1.1) ⟨(_,aL l.length 0),re.start h hG⟩ ?_ ?_
 .refine cB [] ⟨rfl,rfl,rfl,rfl,rfl,rfl,bP⟩ ⟨df rfl (by show l.length=(aL l.length (0:Int)).length;simp) (λq hq j hj=>?_),bV,bV,bV,bP⟩;rw[bj.1 hj];show A.int .i64 0=A.int .i64 ((aL l.length (0:Int)).getD q au);rw[RT (by have hq:q<(aL l.length (0:Int)).length:=hq;rwa[aS]at hq)]
 rintro⟨⟨f,F⟩,hp⟩;have hp:re l n s t f F:=hp;have hlf:=Av hG;have hlt:=R0 hG;have uc:(en (b9 l)).m<=40000:=by show 2*l.length<=40000;omega
 have gT:∀ j:Nat,j<(en (b9 l)).m->cJ ab 187 [.int .i64 j,.ip 1 (bT [fL l]),.ip 1 (bT [eD F])] (.int .i64 (rm (b9 l) (dh F) j),none):=λj hj=>RN l F hp.ok j (by have hj:j<2*l.length:=hj;omega) (by have hj:j<2*l.length:=hj;omega);by_cases hd:eL (en (b9 l)) (rm (b9 l) (dh F)) n t s<0
 .refine cj zE (ah4 _ _ l F n s t uc hn hs ht hlf gT hd) (cD zE (rfl) ?_);have e:F=kv l n s t:=hp.done hG hd;subst e;exact zG zE (al rfl rfl (bY.refl _))
 have hd:0<=eL (en (b9 l)) (rm (b9 l) (dh F)) n t s:=by omega
 have pk:=ah5 _ _ l F n s t uc hn hs ht hlf gT hlt hd;change cJ _ _ _ (_,some (kM (lO (b9 l) n s t (dh F))))at pk;refine cj zE (pk) (b8 zE (rfl) ?_);have hle:=Es (R:=rm (b9 l) (dh F)) hlf ht s;obtain⟨hb,_⟩:=ss (R:=rm (b9 l) (dh F)) hlf ht;obtain⟨p1,p2,p3⟩:=Aw hb (eL (en (b9 l)) (rm (b9 l) (dh F)) n t s).toNat s hd (by omega);have p4:(lO (b9 l) n s t (dh F)).length<=(eL (en (b9 l)) (rm (b9 l) (dh F)) n t s).toNat:=IH _ _ _ _ _ _;have p5:∀ j∈lO (b9 l) n s t (dh F),j<(en (b9 l)).m:=λj hj=>(p3 j hj).1;have p2:(ml (lO (b9 l) n s t (dh F))).Nodup:=IL p2 λj hj=>(p3 j hj).2.2.1;have p3:∀ j∈lO (b9 l) n s t (dh F),j/2<l.length:=λj hj=>vG (p5 j hj);have lk:=ah6 (en (b9 l)) _ l F n gT (lO (b9 l) n s t (dh F)) p5 (by omega);have xV:=hp.next hG hd;obtain⟨r,hr⟩:∃ r,r=gF (rm (b9 l) (dh F)) (lO (b9 l) n s t (dh F)) 1099511627776:=⟨_,rfl⟩;rw[<-hr]at lk xV;generalize lO (b9 l) n s t (dh F)=P at*;refine cj zE (lk) ?_;refine zG zE ?_;have hlF:=hp.ok.len;refine ak (σ:={ p:Nat×List Int // p.1<=P.length/\p.2.length=F.length/\dh p.2=lP r (dh F) (P.take p.1) }) (λp=>[(0,.int .i64 (n:Nat)),(1,fL l),(2,.int .i64 (s:Nat)),(3,.int .i64 (t:Nat)),(10,.own 19),(11,.ptr 114 0),(14,.int .i64 r),(38,.own 28),(39,.int .i64 P.length),(40,.int .i64 (p.1.1:Nat))]) (λp=>[(19,.row 3 1 p.1.2.length (cO nC p.1.2)),(28,kM P),(68,.box [fL l]),(69,.box [.own 19]),(114,.box (RY l n))]) (λp=>P.length-p.1.1) ⟨(0,F),bh _,rfl,rfl⟩ ?_ ?_
 .exact cB [] ⟨rfl,rfl,rfl,rfl,rfl,rfl,rfl,rfl,rfl,rfl,bP⟩ ⟨ee,ee,bV,bV,bV,bP⟩
 rintro⟨⟨k,E⟩,hk,hE,hF⟩;have hk:k<=P.length:=hk;have hE:E.length=F.length:=hE;have hF:dh E=lP r (dh F) (P.take k):=hF;by_cases a:k<P.length
 .obtain⟨J,hJ⟩:∃ J,J=P.getD k au:=⟨_,rfl⟩;have hj2:=p3 J (by rw[hJ,cV a];exact aB _);have e1:((J:Nat):Int).tmod 2=((J%2:Nat):Int):=rfl;have e2:aa.wrap (((J:Nat):Int).tdiv 2)=((J/2:Nat):Int):=by rw[show((J:Nat):Int).tdiv 2=((J/2:Nat):Int)from rfl];exact dG
  have Ew:dh E (J/2)=dh F (J/2):=by rw[hF];exact AB (by rw[hJ];exact RX p2 a)
  obtain⟨mO,fD,_⟩:=xV;have Ey:=hp.ok.c7 (J/2) hj2;have hca:=(hp.ok.dv (l.getD (J/2) au) (by rw[cV hj2];exact aB _)).2;have su:J/2<E.length:=by omega
  have e3:aa.wrap (((P.getD k au:Nat):Int).tdiv 2)=((J/2:Nat):Int):=by rw[<-hJ];exact e2
  have qj:decide (0<=aa.wrap (((J:Nat):Int).tdiv 2)/\aa.wrap (((J:Nat):Int).tdiv 2)<(E.length:Int))=true:=by rw[e2];exact cw (by omega)
  have IM:decide ((aa.wrap (((J:Nat):Int).tdiv 2)).toNat<E.length)=true:=by rw[e2];exact cw (by omega)
  rw[hJ]at qj IM;refine cD zE (er (show k<P.length by omega)) (bU zE (cZ a) (bU zE (gw a) (bU zE (rfl) (cK zE (λb=>?_) (λb=>?_)))))
  .have cW:J%2=0:=by have b:((((P.getD k au:Nat):Int).tmod 2)==0)=true:=b;rw[<-hJ,e1]at b;have:=ie b;omega
   refine bU zE (rfl) ?_
   repeat' (first|(refine cN zE ?_)|(refine bU zE (rfl) ?_)|(refine bU zE (qj) ?_)|(refine bU zE (IM) ?_)|(fail))
   refine cH zE ⟨(k+1,E.set (J/2) (E.getD (J/2) 0+r)),a,by show(E.set _ _).length=F.length;rw[aM,hE],?_⟩ (by show P.length-(k+1)<P.length-k;omega) ?_
   .show dh (E.set (J/2) _)=lP r (dh F) (P.take (k+1));rw[gg a,IJ,<- hF,<- hJ,Ev su];unfold push;funext q;by_cases e:q=J/2
    .rw[bS e,bS e,bS cW,e];rfl
    rw[bQ e,bQ e]
   refine cB [] ⟨rfl,rfl,rfl,rfl,rfl,rfl,rfl,rfl,rfl,c6 a,bP⟩ ⟨df rfl (by show E.length=(E.set _ _).length;rw[aM]) (λq hq j hj=>IK (i:=J/2) e3 su ?_ hj),ee,bV,bV,bV,bP⟩;show A.int .i64 (aa.wrap (E.getD (aa.wrap (((P.getD k au:Nat):Int).tdiv 2)).toNat au+r))=A.int .i64 (E.getD (J/2) 0+r);rw[<-hJ,e2];have Ew:E.getD (J/2) 0=dh F (J/2):=Ew;show A.int .i64 (aa.wrap (E.getD (J/2) 0+r))=_;rw[dG]
  have cW:¬ J%2=0:=by
   have b:((((P.getD k au:Nat):Int).tmod 2)==0)=false:=b;rw[<-hJ,e1]at b;intro q;rw[q]at b;cases b
  refine bU zE (rfl) ?_
  repeat' (first|(refine cN zE ?_)|(refine bU zE (rfl) ?_)|(refine bU zE (qj) ?_)|(refine bU zE (IM) ?_)|(fail))
  refine cH zE ⟨(k+1,E.set (J/2) (E.getD (J/2) 0-r)),a,by show(E.set _ _).length=F.length;rw[aM,hE],?_⟩ (by show P.length-(k+1)<P.length-k;omega) ?_
  .show dh (E.set (J/2) _)=lP r (dh F) (P.take (k+1));rw[gg a,IJ,<- hF,<- hJ,Ev su];unfold push;funext q;by_cases e:q=J/2
   .rw[bS e,bS e,bQ cW,e];rfl
   rw[bQ e,bQ e]
  refine cB [] ⟨rfl,rfl,rfl,rfl,rfl,rfl,rfl,rfl,rfl,c6 a,bP⟩ ⟨df rfl (by show E.length=(E.set _ _).length;rw[aM]) (λq hq j hj=>IK (i:=J/2) e3 su ?_ hj),ee,bV,bV,bV,bP⟩;show A.int .i64 (aa.wrap (E.getD (aa.wrap (((P.getD k au:Nat):Int).tdiv 2)).toNat au-r))=A.int .i64 (E.getD (J/2) 0-r);rw[<-hJ,e2];have Ew:E.getD (J/2) 0=dh F (J/2):=Ew;show A.int .i64 (aa.wrap (E.getD (J/2) 0-r))=_;rw[dG]
 have a:P.length=k:=by omega
 subst a;rw[aP]at hF;refine b8 zE eF (dt zE rfl zE ?_);obtain⟨mO,fD,f',rfl,hq⟩:=xV;refine cH zE ⟨(f',E),hq E hE hF⟩ (bk f') ?_;exact cB [] ⟨rfl,rfl,rfl,rfl,rfl,rfl,bP⟩ ⟨ee,bV,bV,bV,bP⟩
theorem AD{l:List dR}{k:Nat}(n s t:Nat)(hk:k<l.length):(kv l n s t).getD k 0=kx (b9 l) n s t k:=by
 unfold kv;rw[aH,List.getElem?_map,List.getElem?_range hk];rfl
theorem aia(n:Nat)(l:List dR)(s t:Nat)(hn:n<=2000)(hl:l.length<=20000)(h:∀ a∈l,mh n a)(hs:s<n)(ht:t<n)(hst:s≠t):cJ ab 57 [.int .i64 (n:Nat),fL l,.int .i64 (s:Nat),.int .i64 (t:Nat)] (.cG [eD (kv l n s t),.int .i64 (AE (b9 l) n s t),.int .i64 0],none):=by
 refine c8 CM Tryz.func57 rfl ?_;refine cj zE (El n l hn hl h) (b8 zE (rfl) (cj zE (Il n s t hs ht hst) (b8 zE (rfl) (cj zE (RZ n l s t hn hl h hs ht hst) ?_))));have hG:=Ay h hs ht hst;have hc:∀ k,k<l.length->0<=(l.getD k au).cap/\(l.getD k au).cap<=1099511627776:=λk hk=>(h _ (by rw[cV hk];exact aB _)).cap;have hmx:=(xW hG (λk hk=>(hc k hk).1)).1;have hv:=RD n l (kv l n s t) s hl h (by simp[kv]) (λk hk=>by
  rw[AD n s t hk];have h1:=hmx.lo k hk;have h2:=hmx.hi k hk;have h3:=(hc k hk).2;have h2:kx (b9 l) n s t k<=(l.getD k au).cap:=h2;omega)
 rw[show dL (b9 l) (eE (kv l n s t)) s=AE (b9 l) n s t from iW λk hk=>by unfold gk;rw[show eE (kv l n s t) k=kx (b9 l) n s t k from AD n s t hk]]at hv;exact cj zE (hv) (cL zE rfl rfl (bY.refl _))
end Go.Proofs.YtjhmdfofhnijeaaGreatDoor
namespace Go.Sy
open Go.RowKit
theorem xX{B:Nat}{st:St}(b:Nat){e c n:Nat}{el el':Nat->Nat->A}(hb:bZ st.bR b= .row e c n el)(hle:∀ i,i<n-> ∀j,j<c->bY (el i j) (el' i j)):eo B st ⟨st.tmps,cM st.bR b (.row e c n el')⟩:=by
 intro w0 X a w ρ h;refine⟨ρ,⟨h.len,h.tmp,λid=>?_,h.dJ,h.kept,h.new,h.fu,h.jM⟩,ju.refl _ _ _ _⟩;simp only[ef];by_cases cn:id=b
 .subst cn;rw[bS rfl];have cy:=h.obj id;rw[hb]at cy;obtain⟨v,xs,h1,h2,h3,h4⟩:=cy;refine⟨v,xs,h1,h2,h3,λi hi j hj=>?_⟩;obtain⟨u,h5,h6⟩:=h4 i hi j hj;exact⟨u,h5,hle i hi j hj _ _ _ _ h6⟩
 rw[bQ cn];exact h.obj id
end Go.Sy
namespace Go.Proofs.YtjhmdfofhnijeaaGreatDoor
open Go.Sy Go.Mb
set_option maxRecDepth 100000
set_option maxHeartbeats 4000000
def lQ(G:Net)(F:Nat->Int)(k:Nat)(v:Nat):Int:=-(ez (gk G F v) k)
theorem aib(G:Net)(F:Nat->Int)(k v:Nat):lQ G F (k+1) v=lQ G F k v-(if G.fr k=v then F k else 0)+(if G.to k=v then F k else 0):=by
 unfold lQ gk;simp only[ez];omega
theorem R1{D:Nat->Int}{i:Nat}{x:Int}{a:Nat->A}(ha:a 0= .int .i64 x)(q j:Nat)(hj:j<1):(if q=i/\0<=j/\j<0+(0+1)then a (j-0)else kr D q j)=kr (λv=>if v=i then x else D v) q j:=by
 obtain rfl:j=0:=by omega
 simp only[kr];by_cases e:q=i
 .rw[bS ⟨e,bl _,by omega⟩,bS e];exact ha
 rw[bQ (λc=>e c.1),bQ e]
theorem R2(n:Nat)(l:List dR)(F:List Int)(s t:Nat)(hn:n<=2000)(hl:l.length<=20000)(h:∀ a∈l,mh n a)(hs:s<n)(ht:t<n)(hst:s≠t)(hF:F.length=l.length)(hf:iO (b9 l) n s t (eE F)):cJ ab 74 [.int .i64 (n:Nat),fL l,eD F,.int .i64 (s:Nat),.int .i64 (t:Nat)] (.cG [.int .i64 (dL (b9 l) (eE F) s),.int .i64 0],none):=by
 have sv:∀ k,k<l.length->0<=F.getD k 0/\F.getD k 0<=(l.getD k au).cap/\(l.getD k au).cap<=1099511627776:=λk hk=>⟨hf.lo k hk,hf.hi k hk,(h (l.getD k au) (by rw[cV hk];exact aB _)).cap.2⟩;have hv:=RD n l F s hl h hF λk hk=>by have:=sv k hk;omega
 have hex:∀ k,k<=l.length-> ∀v,-(1099511627776*20000)<=lQ (b9 l) (eE F) k v/\lQ (b9 l) (eE F) k v<=1099511627776*20000:=λk hk v=>by
  have hbd:=Em (g:=gk (b9 l) (eE F) v) (b:=1099511627776) (m:=k) λi hi=>by
   have:=sv i (by omega);have Im:eE F i=F.getD i 0:=rfl;unfold gk;rw[Im];split<;>split<;>omega
  unfold lQ;omega
 refine c8 CM Tryz.func74 rfl ?_;refine cj zE (El n l hn hl h) (b8 zE (rfl) (cj zE (Il n s t hs ht hst) (b8 zE (rfl) (b8 zE (by show((F.length:Int)!=(l.length:Int))=false;rw[hF];exact np _) (bU zE (by show decide (0<=(n:Int)/\(n:Int)<=(n:Int)/\(n:Int).toNat*(7+1+1)<=du)=true;exact cw (by simp only[du];omega)) ?_)))));refine eG zE l.length (λk=>[(1,fL l),(2,eD F),(3,.int .i64 (s:Nat)),(4,.int .i64 (t:Nat)),(14,.own 38),(39,fL l),(40,.int .i64 l.length),(41,.int .i64 (k:Nat))]) (λk=>[(38,mi (lQ (b9 l) (eE F) k) n)]) ?_ ?_
 .exact cB [] ⟨rfl,rfl,rfl,rfl,rfl,rfl,rfl,rfl,bP⟩ ⟨df rfl rfl (λq hq j hj=>by rw[bj.1 hj];rfl),bP⟩
 rintro⟨k,(hk:k<=l.length)⟩;by_cases a:k<l.length
 .have ok:=h (l.getD k au) (by rw[cV a];exact aB _);refine cD zE (er (show k<l.length by omega)) (bU zE (cZ a) ?_);have hfa:=sv k a;have iu:=ok.fr;have jK:=ok.to;have hcap:=ok.cap;have hx1:=hex k hk (l.getD k au).fr.toNat;have vH:=hex k hk (l.getD k au).to.toNat;have q1:decide (0<=(k:Int)/\(k:Int)<(F.length:Int))=true:=cw (by omega);have q2:decide (0<=(l.getD k au).fr/\(l.getD k au).fr<(n:Int))=true:=cw iu;have AF:decide ((l.getD k au).fr.toNat<n)=true:=cw (by omega);have q3:decide (0<=(l.getD k au).to/\(l.getD k au).to<(n:Int))=true:=cw jK;have IP:decide ((l.getD k au).to.toNat<n)=true:=cw (by omega);have q4:decide (F.getD k 0<0)=false:=dQ (by omega);have q5:decide (F.getD k 0>(l.getD k au).cap)=false:=dQ (by omega)
  repeat' (first|(refine cN zE ?_)|(refine bU zE (q1) ?_)|(refine b8 zE (q4) ?_)|(refine b8 zE (q5) ?_)|(fail))
  refine bU zE (q2) (bU zE (AF) (bU zE (q1) (bU zE (q2) (bU zE (AF) ?_))));refine Sat.goN 1 (Eq.refl _) (NS.stop ?_);refine Sat.wk (xX 38 (el':=kr λv=>if v=(l.getD k au).fr.toNat then lQ (b9 l) (eE F) k (l.getD k au).fr.toNat-F.getD k 0 else lQ (b9 l) (eE F) k v) rfl λq hq j hj=>bY.of (R1 ?_ q j hj)) ?_
  .show A.int .i64 (aa.wrap (lQ (b9 l) (eE F) k (l.getD k au).fr.toNat-F.getD k 0))=_;rw[dG]
  repeat' (first|(refine cN zE ?_)|(refine bU zE (q3) ?_)|(refine bU zE (IP) ?_)|(refine bU zE (q1) ?_)|(fail))
  refine cH zE ⟨k+1,a⟩ (dp a) ?_;refine cB [] ⟨rfl,rfl,rfl,rfl,rfl,rfl,rfl,c6 (n:=l.length) a,bP⟩ ⟨df rfl rfl (λq hq j hj=>(R1 (i:=(l.getD k au).to.toNat) (x:=(if(l.getD k au).to.toNat=(l.getD k au).fr.toNat then lQ (b9 l) (eE F) k (l.getD k au).fr.toNat-F.getD k 0 else lQ (b9 l) (eE F) k (l.getD k au).to.toNat)+F.getD k 0) ?_ q j hj).trans ?_),bP⟩
  .show A.int .i64 (aa.wrap ((if(l.getD k au).to.toNat=(l.getD k au).fr.toNat then lQ (b9 l) (eE F) k (l.getD k au).fr.toNat-F.getD k 0 else lQ (b9 l) (eE F) k (l.getD k au).to.toNat)+F.getD k 0))=_;rw[wrap_i64 (by split<;>omega) (by split<;>omega)]
  simp only[kr];rw[aib];have g1:(b9 l).fr k=(l.getD k au).fr.toNat:=rfl;have g2:(b9 l).to k=(l.getD k au).to.toNat:=rfl;have g3:eE F k=F.getD k 0:=rfl;rw[g1,g2,g3];refine fU (A.int .i64) ?_;by_cases e1:q=(l.getD k au).to.toNat<;>by_cases e2:q=(l.getD k au).fr.toNat
  .rw[bS e1,bS (e1.symm.trans e2),bS e2.symm,bS e1.symm,e2]
  .rw[bS e1,bQ (λc=>e2 (e1.trans c)),bQ (bx e2),bS e1.symm,e1];omega
  .rw[bQ e1,bS e2,bS e2.symm,bQ (bx e1),e2];omega
  rw[bQ e1,bQ e2,bQ (bx e2),bQ (bx e1)];omega
 obtain rfl:k=l.length:=by omega
 refine b8 zE eF (dt zE rfl zE ?_);refine eG zE n (λk=>[(1,fL l),(2,eD F),(3,.int .i64 (s:Nat)),(4,.int .i64 (t:Nat)),(83,.own 38),(84,.int .i64 (n:Nat)),(85,.int .i64 (k:Nat))]) (λk=>[(38,mi (lQ (b9 l) (eE F) l.length) n)]) ?_ ?_
 .exact cB [] ⟨rfl,rfl,rfl,rfl,rfl,rfl,rfl,bP⟩ ⟨ee,bP⟩
 rintro⟨k,(hk:k<=n)⟩;by_cases a:k<n
 .refine cD zE (er (show k<n by omega)) (bU zE (cZ a) (bU zE (gw a) ?_));by_cases e1:k=s
  .refine b8 zE (by subst e1;exact np _) (cH zE ⟨k+1,a⟩ (dp a) ?_);exact cB [] ⟨rfl,rfl,rfl,rfl,rfl,rfl,c6 a,bP⟩ ⟨ee,bP⟩
  refine cD zE (by show((k:Int)!=(s:Int))=true;exact bne_iff_ne.2 (by omega)) ?_;by_cases e2:k=t
  .refine b8 zE (by subst e2;exact np _) (cH zE ⟨k+1,a⟩ (dp a) ?_);exact cB [] ⟨rfl,rfl,rfl,rfl,rfl,rfl,c6 a,bP⟩ ⟨ee,bP⟩
  refine cD zE (by show((k:Int)!=(t:Int))=true;exact bne_iff_ne.2 (by omega)) ?_;have e3:lQ (b9 l) (eE F) l.length k=0:=by
   have:=hf.vI k a e1 e2;unfold dL at this;unfold lQ;have hm:(b9 l).m=l.length:=rfl;rw[hm]at this;omega
  refine b8 zE (by show(lQ (b9 l) (eE F) l.length k !=0)=false;rw[e3];rfl) (cH zE ⟨k+1,a⟩ (dp a) ?_);exact cB [] ⟨rfl,rfl,rfl,rfl,rfl,rfl,c6 a,bP⟩ ⟨ee,bP⟩
 obtain rfl:k=n:=by omega
 exact b8 zE eF (dt zE rfl zE (cj zE (hv) (cL zE rfl rfl (bY.refl _))))
inductive Reach (L:Lg) (R:Nat->Int) (s:Nat):Nat->Prop
 |refl:Reach L R s s
 |step {j:Nat} (hj:j<L.m) (hr:0<R j) (h:Reach L R s (L.lf j)):Reach L R s (L.lt j)
noncomputable def jv(L:Lg)(R:Nat->Int)(s v:Nat):Bool:=@decide (Reach L R s v) (Classical.propDecidable _)
theorem AG{L:Lg}{R:Nat->Int}{s v:Nat}:jv L R s v=true↔Reach L R s v:=by
 unfold jv;exact @decide_eq_true_iff _ (Classical.propDecidable _)
def iX(S:Nat->Bool)(u:Nat):Nat->Bool:=λk=>if k=u then true else S k
def nq(S:Nat->Bool):Nat->Nat
 |0=>0
 |n+1=>nq S n+(if S n=true then 0 else 1)
theorem R3{S T:Nat->Bool}:∀ {n:Nat},(∀k,k<n->S k=T k)->nq S n=nq T n
 |0,_=>rfl
 |n+1,h=>by simp only[nq];rw[R3 λk hk=>h k (by omega),h n (by omega)]
theorem IQ{S:Nat->Bool}{u:Nat}(hu:S u=false):∀ {n:Nat},u<n->nq (iX S u) n+1=nq S n
 |0,h=>by omega
 |n+1,h=>by
  simp only[nq];by_cases e:n=u
  .subst e;rw[R3 (S:=iX S n) (T:=S) λk hk=>by unfold iX;rw[bQ (by omega)],bS (by unfold iX;rw[bS rfl]),bQ (by rw[hu];decide)]
  have:=IQ (n:=n) hu (by omega);rw[show iX S u n=S n by unfold iX;rw[bQ e]];omega
theorem R4(S:Nat->Bool):∀ n:Nat,nq S n<=n
 |0=>bl _
 |n+1=>by
  have:=R4 S n;simp only[nq];split<;>omega
structure rf(L:Lg)(R:Nat->Int)(n s:Nat)(S:Nat->Bool)(Q:List Nat):Prop where
 hs:S s=true
 r:∀ v,S v=true->Reach L R s v/\v<n
 q:∀ v∈Q,S v=true
 cl:∀ v,S v=true->v∉Q-> ∀j,j<L.m->L.lf j=v->0<R j->S (L.lt j)=true
 b:nq S n+Q.length<=n
structure nV(L:Lg)(R:Nat->Int)(n s v:Nat)(S:Nat->Bool)(Q:List Nat)(k:Nat)(S1:Nat->Bool)(Q1:List Nat):Prop where
 r:∀ u,S1 u=true->Reach L R s u/\u<n
 le:∀ u,S u=true->S1 u=true
 q:∀ u∈Q1,S1 u=true
 ql:∀ u∈Q,u∈Q1
 new:∀ u,S1 u=true->S u=true\/u∈Q1
 dn:∀ i,i<k->0<R ((fO L v).getD i au)->S1 (L.lt ((fO L v).getD i au))=true
 c:nq S1 n+Q1.length=nq S n+Q.length
theorem nV.start{L:Lg}{R:Nat->Int}{n s v:Nat}{S:Nat->Bool}{Q:List Nat}(h:rf L R n s S (v::Q)):nV L R n s v S Q 0 S Q:=
 ⟨h.r,λ_ h=>h,λu hu=>h.q u (aD _ hu),λ_ h=>h,λ_ h=>.inl h,λi hi=>dP hi (bg i),rfl⟩
theorem nV.skip{L:Lg}{R:Nat->Int}{n s v:Nat}{S:Nat->Bool}{Q:List Nat}{k:Nat}{S1:Nat->Bool}{Q1:List Nat}(h:nV L R n s v S Q k S1 Q1)(hd:0<R ((fO L v).getD k au)->S1 (L.lt ((fO L v).getD k au))=true):nV L R n s v S Q (k+1) S1 Q1:=
 ⟨h.r,h.le,h.q,h.ql,h.new,λi hi=>by
  rcases bq i k with h1|h1
  .exact h.dn i h1
  rw[show i=k by omega];exact hd,h.c⟩
theorem nV.push{L:Lg}{R:Nat->Int}{n s v:Nat}{S:Nat->Bool}{Q:List Nat}{k:Nat}{S1:Nat->Bool}{Q1:List Nat}(h:nV L R n s v S Q k S1 Q1)(hk:k<(fO L v).length)(hv:Reach L R s v)(hR:0<R ((fO L v).getD k au))(hS:S1 (L.lt ((fO L v).getD k au))=false)(hn:L.lt ((fO L v).getD k au)<n):
  nV L R n s v S Q (k+1) (iX S1 (L.lt ((fO L v).getD k au))) (Q1++[L.lt ((fO L v).getD k au)]):=by
 have hj:(fO L v).getD k au∈fO L v:=by rw[cV hk];exact aB _
 obtain⟨h1,h2⟩:=vF.1 hj;have R5:Reach L R s (L.lt ((fO L v).getD k au)):=.step h1 hR (by rw[h2];exact hv);obtain⟨J,hJ⟩:∃ J,J=(fO L v).getD k au:=⟨_,rfl⟩;rw[<-hJ]at hR hS hn R5⊢;have hle:∀ u,S1 u=true->iX S1 (L.lt J) u=true:=λu hu=>by
  unfold iX;split
  .rfl
  exact hu
 refine⟨λu hu=>?_,λu hu=>hle u (h.le u hu),λu hu=>?_,λu hu=>aT _ (h.ql u hu),λu hu=>?_,λi hi hr=>?_,?_⟩
 .unfold iX at hu;split at hu
  .rename_i e;rw[e];exact⟨R5,hn⟩
  exact h.r u hu
 .rcases bc.1 hu with hu|hu
  .exact hle u (h.q u hu)
  rw[aR.1 hu];unfold iX;rw[bS rfl]
 .unfold iX at hu;split at hu
  .rename_i e;rw[e];exact .inr (List.mem_append_right _ (aZ _))
  rcases h.new u hu with h3|h3
  .exact .inl h3
  exact .inr (aT _ h3)
 .rcases bq i k with h1|h1
  .exact hle _ (h.dn i h1 hr)
  rw[show i=k by omega,<- hJ];unfold iX;rw[bS rfl]
 have:=IQ hS hn;have:=h.c;simp only[aJ,aC,aN];omega
theorem R6{n:Nat}{l:List dR}{s t:Nat}(h:∀ a∈l,mh n a)(hG:iF (b9 l) n s t):Ix l (kv l n s t):=by
 have hc:∀ k,k<l.length->0<=(l.getD k au).cap:=λk hk=>(h _ (by rw[cV hk];exact aB _)).cap.1;obtain⟨h1,_⟩:=xW hG hc;refine⟨by simp[kv],λa ha=>(h a ha).cap,λk hk=>?_⟩;have e:dh (kv l n s t) k=kx (b9 l) n s t k:=AD n s t hk;rw[e];exact⟨h1.lo k hk,h1.hi k hk⟩
theorem rf.end{L:Lg}{R:Nat->Int}{n s:Nat}{S:Nat->Bool}(h:rf L R n s S []):S=jv L R s:=by
 funext v;have h1:∀ v,Reach L R s v->S v=true:=by
  intro v hv
  induction hv with
  |refl=>exact h.hs
  |step hj hr _ ih=>exact h.cl _ ih (by simp) _ hj rfl hr
 rw[Bool.eq_iff_iff,AG];exact⟨λe=>(h.r v e).1,h1 v⟩
theorem nV.next{L:Lg}{R:Nat->Int}{n s v:Nat}{S:Nat->Bool}{Q:List Nat}(h:rf L R n s S (v::Q)){S1:Nat->Bool}{Q1:List Nat}(h1:nV L R n s v S Q (fO L v).length S1 Q1):rf L R n s S1 Q1:=by
 refine⟨h1.le s h.hs,h1.r,h1.q,λu hu hq j hj e hr=>?_,by have:=h1.c;have:=h.b;simp only[aC]at this;omega⟩;rcases h1.new u hu with h2|h2
 .by_cases e2:u=v
  .subst e2;have hm:j∈fO L u:=vF.2 ⟨hj,e⟩;obtain⟨i,hi,e3⟩:=a8 hm;have:=h1.dn i hi;rw[cV hi,e3]at this;exact this hr
  refine h1.le _ (h.cl u h2 ?_ j hj e hr);intro hm;rcases aQ.1 hm with rfl|hm
  .exact e2 rfl
  exact hq (h1.ql u hm)
 exact(hq h2).elim
def mP(n:Nat)(S:Nat->Bool):List Nat:=(aI n).filter S
def pn(S:Nat->Bool)(i _:Nat):A:=.bool (S i)
def sw(G:Net)(S:Nat->Bool)(k:Nat):Int:=ez (λk=>if S (G.fr k)=true/\S (G.to k)=false then G.cap k else 0) k
theorem R7(n:Nat)(l:List dR)(S:Nat->Bool)(hl:l.length<=20000)(h:∀ a∈l,mh n a):cJ ab 69 [fL l,.sl 1 n (pn S)] (.int .i64 (nr (b9 l) S),none):=by
 have hb:∀ k,k<=l.length->0<=sw (b9 l) S k/\sw (b9 l) S k<=1099511627776*20000:=λk hk=>by
  have:=Em (g:=λk=>if S ((b9 l).fr k)=true/\S ((b9 l).to k)=false then(b9 l).cap k else 0) (b:=1099511627776) (m:=k) λi hi=>by
   have:=(h (l.getD i au) (by rw[cV (show i<l.length by omega)];exact aB _)).cap;have e:(b9 l).cap i=(l.getD i au).cap:=rfl;rw[e];split<;>omega
  have h2:ez (λ_=>0) k<=sw (b9 l) S k:=AH λi hi=>by
   have:=(h (l.getD i au) (by rw[cV (show i<l.length by omega)];exact aB _)).cap;have e:(b9 l).cap i=(l.getD i au).cap:=rfl;rw[e];split<;>omega
  rw[ri]at h2;unfold sw at h2⊢;omega
 refine c8 CM Tryz.func69 rfl ?_;refine eG zE l.length (λk=>[(1,.sl 1 n (pn S)),(5,.int .i64 (sw (b9 l) S k)),(8,fL l),(9,.int .i64 l.length),(10,.int .i64 (k:Nat))]) (λ_=>[]) ?_ ?_
 .exact cB [] ⟨rfl,rfl,rfl,rfl,rfl,bP⟩ trivial
 rintro⟨k,(hk:k<=l.length)⟩;by_cases a:k<l.length
 .have ok:=h (l.getD k au) (by rw[cV a];exact aB _);have iu:=ok.fr;have jK:=ok.to;have hcap:=ok.cap;have hbk:=hb k hk;have hs:sw (b9 l) S (k+1)=sw (b9 l) S k+if S (l.getD k au).fr.toNat=true/\S (l.getD k au).to.toNat=false then(l.getD k au).cap else 0:=rfl
  refine cD zE (er (show k<l.length by omega)) (bU zE (cZ a) (bU zE (by show decide (0<=(l.getD k au).fr/\(l.getD k au).fr<(n:Int))=true;exact cw iu) ?_));cases b1:S (l.getD k au).fr.toNat with
  |false=>
   refine b8 zE (b1) ?_;rw[b1,bQ (by rintro⟨c,_⟩;cases c)]at hs;refine cH zE ⟨k+1,a⟩ (dp a) ?_;exact cB [] ⟨rfl,c9 rfl (by rw[hs];exact(aA _).symm),rfl,rfl,c6 (n:=l.length) a,bP⟩ trivial
  |true=>
   refine cD zE (b1) (bU zE (by show decide (0<=(l.getD k au).to/\(l.getD k au).to<(n:Int))=true;exact cw jK) ?_);cases b2:S (l.getD k au).to.toNat with
   |false=>
    refine cD zE (by show(!(S (l.getD k au).to.toNat))=true;rw[b2];rfl) ?_;rw[b1,b2,bS ⟨rfl,rfl⟩]at hs;refine cH zE ⟨k+1,a⟩ (dp a) ?_;exact cB [] ⟨rfl,c9 rfl (by show aa.wrap (sw (b9 l) S k+(l.getD k au).cap)=sw (b9 l) S (k+1);rw[hs];exact dG),rfl,rfl,c6 (n:=l.length) a,bP⟩ trivial
   |true=>
    refine b8 zE (by show(!(S (l.getD k au).to.toNat))=false;rw[b2];rfl) ?_;rw[b1,b2,bQ (by rintro⟨_,c⟩;cases c)]at hs;refine cH zE ⟨k+1,a⟩ (dp a) ?_;exact cB [] ⟨rfl,c9 rfl (by rw[hs];exact(aA _).symm),rfl,rfl,c6 (n:=l.length) a,bP⟩ trivial
 obtain rfl:k=l.length:=by omega
 exact b8 zE eF (dt zE rfl zE (cL zE rfl rfl (bY.refl _)))
def eQ(S:Nat->Bool)(n:Nat):Ob:=.row 4 1 n (pn S)
theorem Ez{S:Nat->Bool}{i w q j:Nat}{a:Nat->A}{el:Nat->Nat->A}(hw:w=i)(ha:a 0= .kb true)(hj:j<1)(he:el q 0= .bool (S q)):bY (if q=w/\0<=j/\j<0+(0+1)then a (j-0)else el q j) (pn (iX S i) q j):=by
 subst hw;obtain rfl:j=0:=by omega
 unfold pn iX;by_cases e:q=w
 .rw[bS ⟨e,bl _,by omega⟩,bS e];rw[show a (0-0)= .kb true from ha];exact bY.kb _
 rw[bQ (λc=>e c.1),bQ e,he];exact bY.refl _
theorem rf.start{L:Lg}{R:Nat->Int}{n s:Nat}(h:s<n):rf L R n s (iX (λ_=>false) s) [s]:=by
 have e:∀ v,iX (λ_=>false) s v=true->v=s:=λv hv=>by
  unfold iX at hv;split at hv
  .assumption
  cases hv
 refine⟨by unfold iX;rw[bS rfl],λv hv=>?_,λv hv=>?_,λv hv hq=>?_,by have:=IQ (S:=λ_=>false) (u:=s) rfl h;have:=R4 (λ_=>false) n;simp only[aC,aN];omega⟩
 .rw[e v hv];exact⟨.refl,h⟩
 .rw[aR.1 hv];unfold iX;rw[bS rfl]
 exact(hq (by rw[e v hv];exact aZ _)).elim
theorem aic(n:Nat)(l:List dR)(s t:Nat)(hn:n<=2000)(hl:l.length<=20000)(h:∀ a∈l,mh n a)(hs:s<n)(ht:t<n)(hst:s≠t):cJ ab 33 [.int .i64 (n:Nat),fL l,.int .i64 (s:Nat),.int .i64 (t:Nat)] (.cG [.sl 1 (mP n (jv (en (b9 l)) (rm (b9 l) (dh (kv l n s t))) s)).length (cO nN (mP n (jv (en (b9 l)) (rm (b9 l) (dh (kv l n s t))) s))),.int .i64 (nr (b9 l) (jv (en (b9 l)) (rm (b9 l) (dh (kv l n s t))) s)),.int .i64 0],none):=by
 have hG:=Ay h hs ht hst;have mx:=RZ n l s t hn hl h hs ht hst;refine c8 Ar Tryz.func33 rfl ?_;refine cj zE (El n l hn hl h) (b8 zE (rfl) (cj zE (Il n s t hs ht hst) (b8 zE (rfl) (cj zE (mx) ?_))));obtain⟨F,hF⟩:∃ F,F=kv l n s t:=⟨_,rfl⟩;have hok:=R6 h hG;have hlt:=R0 hG;rw[<-hF]at hok⊢;have gT:∀ j:Nat,j<(en (b9 l)).m->cJ ab 187 [.int .i64 j,.ip 1 (bT [fL l]),.ip 1 (bT [eD F])] (.int .i64 (rm (b9 l) (dh F) j),none):=λj hj=>RN l F hok j (by have hj:j<2*l.length:=hj;omega) (by have hj:j<2*l.length:=hj;omega);have uc:(en (b9 l)).m<=40000:=by show 2*l.length<=40000;omega
 obtain⟨R,hR⟩:∃ R,R=rm (b9 l) (dh F):=⟨_,rfl⟩;rw[<-hR]at gT⊢;obtain⟨L,hL⟩:∃ L,L=en (b9 l):=⟨_,rfl⟩;rw[<-hL]at gT hlt uc⊢;refine bU zE (by show decide (0<=(n:Int)/\(n:Int)<=(n:Int)/\(n:Int).toNat*(0+1+1)<=du)=true;exact cw (by simp only[du];omega)) (bU zE (cZ hs) (bU zE (gw hs) ?_));refine zG zE ?_;refine ak (σ:={ p:(Nat->Bool)×List Nat // rf L R n s p.1 p.2 }) (λp=>[(1,fL l),(14,.ip 3 (bT (kq L n (RM l F)))),(15,.ptr 15 0),(16,.ptr 100 0)]) (λp=>[(15,.box [.own 43]),(43,eQ p.1.1 n),(100,.box [.own 101]),(101,kM p.1.2)]) (λp=>nq p.1.1 n+p.1.2.length) ⟨(iX (λ_=>false) s,[s]),rf.start hs⟩ ?_ ?_
 .refine(xX 43 (el':=pn (iX (λ_=>false) s)) rfl λq hq j hj=>?_).trans ?_
  .exact Ez (S:=λ_=>false) (i:=s) (w:=(s:Int).toNat) (a:=bT [.kb true]) (el:=λ_ j=>bT [.bool false] j) (by omega) rfl hj rfl
  exact cB [(100,16),(101,48)] ⟨rfl,rfl,rfl,rfl,bP⟩ ⟨bV,ee,bV,df rfl rfl (λq hq j hj=>row_one (cells:=nN) (x:=s) (c:=1) rfl q hq j hj),bP⟩
 rintro⟨⟨S,Q⟩,hp⟩;have hp:rf L R n s S Q:=hp;rcases Q with _|⟨v,Q⟩
 .refine b8 zE (rfl) (dt zE rfl zE ?_);have hS:=hp.end;subst hS;refine eG zE n (λk=>[(1,fL l),(15,.ptr 15 0),(18,.own 102),(82,.own 43),(83,.int .i64 (n:Nat)),(84,.int .i64 (k:Nat))]) (λk=>[(15,.box [.own 43]),(43,eQ (jv L R s) n),(102,kM (mP k (jv L R s)))]) ?_ ?_
  .refine(rj 18 102 3 1 (cO nN []) rfl rfl).trans ?_;exact cB [] ⟨rfl,rfl,rfl,rfl,rfl,rfl,bP⟩ ⟨bV,ee,df rfl rfl (λq hq=>dP hq (bg q)),bP⟩
  rintro⟨k,(hk:k<=n)⟩;by_cases a:k<n
  .refine cD zE (er (show k<n by omega)) (bU zE (cZ a) (bU zE (gw a) ?_));have po:(mP k (jv L R s)).length<=k:=by
    have:=aG (jv L R s) (aI k);simpa[mP]using this
   have e:mP (k+1) (jv L R s)=mP k (jv L R s)++if jv L R s k=true then[k]else[]:=by
    unfold mP;rw[aW,aU];congr 1;by_cases c:jv L R s k=true
    .simp[c]
    simp[c]
   cases b:jv L R s k with
   |true=>
    refine cD zE (b) ?_;rw[b,bS rfl]at e;refine bU zE (cw (by show((mP k (jv L R s)).length+1)*(7+1+1)<=du;simp only[du];omega)) (cH zE ⟨k+1,a⟩ (dp a) ?_);refine cB [(102,93)] ⟨rfl,rfl,rfl,rfl,rfl,c6 a,bP⟩ ⟨bV,ee,df rfl (by show(mP k (jv L R s)).length+1=(mP (k+1) (jv L R s)).length;rw[e];simp) (λq hq j hj=>?_),bP⟩;rw[e];exact gE (cells:=nN) (x:=k) rfl q (by rw[e]at hq;simpa using hq) j hj
   |false=>
    refine b8 zE (b) ?_;rw[b,bQ (by decide),aO]at e;refine cH zE ⟨k+1,a⟩ (dp a) ?_;exact cB [] ⟨rfl,rfl,rfl,rfl,rfl,c6 a,bP⟩ ⟨bV,ee,df rfl (by rw[e]) (λq hq j hj=>by rw[e]),bP⟩
  obtain rfl:k=n:=by omega
  exact b8 zE eF (dt zE rfl zE (cj zE (R7 k l (jv L R s) hl h) (cL zE rfl rfl (bY.refl _))))
 refine cD zE (by show decide ((((v::Q).length:Nat):Int)>0)=true;exact cw (by simp only[aC];omega)) ?_;have hlen:0<(v::Q).length:=by simp
 have mj:=(hp.r v (hp.q v aF)).2;have q1:decide (0<=(0:Int)/\(0:Int)<(((v::Q).length:Nat):Int))=true:=cw (by omega);have IU:decide ((0:Int).toNat<(v::Q).length)=true:=cw hlen;have q2:=cZ mj
 repeat' (first|(refine cN zE ?_)|(refine bU zE (q1) ?_)|(refine bU zE (IU) ?_)|(refine bU zE (q2) ?_)|(fail))
 refine zG zE ?_;refine ak (σ:={ p:Nat×(Nat->Bool)×List Nat // p.1<=(fO L v).length/\nV L R n s v S Q p.1 p.2.1 p.2.2 }) (λp=>[(0,.dA 106),(1,.ptr 105 0),(2,.ptr 104 0),(6,.sl 3 (ed L v L.m).length (cO (kp L) (ed L v L.m))),(7,.int .i64 (ed L v L.m).length),(8,.int .i64 (p.1.1:Nat))]) (λp=>[(43,eQ p.1.2.1 n),(100,.box [.own 135]),(101,.dead),(135,kM (v::p.1.2.2))]) (λp=>(ed L v L.m).length-p.1.1) ⟨(0,S,Q),bh _,nV.start hp⟩ ?_ ?_
 .refine(AJ 100 0 101 135 rfl rfl rfl rfl).gv.trans ?_;exact dD [] ⟨rfl,rfl,rfl,rfl,rfl,rfl,bP⟩ ⟨ee,bV,rfl,ee,bP⟩
 rintro⟨⟨k,S1,Q1⟩,hk,hc⟩;have hk:k<=(fO L v).length:=hk;have hc:nV L R n s v S Q k S1 Q1:=hc;by_cases a:k<(fO L v).length
 .refine cD zE (er (show k<(fO L v).length by omega)) (bU zE (cZ a) ?_);have hj:(fO L v).getD k au∈fO L v:=by rw[cV a];exact aB _
  have hj2:=vF.1 hj;have jL:=hlt _ hj2.1;have rk:=gT _ hj2.1;have hL:(fO L v).length<=9000000000000000000:=by
   have:=aG (λj=>L.lf j==v) (aI L.m);simp only[aK]at this;unfold fO;omega
  have hb:=hp.b;have lx:=hc.c;simp only[aC]at hb;refine cN zE ?_;refine cj zE (rk) (cK zE (λc=>?_) (λc=>?_))
  .have c:decide (R ((fO L v).getD k au)>0)=true:=c;refine bU zE (cZ jL) (bU zE (gw jL) ?_);cases d:S1 (L.lt ((fO L v).getD k au))with
   |true=>
    refine b8 zE (by show(!(S1 (L.lt ((fO L v).getD k au))))=false;rw[d];rfl) (cH zE ⟨(k+1,S1,Q1),a,hc.skip λ_=>d⟩ (by show(fO L v).length-(k+1)<(fO L v).length-k;omega) ?_);exact dD [] ⟨rfl,rfl,rfl,rfl,rfl,c9 rfl (je a hL),bP⟩ ⟨ee,bV,rfl,ee,bP⟩
   |false=>
    refine cD zE (by show(!(S1 (L.lt ((fO L v).getD k au))))=true;rw[d];rfl) ?_;have qm:decide (((v::Q1).length+1)*(7+1+1)<=du)=true:=cw (by simp only[aC,du];omega);have q3:=cZ jL;have IP:=gw jL
    repeat' (first|(refine cN zE ?_)|(refine bU zE (q3) ?_)|(refine bU zE (IP) ?_)|(refine bU zE (qm) ?_)|(fail))
    refine cH zE ⟨(k+1,iX S1 (L.lt ((fO L v).getD k au)),Q1++[L.lt ((fO L v).getD k au)]),a,hc.push a (hp.r v (hp.q v aF)).1 (fv c) d jL⟩ (by show(fO L v).length-(k+1)<(fO L v).length-k;omega) ?_;refine(xX 43 (el':=pn (iX S1 (L.lt ((fO L v).getD k au)))) rfl λq hq j hj=>?_).trans ?_
    .exact Ez (S:=S1) (i:=L.lt ((fO L v).getD k au)) (w:=((L.lt ((fO L v).getD k au):Nat):Int).toNat) (a:=bT [.kb true]) (el:=pn S1) (av _) rfl hj rfl
    exact dD [(135,216)] ⟨rfl,rfl,rfl,rfl,rfl,c9 rfl (je a hL),bP⟩ ⟨ee,bV,rfl,df rfl (by show(v::Q1).length+1=(v::(Q1++[_])).length;simp) (λq hq j hj=>gE (cells:=nN) (l:=v::Q1) (x:=L.lt ((fO L v).getD k au)) rfl q (by simpa[kM]using hq) j hj),bP⟩
  have c:decide (R ((fO L v).getD k au)>0)=false:=c;refine cH zE ⟨(k+1,S1,Q1),a,hc.skip λh=>dP h (eY c)⟩ (by show(fO L v).length-(k+1)<(fO L v).length-k;omega) ?_;exact dD [] ⟨rfl,rfl,rfl,rfl,rfl,c9 rfl (je a hL),bP⟩ ⟨ee,bV,rfl,ee,bP⟩
 have a:(fO L v).length=k:=by omega
 subst a;refine b8 zE eF (dt zE rfl zE (bU zE (cw ⟨by omega,by show(1:Int)<=(((v::Q1).length:Nat):Int);simp only[aC];omega,ay _⟩) (cH zE ⟨(S1,Q1),nV.next hp hc⟩ (by have:=hc.c;show nq S1 n+Q1.length<nq S n+(v::Q).length;simp only[aC];omega) ?_)));refine((Iz 135 102 rfl rfl).cell 16 0 rfl rfl (by exact bn) rfl).gv.trans ?_;refine cB [(100,16),(101,102)] ⟨rfl,rfl,rfl,rfl,bP⟩ ⟨bV,ee,bV,df rfl (by show((((v::Q1).length:Nat):Int)-1).toNat=Q1.length;simp only[aC];omega) (λq hq j hj=>?_),bP⟩;show cO nN (v::Q1) (1+q) j=cO nN Q1 q j;rw[br];rfl
def lR(side:List Nat)(v:Nat):Bool:=side.contains v
theorem R8{side:List Nat}{k:Nat}(h:k<side.length):lR (side.take (k+1))=iX (lR (side.take k)) (side.getD k au):=by
 funext v;unfold lR iX;rw[gg h,List.contains_append];generalize side.getD k au=x;by_cases e:v=x
 .rw[bS e,e];simp
 rw[bQ e];simp[e]
theorem aid(n:Nat)(l:List dR)(side:List Nat)(hn:n<=2000)(hl:l.length<=20000)(h:∀ a∈l,mh n a)(hs:∀ v∈side,v<n)(hp:side.Pairwise (· < ·))(hm:side.length<=100000):cJ ab 72 [.int .i64 (n:Nat),fL l,.sl 1 side.length (cO nN side)] (.cG [.int .i64 (nr (b9 l) (lR side)),.int .i64 0],none):=by
 refine c8 CM Tryz.func72 rfl ?_;refine cj zE (El n l hn hl h) (b8 zE (rfl) (bU zE (by show decide (0<=(n:Int)/\(n:Int)<=(n:Int)/\(n:Int).toNat*(0+1+1)<=du)=true;exact cw (by simp only[du];omega)) ?_));refine eG zE side.length (λk=>[(0,.int .i64 (n:Nat)),(1,fL l),(2,.sl 1 side.length (cO nN side)),(9,.own 19),(20,.sl 1 side.length (cO nN side)),(21,.int .i64 side.length),(22,.int .i64 (k:Nat))]) (λk=>[(19,eQ (lR (side.take k)) n)]) ?_ ?_
 .exact cB [] ⟨rfl,rfl,rfl,rfl,rfl,rfl,rfl,bP⟩ ⟨df rfl rfl (λq hq j hj=>by rw[bj.1 hj];rfl),bP⟩
 rintro⟨k,(hk:k<=side.length)⟩;by_cases a:k<side.length
 .have hv:=hs (side.getD k au) (by rw[cV a];exact aB _);have c1:=An (side.getD k au:Nat) n;rw[Ao (by omega)]at c1;refine cD zE (er (show k<side.length by omega)) (bU zE (cZ a) (cj zE (c1) (b8 zE (rfl) ?_)));by_cases b:0<k
  .have hw:aa.wrap ((k:Int)-1)=((k-1:Nat):Int):=by rw[dG];omega
   have hlt:side.getD (k-1) au<side.getD k au:=by
    rw[cV a,cV (show k-1<side.length by omega)];exact aY.1 hp _ _ _ _ (by omega)
   refine cD zE (by show decide ((k:Int)>0)=true;exact cw (by omega)) (bU zE (by show decide (0<=aa.wrap ((k:Int)-1)/\aa.wrap ((k:Int)-1)<(side.length:Int))=true;rw[hw];exact cw (by omega)) (b8 zE (by show decide (((side.getD k au:Nat):Int)<=((side.getD (aa.wrap ((k:Int)-1)).toNat au:Nat):Int))=false;rw[hw];exact dQ (by rw[av];omega)) (bU zE (cZ hv) (bU zE (gw hv) (cH zE ⟨k+1,a⟩ (dp a) ?_)))));refine(xX 19 (el':=pn (lR (side.take (k+1)))) rfl λq hq j hj=>?_).trans ?_
   .rw[R8 a];exact Ez (S:=lR (side.take k)) (i:=side.getD k au) (w:=((side.getD k au:Nat):Int).toNat) (a:=bT [.kb true]) (el:=pn (lR (side.take k))) (av _) rfl hj rfl
   exact cB [] ⟨rfl,rfl,rfl,rfl,rfl,rfl,c6 a,bP⟩ ⟨ee,bP⟩
  refine b8 zE (by show decide ((k:Int)>0)=false;exact dQ (by omega)) (bU zE (cZ hv) (bU zE (gw hv) (cH zE ⟨k+1,a⟩ (dp a) ?_)));refine(xX 19 (el':=pn (lR (side.take (k+1)))) rfl λq hq j hj=>?_).trans ?_
  .rw[R8 a];exact Ez (S:=lR (side.take k)) (i:=side.getD k au) (w:=((side.getD k au:Nat):Int).toNat) (a:=bT [.kb true]) (el:=pn (lR (side.take k))) (av _) rfl hj rfl
  exact cB [] ⟨rfl,rfl,rfl,rfl,rfl,rfl,c6 a,bP⟩ ⟨ee,bP⟩
 obtain rfl:k=side.length:=by omega
 refine b8 zE eF (dt zE rfl zE (cj zE (R7 n l (lR (side.take side.length)) hl h) (cL zE rfl rfl (?_))));rw[aP];exact bY.refl _
end Go.Proofs.YtjhmdfofhnijeaaGreatDoor
namespace Go.Proofs.YtjhmdfofhnijeaaGreatDoor
theorem IV{G:Net}{n s t:Nat}(hG:iF G n s t)(j:Nat)(hj:j<(fH G).m):(fH G).lf j<n:=hG.fr j hj
theorem aie{G:Net}{n s t:Nat}(hG:iF G n s t)(j:Nat)(hj:j<(fH G).m):(fH G).lt j<n:=hG.to j hj
def ky(G:Net)(n s t:Nat)(R:Nat->Int):List Nat:=kO (fH G) R (eL (fH G) R n t) t (eL (fH G) R n t s).toNat s
def mm(r:Int)(R:Nat->Int)(P:List Nat):Nat->Int:=λk=>if k∈P then R k-r else R k
def mQ(G:Net)(n s t:Nat):Nat->(Nat->Int)->List (List Nat×Int)
 |0,_=>[]
 |f+1,R=>if eL (fH G) R n t s<0 then[]else(ky G n s t R,gF R (ky G n s t R) 1099511627776)::mQ G n s t f (mm (gF R (ky G n s t R) 1099511627776) R (ky G n s t R))
structure rn(G:Net)(s t:Nat)(P:List Nat):Prop where
 ch:jN (fH G) s P t
 m:∀ k∈P,k<G.m
 nd:P.Nodup
theorem R9{α:Type}{f:α->Int}:∀ {P:List α},P.Pairwise (λi j=>f j<f i)->P.Nodup
 |[],_=>List.nodup_nil
 |a::P,h=>by
  obtain⟨h1,h2⟩:=List.pairwise_cons.1 h;refine aX.2 ⟨λhm=>?_,R9 h2⟩;have:=h1 a hm;omega
theorem IW{G:Net}{n s t:Nat}{R:Nat->Int}(hG:iF G n s t)(hd:0<=eL (fH G) R n t s):rn G s t (ky G n s t R)/\(∀k∈ky G n s t R,0<R k):=by
 obtain⟨hb,_⟩:=ss (L:=fH G) (R:=R) (IV hG) hG.lt;obtain⟨h1,h2,h3⟩:=Aw hb (eL (fH G) R n t s).toNat s hd (by omega);exact⟨⟨h1,λk hk=>(h3 k hk).1,R9 h2⟩,λk hk=>(h3 k hk).2.1⟩
def gG(n:Int)(P:List Nat)(k:Nat):Int:=if k∈P then n else 0
theorem IX{G:Net}{n:Int}:∀ {P:List Nat} {u w:Nat},jN (fH G) u P w->(∀k∈P,k<G.m)->P.Nodup-> ∀v,dL G (gG n P) v=(if u=v then n else 0)-(if w=v then n else 0)
 |[],u,w,hc,_,_,v=>by
  have hc:u=w:=hc;subst hc;have:dL G (gG n []) v=0:=by
   unfold dL;rw[iW (h:=λ_=>0) λk hk=>by unfold gk gG;simp,ri]
  rw[this];omega
 |j::P,u,w,hc,hm,hn,v=>by
  obtain⟨h1,h2⟩:=aX.1 hn;have h3:G.fr j=u:=hc.1;have h4:=IX (n:=n) (u:=G.to j) hc.2 (λk hk=>hm k (aD _ hk)) h2 v;have h5:dL G (gG n (j::P)) v=dL G (gG n P) v+((if G.fr j=v then n else 0)-(if G.to j=v then n else 0)):=by
   unfold dL;rw[IY (h:=gk G (gG n P) v) j (hm j aF) λk hk hne=>by unfold gk gG;simp only[aQ,hne,false_or]];have e1:gG n (j::P) j=n:=bS aF;have e2:gG n P j=0:=bQ h1;unfold gk;rw[e1,e2];split<;>split<;>omega
  rw[h5,h4,h3];omega
theorem EB(G:Net)(F H:Nat->Int)(v:Nat):dL G (λk=>F k-H k) v=dL G F v-dL G H v:=by
 unfold dL;rw[<-IZ];refine iW λk hk=>?_;simp only[gk];split<;>split<;>omega
theorem aif(G:Net)(F H:Nat->Int)(v:Nat):dL G (λk=>F k+H k) v=dL G F v+dL G H v:=by
 unfold dL;rw[<-AK];refine iW λk hk=>?_;simp only[gk];split<;>split<;>omega
theorem Sa(r:Int)(R:Nat->Int)(P:List Nat):mm r R P=λk=>R k-gG r P k:=by
 funext k;unfold mm gG;split<;>omega
theorem Sb{G:Net}{n s t:Nat}{R:Nat->Int}{P:List Nat}{r:Int}(hG:iF G n s t)(hF:iO G n s t R)(hP:rn G s t P)(h0:0<=r)(hr:∀ k∈P,r<=R k):iO G n s t (mm r R P)/\dL G (mm r R P) s=dL G R s-r:=by
 have hn:=IX (n:=r) hP.ch hP.m hP.nd;refine⟨⟨λk hk=>?_,λk hk=>?_,λv hv hvs mR=>?_⟩,?_⟩
 .unfold mm;split
  .rename_i e;have:=hr k e;omega
  exact hF.lo k hk
 .have:=hF.hi k hk;unfold mm;split<;>omega
 .rw[Sa,EB,hF.vI v hv hvs mR,hn v,bQ (bx hvs),bQ (bx mR)];rfl
 rw[Sa,EB,hn s,bS rfl,bQ (bx hG.st)];omega
theorem Sc{G:Net}{n s t:Nat}{R:Nat->Int}(hG:iF G n s t)(hd:0<=eL (fH G) R n t s):
  0<gF R (ky G n s t R) 1099511627776/\ ∀k∈ky G n s t R,gF R (ky G n s t R) 1099511627776<=R k:=
 ⟨Eu (by omega) (IW hG hd).2,(Ax R _ _).2⟩
def xY(G:Net)(s:Nat):Prop:=∀ k,k<G.m->G.to k≠s
theorem EC{G:Net}{n s t:Nat}{R:Nat->Int}(hF:iO G n s t R)(hs:xY G s):0<=dL G R s:=by
 unfold dL;rw[<-ri G.m];refine AH λk hk=>?_;have:=hF.lo k hk;unfold gk;rw[bQ (hs k hk)];split<;>omega
theorem aih{G:Net}{n s t:Nat}{R:Nat->Int}(hG:iF G n s t)(hF:iO G n s t R)(hs:xY G s)(hd:eL (fH G) R n t s<0):dL G R s=0:=by
 obtain⟨hb,hcl⟩:=ss (L:=fH G) (R:=R) (IV hG) hG.lt;have h1:=I1 (S:=λv=>decide (eL (fH G) R n t v<0)) hG hF.vI (by simpa using hd) (by simp[hb.d0]);have h2:=EC hF hs;have h3:dL G R s<=ez (λ_=>0) G.m:=by
  rw[h1];refine AH λk hk=>?_;have h4:=hF.lo k hk;have h5:=hcl k hk;by_cases e1:eL (fH G) R n t (G.fr k)<0
  .by_cases e2:eL (fH G) R n t (G.to k)<0
   .simp[e1,e2]
   have h6:¬ 0<R k:=λh=>by
    have:0<=eL (fH G) R n t (G.fr k):=h5 (by show 0<=eL (fH G) R n t (G.to k);omega) h;omega
   simp[e1,e2];omega
  by_cases e2:eL (fH G) R n t (G.to k)<0
  .simp[e1,e2];omega
  simp[e1,e2]
 rw[ri]at h3;omega
def mn:List (List Nat×Int)->Int
 |[]=>0
 |p::l=>p.2+mn l
def jf:List (List Nat×Int)->Nat->Int
 |[],_=>0
 |p::l,k=>gG p.2 p.1 k+jf l k
theorem AL{G:Net}{n s t:Nat}(hG:iF G n s t)(hs:xY G s):∀ (f:Nat) {R:Nat->Int},iO G n s t R->dL G R s<(f:Int)->
  mn (mQ G n s t f R)=dL G R s/\(∀p∈mQ G n s t f R,rn G s t p.1/\0<p.2)/\ ∀k,k<G.m->jf (mQ G n s t f R) k<=R k
 |0,R,hF,hf=>by have:=EC hF hs;simp at hf;omega
 |f+1,R,hF,hf=>by
  simp only[mQ];by_cases hd:eL (fH G) R n t s<0
  .rw[bS hd];refine⟨?_,λp hp=>(by cases hp),λk hk=>hF.lo k hk⟩;rw[aih hG hF hs hd];rfl
  rw[bQ hd];have hd:0<=eL (fH G) R n t s:=by omega
  obtain⟨h1,h2⟩:=IW hG hd;obtain⟨h3,h4⟩:=Sc hG hd;obtain⟨P,hP⟩:∃ P,P=ky G n s t R:=⟨_,rfl⟩;rw[<-hP]at h1 h2 h3 h4⊢;obtain⟨r,hr⟩:∃ r,r=gF R P 1099511627776:=⟨_,rfl⟩;rw[<-hr]at h3 h4⊢;obtain⟨h5,h6⟩:=Sb (r:=r) hG hF h1 (by omega) h4;obtain⟨g1,g2,g3⟩:=AL hG hs f h5 (by rw[h6];push_cast at hf;omega);refine⟨?_,λp hp=>?_,λk hk=>?_⟩
  .simp only[mn];rw[g1,h6];omega
  .rcases aQ.1 hp with rfl|hp
   .exact⟨h1,h3⟩
   exact g2 p hp
  have:=g3 k hk;simp only[jf];rw[show mm r R P k=if k∈P then R k-r else R k from rfl]at this;unfold gG;split at this<;>rename_i e
  .rw[bS e];omega
  rw[bQ e];omega
def kP:List (List Nat×Int)->Int->List (List Nat×Int)
 |[],_=>[]
 |p::l,v=>if v=0 then[]else(p.1,if p.2<v then p.2 else v)::kP l (v-if p.2<v then p.2 else v)
theorem I3{G:Net}{s t:Nat}:∀ {l:List (List Nat×Int)} {v:Int},(∀p∈l,rn G s t p.1/\0<p.2)->0<=v->v<=mn l->mn (kP l v)=v/\(∀p∈kP l v,rn G s t p.1/\0<=p.2)/\ ∀k,0<=jf (kP l v) k/\jf (kP l v) k<=jf l k
 |[],v,_,h0,hv=>by
  simp only[mn]at hv;exact⟨by show(0:Int)=v;omega,λp hp=>(by cases hp),λk=>⟨ay _,ay _⟩⟩
 |p::l,v,h,h0,hv=>by
  have hp:=h p aF;have hl:∀ q∈l,rn G s t q.1/\0<q.2:=λq hq=>h q (aD _ hq);simp only[kP];by_cases e:v=0
  .rw[bS e];have hu:∀ {l:List (List Nat×Int)},(∀q∈l,rn G s t q.1/\0<q.2)-> ∀k,0<=jf l k:=by
    intro l
    induction l with
    |nil=>intro _ k;exact ay _
    |cons q l ih=>
     intro hq k;have:=ih (λx hx=>hq x (aD _ hx)) k;have:=(hq q aF).2;simp only[jf,gG];split<;>omega
   exact⟨e.symm,λq hq=>(by cases hq),λk=>⟨ay _,hu h k⟩⟩
  rw[bQ e];simp only[mn]at hv⊢;obtain⟨x,hx⟩:∃ x,x=if p.2<v then p.2 else v:=⟨_,rfl⟩
  rw[<-hx];have h1:0<=x/\x<=p.2/\x<=v/\(x=v\/x=p.2):=by rw[hx];split<;>omega
  have hv2:v-x<=mn l:=by
   rcases h1.2.2.2 with h2|h2
   .have:0<=mn l:=by
     clear hv
     induction l with
     |nil=>exact ay _
     |cons q l ih=>
      have h3:=ih (λy hy=>by
       rcases aQ.1 hy with rfl|hy
       .exact hp
       exact hl y (aD _ hy)) (λy hy=>hl y (aD _ hy))
      have:=(hl q aF).2;simp only[mn];omega
    omega
   omega
  obtain⟨g1,g2,g3⟩:=I3 hl (v:=v-x) (by omega) hv2;refine⟨by rw[g1];omega,λq hq=>?_,λk=>?_⟩
  .rcases aQ.1 hq with rfl|hq
   .exact⟨hp.1,h1.1⟩
   exact g2 q hq
  have:=g3 k;simp only[jf,gG];split<;>omega
theorem I4{G:Net}{n s t:Nat}(hG:iF G n s t):∀ {l:List (List Nat×Int)},(∀p∈l,rn G s t p.1/\0<=p.2)-> ∀v,dL G (jf l) v=(if s=v then mn l else 0)-(if t=v then mn l else 0)
 |[],_,v=>by
  have:dL G (jf []) v=0:=by
   unfold dL;rw[iW (h:=λ_=>0) λk hk=>by unfold gk jf;simp,ri]
  rw[this];simp[mn]
 |p::l,h,v=>by
  have hp:=(h p aF).1;have h1:=I4 hG (λq hq=>h q (aD _ hq)) v;have h2:jf (p::l)=λk=>gG p.2 p.1 k+jf l k:=rfl;rw[h2,aif,h1,IX hp.ch hp.m hp.nd v];simp only[mn];split<;>split<;>omega
theorem aii{G:Net}{n s t f:Nat}{R:Nat->Int}(hG:iF G n s t)(hs:xY G s)(hF:iO G n s t R)(hf:dL G R s<(f:Int)){v:Int}(h0:0<=v)(hv:v<=dL G R s):
  iO G n s t (jf (kP (mQ G n s t f R) v))/\dL G (jf (kP (mQ G n s t f R) v)) s=v/\(∀k,k<G.m->jf (kP (mQ G n s t f R) v) k<=R k)/\ ∀p∈kP (mQ G n s t f R) v,rn G s t p.1/\0<=p.2:=by
 obtain⟨h1,h2,h3⟩:=AL hG hs f hF hf;obtain⟨g1,g2,g3⟩:=I3 h2 h0 (by rw[h1];exact hv);have hn:=I4 hG g2;refine⟨⟨λk hk=>(g3 k).1,λk hk=>?_,λv hv hvs mR=>?_⟩,?_,λk hk=>az (g3 k).2 (h3 k hk),g2⟩
 .exact az (az (g3 k).2 (h3 k hk)) (hF.hi k hk)
 .rw[hn v,bQ (bx hvs),bQ (bx mR)];rfl
 rw[hn s,bS rfl,bQ (bx hG.st),g1];omega
end Go.Proofs.YtjhmdfofhnijeaaGreatDoor
namespace Go.Proofs.YtjhmdfofhnijeaaGreatDoor
open Go.Sy Go.Mb
set_option maxRecDepth 100000
set_option maxHeartbeats 4000000
theorem aij(l:List Int)(hl:l.length<=1000000):cJ ab 75 [eD l] (.own 0,some (.row 3 1 l.length (cO nC l))):=by
 refine c8 CM Tryz.func75 rfl ?_;refine cK zE (λh0=>?_) (λh0=>?_)
 .refine zG zE (NS.both ?_ ?_)
  .exact zG zE (NS.aik (by simpa using h0) rfl rfl)
  refine bU zE (cw (by simp only[du];omega)) ?_;exact zG zE (aq 7 rfl rfl (bY.refl _) ⟨rfl,rfl,by simp,λi hi j hj=>by simp⟩ λi _ j hj=>by obtain rfl:j=0:=bj.1 hj;rfl)
 refine bU zE (cw (by simp only[du];omega)) ?_;exact zG zE (aq 7 rfl rfl (bY.refl _) ⟨rfl,rfl,by simp,λi hi j hj=>by simp⟩ λi _ j hj=>by obtain rfl:j=0:=bj.1 hj;rfl)
def AM(p:List Nat×Int):List A:=[.sl 1 p.1.length (cO nN p.1),.int .i64 p.2]
def I5(l:List (List Nat×Int)):A:=.sl 2 l.length (cO AM l)
structure Sd(l:List dR)(n s t:Nat)(T:List (List Nat×Int))(f:Nat)(Rl:List Int)(acc:List (List Nat×Int)):Prop where
 len:Rl.length=l.length
 fl:iO (b9 l) n s t (dh Rl)
 b:dL (b9 l) (dh Rl) s<(f:Int)
 r:acc++mQ (b9 l) n s t f (dh Rl)=T
 c:(acc.length:Int)+dL (b9 l) (dh Rl) s<=1000000000
theorem ail{r:Int}{R:Nat->Int}{P:List Nat}(hn:P.Nodup){k:Nat}(hk:k<P.length)(q:Nat):mm r R (P.take (k+1)) q=if q=P.getD k au then mm r R (P.take k) q-r else mm r R (P.take k) q:=by
 have h1:P.getD k au∉P.take k:=by
  rw[cV hk];intro hm;obtain⟨i,hi,e⟩:=a8 hm;rw[List.getElem_take]at e;rw[List.length_take]at hi;have h2:=aY.1 hn i k (by omega) hk (by omega);exact h2 e
 unfold mm;rw[gg hk];by_cases e:q=P.getD k au
 .rw[bS (by rw[e];simp),bS e,bQ (by rw[e];exact h1)]
 rw[bQ e];by_cases e2:q∈P.take k
 .rw[bS (aT _ e2),bS e2]
 rw[bQ (by rw[bc,aR];rintro(c|c);exact e2 c;exact e c),bQ e2]
theorem aim(F:List Int)(k:Nat)(hk:k<F.length):cJ ab 77 [.int .i64 (k:Nat),.ip 1 (bT [eD F])] (.int .i64 (dh F k),none):=by
 refine c8 CM Tryz.func77 rfl ?_;exact bU zE (cZ hk) (cL zE rfl rfl (bY.refl _))
noncomputable def CPa:Cx:={ E:=Io,inl:=[76],ok:=RE }
theorem ain(n:Nat)(l:List dR)(F:List Int)(s t:Nat)(hn:n<=2000)(hl:l.length<=20000)(h:∀ a∈l,mh n a)(hs:s<n)(ht:t<n)(hst:s≠t)(hF:F.length=l.length)(hf:iO (b9 l) n s t (eE F))(hv:dL (b9 l) (eE F) s<=1000000000)(hno:xY (b9 l) s):cJ ab 35 [.int .i64 (n:Nat),fL l,eD F,.int .i64 (s:Nat),.int .i64 (t:Nat)] (.cG [I5 (mQ (b9 l) n s t ((dL (b9 l) (dh F) s).toNat+1) (dh F)),.int .i64 0],none):=by
 refine c8 CPa Tryz.func35 rfl ?_;refine cj zE (R2 n l F s t hn hl h hs ht hst hF hf) (b8 zE (rfl) (cj zE (aij F (by omega)) (cN zE ?_)));refine bU zE (by show decide (0<=(n:Int)/\(n:Int)<=(n:Int)/\(n:Int).toNat*(23+1+1)<=du)=true;exact cw (by simp only[du];omega)) (bU zE (by show decide (0<=(n:Int)/\(n:Int)<=(n:Int)/\(n:Int).toNat*(23+1+1)<=du)=true;exact cw (by simp only[du];omega)) ?_);have hG:=Ay h hs ht hst;refine eG zE l.length (λk=>[(3,.int .i64 (s:Nat)),(4,.int .i64 (t:Nat)),(14,.ptr 14 0),(15,.ptr 114 0),(41,fL l),(42,.int .i64 l.length),(43,.int .i64 (k:Nat))]) (λk=>[(14,.box [.own 37]),(37,.row 3 1 F.length (cO nC F)),(95,.dead),(97,.dead),(114,.box [.rv 110 n,.rv 112 n,.fn 77 [.ptr 14 0]]),(110,pg (fH (b9 l)) (λv=>ed (fH (b9 l)) v k) n),(112,pg (fH (b9 l)) (λv=>dI (fH (b9 l)) v k) n)]) ?_ ?_
 .refine((Az 95 110 180 3 (by rfl) (λk hk=>rfl) rfl).cell 100 0 rfl rfl rfl).gv.trans ?_;refine((Az 97 112 180 3 (by rfl) (λk hk=>rfl) rfl).cell 100 1 rfl rfl rfl).gv.trans ?_;exact cB [(114,100)] ⟨rfl,rfl,rfl,rfl,rfl,rfl,rfl,bP⟩ ⟨bV,ee,rfl,rfl,bV,⟨_,_,_,rfl,λi hi=>⟨rfl,λq hq=>dP hq (bg q)⟩,(by exact bP)⟩,⟨_,_,_,rfl,λi hi=>⟨rfl,λq hq=>dP hq (bg q)⟩,(by exact bP)⟩,bP⟩
 rintro⟨k,(hk:k<=l.length)⟩;by_cases a:k<l.length
 .have ok:=h (l.getD k au) (by rw[cV a];exact aB _);refine cD zE (er (show k<l.length by omega)) (bU zE (cZ a) ?_);have iu:=ok.fr;have jK:=ok.to;refine zG zE (NS.xo (P:=ab) (vals:=_) (objs1:=gO n (fH (b9 l)) k 115 110 112 (.fn 77 [.ptr 14 0]) (Iu F++[(17,Ob.box (l.getD k au).cells)])) (jJ.refl _) (by kernel_rfl) (db.cons (bY.refl _) (db.cons (bY.refl _) (db.cons (bY.lr (by show(l.getD k au).fr=((l.getD k au).fr.toNat:Int);omega)) (db.cons (bY.lr (by show(l.getD k au).to=((l.getD k au).to.toNat:Int);omega)) db.nil)))) (by kernel_rfl) (ah0 F n l (l.getD k au) k hn (by omega) (by show(l.getD k au).fr.toNat<n;omega) (by show(l.getD k au).to.toNat<n;omega)) rfl ?_);refine cH zE ⟨k+1,a⟩ (dp a) ?_;exact cB [(110,116),(112,117)] ⟨rfl,rfl,rfl,rfl,rfl,rfl,c6 a,bP⟩ ⟨bV,ee,rfl,rfl,bV,⟨_,_,_,rfl,λi hi=>⟨rfl,λq hq j hj=>rfl⟩,(by exact bP)⟩,⟨_,_,_,rfl,λi hi=>⟨rfl,λq hq j hj=>rfl⟩,(by exact bP)⟩,bP⟩
 obtain rfl:k=l.length:=by omega
 refine b8 zE eF (dt zE rfl zE ?_);refine Sat.wk (((AA 110 rfl).cell 114 0 rfl rfl rfl).trans ((AA 112 rfl).cell 114 1 rfl rfl rfl)).gv ?_;have h0:(dL (b9 l) (dh F) s)<(((dL (b9 l) (dh F) s).toNat+1:Nat):Int):=by omega
 generalize(dL (b9 l) (dh F) s).toNat+1=f0 at*;obtain⟨T,hT⟩:∃ T,T=mQ (b9 l) n s t f0 (dh F):=⟨_,rfl⟩;rw[<-hT];have uc:(fH (b9 l)).m<=40000:=by show l.length<=40000;omega
 refine zG zE ?_;refine ak (σ:={ p:Nat×List Int×List (List Nat×Int) // Sd l n s t T p.1 p.2.1 p.2.2 }) (λp=>[(3,.int .i64 (s:Nat)),(4,.int .i64 (t:Nat)),(14,.ptr 14 0),(15,.ptr 114 0),(18,.own 115)]) (λp=>[(14,.box [.own 37]),(37,.row 3 1 p.1.2.1.length (cO nC p.1.2.1)),(114,.box (kq (fH (b9 l)) n (.fn 77 [.ptr 14 0]))),(115,.row 204 2 p.1.2.2.length (cO AM p.1.2.2))]) (λp=>p.1.1) ⟨(f0,F,[]),⟨hF,hf,h0,hT.symm,by have hv:dL (b9 l) (dh F) s<=1000000000:=hv;show((0:Nat):Int)+dL (b9 l) (dh F) s<=1000000000;omega⟩⟩ ?_ ?_
 .refine(rj 18 115 204 2 (cO AM []) rfl rfl).trans ?_;exact cB [] ⟨rfl,rfl,rfl,rfl,rfl,bP⟩ ⟨bV,ee,bV,df rfl rfl (λq hq=>dP hq (bg q)),bP⟩
 rintro⟨⟨f,E,acc⟩,hp⟩;have hp:Sd l n s t T f E acc:=hp;have gx:=hp.fl;have hE:=hp.len;have gT:∀ j:Nat,j<(fH (b9 l)).m->cJ ab 77 [.int .i64 j,.ip 1 (bT [eD E])] (.int .i64 (dh E j),none):=λj hj=>aim E j (by rw[hE];exact hj);have hlf:=IV hG;have hlt:=aie hG;by_cases hd:eL (fH (b9 l)) (dh E) n t s<0
 .refine cj zE (ah7 _ _ E n s t uc hn hs ht hlf gT hd) (cD zE (rfl) ?_);have e:acc=T:=by
   have:=hp.r;have h2:mQ (b9 l) n s t f (dh E)=[]:=by
    cases f with
    |zero=>rfl
    |succ f=>exact bS hd
   rw[h2,aO]at this;exact this
  subst e;exact zG zE (al rfl rfl (bY.refl _))
 have hd:0<=eL (fH (b9 l)) (dh E) n t s:=by omega
 have pk:=ah8 _ _ E n s t uc hn hs ht hlf gT hlt hd;change cJ _ _ _ (_,some (kM (ky (b9 l) n s t (dh E))))at pk;refine cj zE (pk) (b8 zE (rfl) ?_);obtain⟨hq,hq2⟩:=IW hG hd;obtain⟨mO,fD⟩:=Sc hG hd;have jO:=(Ax (dh E) (ky (b9 l) n s t (dh E)) 1099511627776).1;have hln:(ky (b9 l) n s t (dh E)).length<=1000000:=by
  have h1:=IH (fH (b9 l)) (dh E) (eL (fH (b9 l)) (dh E) n t) t (eL (fH (b9 l)) (dh E) n t s).toNat s;have h2:=Es (R:=dh E) hlf ht s;unfold ky;omega
 have lk:=ah9 (fH (b9 l)) _ E n gT (ky (b9 l) n s t (dh E)) hq.m hln;have xV:∀ f',f=f'+1->mQ (b9 l) n s t f (dh E)=(ky (b9 l) n s t (dh E),gF (dh E) (ky (b9 l) n s t (dh E)) 1099511627776)::mQ (b9 l) n s t f' (mm (gF (dh E) (ky (b9 l) n s t (dh E)) 1099511627776) (dh E) (ky (b9 l) n s t (dh E))):=λf' e=>by
  subst e;exact bQ (by omega)
 obtain⟨r,hr⟩:∃ r,r=gF (dh E) (ky (b9 l) n s t (dh E)) 1099511627776:=⟨_,rfl⟩;rw[<-hr]at lk mO fD jO xV;generalize ky (b9 l) n s t (dh E)=P at*;obtain⟨g1,g2⟩:=Sb (r:=r) hG gx hq (by omega) fD;refine cj zE (lk) ?_;refine zG zE ?_;refine ak (σ:={ p:Nat×List Int // p.1<=P.length/\p.2.length=E.length/\ ∀q,dh p.2 q=mm r (dh E) (P.take p.1) q }) (λp=>[(3,.int .i64 (s:Nat)),(4,.int .i64 (t:Nat)),(14,.ptr 14 0),(15,.ptr 114 0),(18,.own 115),(19,.own 60),(21,.int .i64 r),(69,.own 60),(70,.int .i64 P.length),(71,.int .i64 (p.1.1:Nat))]) (λp=>[(14,.box [.own 37]),(37,.row 3 1 p.1.2.length (cO nC p.1.2)),(60,kM P),(114,.box (kq (fH (b9 l)) n (.fn 77 [.ptr 14 0]))),(115,.row 204 2 acc.length (cO AM acc))]) (λp=>P.length-p.1.1) ⟨(0,E),bh _,rfl,λq=>rfl⟩ ?_ ?_
 .exact cB [] ⟨rfl,rfl,rfl,rfl,rfl,rfl,rfl,rfl,rfl,rfl,bP⟩ ⟨bV,ee,ee,bV,ee,bP⟩
 rintro⟨⟨k,E1⟩,hk,hE1,hF1⟩;have hk:k<=P.length:=hk;have hE1:E1.length=E.length:=hE1;have hF1:∀ q,dh E1 q=mm r (dh E) (P.take k) q:=hF1;by_cases a:k<P.length
 .have hm:=hq.m (P.getD k au) (by rw[cV a];exact aB _);have hm:P.getD k au<l.length:=hm;have Ey:=h (l.getD (P.getD k au) au) (by rw[cV hm];exact aB _);have hcp:=Ey.cap;have hlo:=gx.lo (P.getD k au) hm;have hhi:dh E (P.getD k au)<=(l.getD (P.getD k au) au).cap:=gx.hi (P.getD k au) hm;have su:P.getD k au<E1.length:=by omega
  have I6:dh E1 (P.getD k au)<=dh E (P.getD k au)/\0-1099511627776<=dh E1 (P.getD k au):=by
   rw[hF1];unfold mm;split<;>omega
  have q1:=cZ a;have IU:=gw a;have q2:=cZ su;have AF:=gw su;refine cD zE (er (show k<P.length by omega)) (bU zE (q1) (bU zE (IU) (bU zE (q2) (bU zE (AF) (bU zE (q2) (bU zE (AF) ?_))))));have hE2:dh (E1.set (P.getD k au) (E1.getD (P.getD k au) 0-r))=λq=>if q=P.getD k au then E1.getD (P.getD k au) 0-r else dh E1 q:=Ev su
  refine cH zE ⟨(k+1,E1.set (P.getD k au) (E1.getD (P.getD k au) 0-r)),a,by show(E1.set _ _).length=E.length;rw[aM,hE1],λq=>?_⟩ (by show P.length-(k+1)<P.length-k;omega) ?_
  .rw[ail hq.nd a,<- hF1];refine(congrFun hE2 q).trans ?_;by_cases e:q=P.getD k au
   .rw[bS e,bS e,e];rfl
   rw[bQ e,bQ e]
  refine cB [] ⟨rfl,rfl,rfl,rfl,rfl,rfl,rfl,rfl,rfl,c6 a,bP⟩ ⟨bV,df rfl (by show E1.length=(E1.set _ _).length;rw[aM]) (λq hq j hj=>IK (i:=P.getD k au) rfl su ?_ hj),ee,bV,ee,bP⟩;show A.int .i64 (aa.wrap (dh E1 (P.getD k au)-r))=A.int .i64 (dh E1 (P.getD k au)-r);rw[dG]
 have a:P.length=k:=by omega
 subst a;refine b8 zE eF (dt zE rfl zE ?_);refine Sat.wk (ED 19 60 rfl rfl) ?_;rw[aP]at hF1;have hF2:dh E1=mm r (dh E) P:=funext hF1;have ly:=EC gx hno;have ary:=EC g1 hno;have hc:=hp.c;have hb:=hp.b;obtain⟨f',rfl⟩:∃ f',f=f'+1:=⟨f-1,by omega⟩;refine bU zE (cw (by show(acc.length+1)*(31+1+1)<=du;simp only[du];omega)) (cH zE ⟨(f',E1,acc++[(P,r)]),⟨by rw[hE1,hE],by rw[hF2];exact g1,by rw[hF2,g2];omega,?_,?_⟩⟩ (bk f') ?_)
 .have h1:=hp.r;rw[xV f' rfl]at h1;rw[hF2,aV];exact h1
 .rw[hF2,g2];simp only[aJ,aC,aN];omega
 exact cB [(115,88)] ⟨rfl,rfl,rfl,rfl,rfl,bP⟩ ⟨bV,ee,bV,df rfl (by show acc.length+1=(acc++[(P,r)]).length;simp) (λq hq j hj=>gE (cells:=AM) (x:=(P,r)) rfl q (by simpa using hq) j hj),bP⟩
end Go.Proofs.YtjhmdfofhnijeaaGreatDoor
